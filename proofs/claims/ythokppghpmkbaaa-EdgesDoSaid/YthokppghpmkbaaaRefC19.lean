/- Layer 19's reference, called: each answer in plain words. -/
import Derived.Test.YthokppghpmkbaaaSim19
import Derived.Test.YthokppghpmkbaaaGraphT
import Derived.Test.YthokppghpmkbaaaGraphD
namespace Go.Proofs.Ythokppghpmkbaaa.Pl
open Go Go.RowKit Go.Proofs.Ythokppghpmkbaaa.Mi Go.Proofs.Ythokppghpmkbaaa.Ed Go.Proofs.Ythokppghpmkbaaa.PR Go.Proofs.YthokppghpmkbaaaW.PrintWords Go.Proofs.YthokppghpmkbaaaW.PrintLast
set_option linter.unusedVariables false
set_option linter.unusedSimpArgs false

abbrev kE := k141
abbrev tE : Nat := 141
section
variable (w : World) (A0 : Option Addr) (c0 : Nat)
theorem same_c (l0 : List Int) (A1 : Option Addr) (c1 : Nat) (l1 : List Int) (h0 : Kd.C (Kd.int .i64) w A0 l0.length l0) (hc0 : l0.length ≤ c0) (h1 : Kd.C (Kd.int .i64) w A1 l1.length l1) (hc1 : l1.length ≤ c1) (hb : l0.length ≤ BIG) :
    Calls Try.prog 25 #[.slice A0 l0.length c0, .slice A1 l1.length c1] w fun e w' => e = .returned (.int .i64 (if l0 = l1 then 1 else 0)) ∧ Below w.heap.size w w' := by
  obtain ⟨k, hk⟩ := (same_ev l0 l1 hb).rounds
  refine (almonrylaw09_Same.calls k A0 c0 l0 A1 c1 l1 _ w h0 hc0 h1 hc1 hk).mono ?_
  rintro e w' ⟨rfl, ⟨n, rfl⟩⟩
  exact ⟨rfl, pw_below_drewN (Below.refl _ _) n⟩
variable (l : List Eqn) (h0 : Kd.C kE w A0 l.length l) (hc0 : l.length ≤ c0) (hl : l.length ≤ BIG)
include h0 hc0 hl
theorem find_c (a : Int) : Calls Try.prog 27 #[.slice A0 l.length c0, .int .i64 a] w fun e w' => e = .returned (.int .i64 (findI l a)) ∧ Below w.heap.size w w' := by
  obtain ⟨k, hk⟩ := (find_ev l a hl).rounds
  refine (almonryref19_Find.calls k A0 c0 l a _ w h0 hc0 hk).mono ?_
  rintro e w' ⟨rfl, ⟨n, rfl⟩⟩
  exact ⟨rfl, pw_below_drewN (Below.refl _ _) n⟩
theorem edges_c (ht : totalL l ≤ BIG) : Calls Try.prog 30 #[.slice A0 l.length c0] w fun e w' => e = .returned (.int .i64 (totalL l)) ∧ Below w.heap.size w w' := by
  obtain ⟨k, hk⟩ := (edges_ev l hl ht).rounds
  refine (almonryref19_Edges.calls k A0 c0 l _ w h0 hc0 hk).mono ?_
  rintro e w' ⟨rfl, ⟨n, rfl⟩⟩
  exact ⟨rfl, pw_below_drewN (Below.refl _ _) n⟩
theorem of_c (b : Int) (hr : ∀ q ∈ l, q.f1.length ≤ BIG) (hn : (keysOf l).Nodup) : Calls Try.prog 23 #[.slice A0 l.length c0, .int .i64 b] w fun e w' => ∃ v, e = .returned v ∧ Kd.R (Kd.int .i64) 3 w' w.heap.size (fun _ => True) v (ofL l b) ∧ Below w.heap.size w w' := by
  obtain ⟨k, hk⟩ := (of_ev l b hl hr hn).rounds
  exact almonryref19_Of.calls k A0 c0 l b _ w h0 hc0 hk
theorem take_c (b : Int) (hr : ∀ q ∈ l, q.f1.length ≤ BIG) : Calls Try.prog 24 #[.slice A0 l.length c0, .int .i64 b] w fun e w' => ∃ v, e = .returned v ∧ Kd.V kE tE w' w'.heap.size (fun k => w.heap.size ≤ k ∧ k < w'.heap.size) v (takeL l b) ∧ Below w.heap.size w w' := by
  obtain ⟨k, hk⟩ := (take_ev l b hl hr).rounds
  refine (almonryref19_Take.calls k A0 c0 l b _ w h0 hc0 hk).mono ?_
  rintro e w' ⟨v, rfl, h1, h2⟩
  exact ⟨v, rfl, Kd.V_mono (Kd.S_V (Kd.S_bound h1)) (fun k hk => ⟨hk.2.1, hk.2.2.1⟩), h2⟩
end
section
variable (w : World) (A0 : Option Addr) (c0 : Nat) (l : List Eqn) (F : Nat → Prop) (h0 : Kd.F kE w F A0 l.length l) (hc0 : l.length ≤ c0) (hl : l.length ≤ BIG)
include h0 hc0 hl
theorem add_c (n : Int) (A2 : Option Addr) (c2 : Nat) (bs : List Int) (h2 : Kd.C (Kd.int .i64) w A2 bs.length bs) (hc2 : bs.length ≤ c2) (hb : bs.length ≤ BIG) :
    Calls Try.prog 21 #[.slice A0 l.length c0, .int .i64 n, .slice A2 bs.length c2] w fun e w' => ∃ v, e = .returned (.tuple #[v, .bool (addL l n bs).2]) ∧ Kd.V kE tE w' w'.heap.size (fun k => F k ∨ w.heap.size ≤ k) v (addL l n bs).1 ∧ Below w.heap.size w w' := by
  obtain ⟨k, hk⟩ := (add_ev l n bs hl hb).rounds
  exact almonryref19_Add.calls k F A0 c0 l n A2 c2 bs _ _ w ⟨A0, c0, rfl, hc0, h0⟩ h2 hc2 hk
theorem drop_c (n : Int) : Calls Try.prog 28 #[.slice A0 l.length c0, .int .i64 n] w fun e w' => ∃ v, e = .returned v ∧ Kd.V kE tE w' w'.heap.size (fun k => F k ∨ w.heap.size ≤ k) v (dropL l n) ∧ Below w.heap.size w w' := by
  obtain ⟨k, hk⟩ := (drop_ev l n hl).rounds
  refine (almonryref19_Drop.calls k F A0 c0 l n _ w ⟨A0, c0, rfl, hc0, h0⟩ hk).mono ?_
  rintro e w' ⟨v, rfl, h1, h2⟩
  exact ⟨v, rfl, Kd.N_V h1, h2⟩
end
end Go.Proofs.Ythokppghpmkbaaa.Pl
