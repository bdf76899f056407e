/- Layer 19's laws: one equation (speaks). -/
import Derived.Test.YthokppghpmkbaaaRefC19
import Derived.WalkSpells
import Derived.Deep.DeepMust
namespace Go.Proofs.Ythokppghpmkbaaa.Pl
open Go Go.RowKit Go.Proofs.Ythokppghpmkbaaa.Mi Go.Proofs.Ythokppghpmkbaaa.Ed Go.Proofs.YthokppghpmkbaaaW.PrintWords Go.Proofs.YthokppghpmkbaaaW.PrintLast
set_option linter.unusedVariables false
set_option linter.unusedSimpArgs false

abbrev gZero : Obj := .cells #[.map none, .map none, .int .i64 0, .int .i64 0] 26 (0, 0)
theorem gr_new (w : World) : IsGr (w.alloc gZero) w.heap.size (fun k => k = w.heap.size) [] 0 :=
  ⟨[], ⟨rfl, .inl ⟨rfl, rfl, heap_alloc_new w gZero⟩⟩, fun b => rfl, by simp [Srt], by simp, by simp [Srt]⟩
theorem IsGr.al {w : World} {g : Nat} {F : Nat → Prop} {R : Eqs} {p : Int} (h : IsGr w g F R p) (o : Obj) : IsGr (w.alloc o) g F R p := h.fr (S := fun _ => False) ((Fr.refl _ _).alloc o) (fun _ _ h => h)
theorem IsGr.bel {w w1 : World} {g : Nat} {F : Nat → Prop} {R : Eqs} {p : Int} (h : IsGr w g F R p) (hb : Below w.heap.size w w1) : IsGr w1 g F R p := h.fr (S := fun _ => False) ((Fr.refl _ _).below hb) (fun _ _ h => h)
/-- A new row of numbers, and what it is read as. -/
theorem newRow (w : World) (k : IntKind) (e : Nat) (xs : List Int) (b : Nat) (hb : w.heap.size = b) (hl : xs.length ≤ BIG) : Kd.F (Kd.int k) (w.alloc (.cells (xs.map (Value.int k)).toArray e (0, 0))) (fun j => j = b) (some ⟨b, 0, none⟩) xs.length xs := by
  subst hb
  intro W' hW
  have hb : W'.heap[w.heap.size]? = some (.cells (xs.map (Value.int k)).toArray e (0, 0)) := (hW _ rfl (by simp)).trans (heap_alloc_new w _)
  refine ⟨rfl, by unfold BIG at hl; omega, fun _ => ⟨⟨w.heap.size, 0, none⟩, rfl, fun j p hj => ⟨[.int k p], rfl, rfl, fun i u hu => ?_⟩⟩⟩
  match i, hu with
  | 0, hu =>
    cases hu
    have h1 := blk_cell hb j
    have h2 : (⟨w.heap.size, 0, none⟩ : Addr).add (j * (Kd.int k).sz + 0) = ⟨w.heap.size, j, none⟩ := by
      have : (Kd.int k).sz = 1 := rfl
      rw [this, Nat.mul_one, Nat.add_zero]
      unfold Addr.add
      split
      · rename_i h; subst h; rfl
      · simp
    rw [h2, h1]
    simp [hj]
theorem same_yes {w : World} {A0 A1 : Option Addr} {c0 c1 : Nat} {l0 l1 : List Int} (h0 : Kd.C (Kd.int .i64) w A0 l0.length l0) (hc0 : l0.length ≤ c0) (h1 : Kd.C (Kd.int .i64) w A1 l1.length l1) (hc1 : l1.length ≤ c1) (hb : l0.length ≤ BIG) (he : l0 = l1) :
    Calls Try.prog 25 #[.slice A0 l0.length c0, .slice A1 l1.length c1] w fun e w' => e = .returned (.int .i64 1) ∧ Below w.heap.size w w' := by
  have := same_c w A0 c0 l0 A1 c1 l1 h0 hc0 h1 hc1 hb
  rwa [if_pos he] at this
set_option maxHeartbeats 2000000
set_option maxRecDepth 100000
theorem speaks_calls (w : World) : Calls Try.prog 20 #[] w fun e w' => e = .returned (.bool true) ∧ Below w.heap.size w w' := by
  have HB := (Fr.refl w (fun k => w.heap.size ≤ k)).alloc gZero
  have HA1 := Aside0.mk (add_gr w.heap.size (fun k => k = w.heap.size) [] 0 ((w.alloc gZero).alloc (.cells #[.int .i64 1, .int .i64 2] 3 (0, 0))) (IsGr.al (gr_new w) _) 7 (some ⟨w.heap.size + 1, 0, none⟩) 2 [1, 2] rfl (by simp) (fun k => k = w.heap.size + 1)
    (newRow (w.alloc gZero) .i64 3 [1, 2] (w.heap.size + 1) (by simp) (by decide)) (fun k hk hk2 => by omega) (by decide) (by decide))
  have HF1 := Aside0.mk (fun (w1 : World) (hf : Fr ((w.alloc gZero).alloc (.cells #[.int .i64 1, .int .i64 2] 3 (0, 0))) w1 (fun k => k = w.heap.size)) => ((HB.alloc (.cells #[.int .i64 1, .int .i64 2] 3 (0, 0))).trans hf (fun k hk => .inl (Nat.le_of_eq hk.symm))))
  clear HB
  have hsm1 : Sm (ins 7 (addS [1, 2]) []) := ⟨by decide, by decide⟩
  have hsm2 : Sm (takeR 1 (ins 7 (addS [1, 2]) [])) := ⟨by decide, by decide⟩
  have hq1 : ofR 1 (ins 7 (addS [1, 2]) []) = [7] := by decide
  have hq2 : (lkp 7 (takeR 1 (ins 7 (addS [1, 2]) []))).getD [] = [2] := by decide
  go_enter Try.func20, Try.ntmps20
  go_wp2_with (first
    | (go_at_call 22; refine HA1.out.mono ?_; rintro e1 w1 ⟨rfl, hg1, hf1⟩; have HG1 := Aside0.mk hg1; have HX1 := Aside0.mk (HF1.out w1 hf1); clear hg1 hf1 HF1 HA1)
    | (go_at_call 22; refine (add_there w.heap.size _ _ _ _ (IsGr.al HG1.out _) 7 _ _ [3] (addS [1, 2]) ?_).mono ?_; rfl; rintro e2 w2 ⟨rfl, rfl⟩)
    | (go_at_call 26; refine (take_gr w.heap.size _ _ _ _ (IsGr.al HG1.out _) hsm1 1).mono ?_; rintro e3 w3 ⟨v3, rfl, hr3, hg3, hf3⟩; rw [hq1] at hr3; obtain ⟨A3, c3, rfl, hl3, hc3⟩ := Kd.R_reads hr3; have HR3 := Aside0.mk hc3; have HL3 := Aside0.mk hl3; have HG3 := Aside0.mk hg3; have HX3 := Aside0.mk ((HX1.out.alloc _).trans hf3 (fun k hk => by rcases hk with hk | hk; exact .inr (Nat.le_of_eq hk.symm); exact .inr (by simp at hk; omega))); clear hr3 hc3 hg3 hf3 hl3)
    | (go_at_call 25; refine (same_yes (l0 := [7]) (l1 := [7]) (Kd.C_alloc HR3.out _) HL3.out (Kd.F_now (newRow w3 .i64 3 [7] w3.heap.size rfl (by decide))) (Nat.le_refl _) (by decide) rfl).mono ?_; rintro e4 w4 ⟨rfl, hb4⟩; have HG4 := Aside0.mk (IsGr.bel (IsGr.al HG3.out _) hb4); have HX4 := Aside0.mk ((HX3.out.alloc _).below hb4); clear hb4 HR3)
    | (go_at_call 85; refine (rest_gr w.heap.size _ _ _ _ HG4.out hsm2 7).mono ?_; rintro e5 w5 ⟨v5, rfl, hr5, hb5⟩; rw [hq2] at hr5; obtain ⟨A5, c5, rfl, hl5, hc5⟩ := Kd.R_reads hr5; have HR5 := Aside0.mk hc5; have HL5 := Aside0.mk hl5; have HG5 := Aside0.mk (IsGr.bel HG4.out hb5); have HX5 := Aside0.mk (HX4.out.below hb5); clear hr5 hc5 hb5 hl5)
    | (go_at_call 25; refine (same_yes (l0 := [2]) (l1 := [2]) (Kd.C_alloc HR5.out _) HL5.out (Kd.F_now (newRow w5 .i64 3 [2] w5.heap.size rfl (by decide))) (Nat.le_refl _) (by decide) rfl).mono ?_; rintro e6 w6 ⟨rfl, hb6⟩; have HG6 := Aside0.mk (IsGr.bel (IsGr.al HG5.out _) hb6); have HX6 := Aside0.mk ((HX5.out.alloc _).below hb6); clear hb6 HR5)
    | (go_at_call 86; refine (edges_gr w.heap.size _ _ _ _ HG6.out).mono ?_; rintro e7 w7 ⟨rfl, rfl⟩)
    | (go_at_call 87; refine (most_gr w.heap.size _ _ _ _ HG6.out).mono ?_; rintro e7 w7 ⟨rfl, rfl⟩)
    | (go_at_call 88; refine (equations_gr w.heap.size _ _ _ _ HG6.out).mono ?_; rintro e7 w7 ⟨rfl, rfl⟩))
  go_ret
  exact ⟨rfl, HX6.out.to_below (fun k hk => hk) (Nat.le_refl _)⟩
end Go.Proofs.Ythokppghpmkbaaa.Pl
