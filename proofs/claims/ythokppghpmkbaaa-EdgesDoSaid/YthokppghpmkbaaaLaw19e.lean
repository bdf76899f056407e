/- Layer 19's laws: all equations are the document's (same). -/
import Derived.Test.YthokppghpmkbaaaLaw19s
import Derived.Deep.RegionHeld3
namespace Go.Proofs.Ythokppghpmkbaaa.Pl
open Go Go.RowKit Go.Proofs.Ythokppghpmkbaaa.Mi Go.Proofs.Ythokppghpmkbaaa.Ed Go.Proofs.Ythokppghpmkbaaa.PR Go.Proofs.YthokppghpmkbaaaW.PrintWords Go.Proofs.YthokppghpmkbaaaW.PrintLast
set_option linter.unusedVariables false
set_option linter.unusedSimpArgs false

/-- Two cells that a region reads, and that nothing elder has turned. -/
abbrev Two (w1 : World) (p0 p1 : Addr) (u0 u1 : Value) (w' : World) : Prop := w'.cell? p0 = some u0 ∧ w'.cell? p1 = some u1 ∧ Below w1.heap.size w1 w'
theorem Two.step {w1 w2 w3 : World} {p0 p1 : Addr} {u0 u1 : Value} (h : Two w1 p0 p1 u0 u1 w2) (hb : Below w2.heap.size w2 w3) : Two w1 p0 p1 u0 u1 w3 :=
  ⟨(hb.cell (World.block_lt_of_cell? w2 _ h.1)).trans h.1, (hb.cell (World.block_lt_of_cell? w2 _ h.2.1)).trans h.2.1, below_step h.2.2 hb⟩
abbrev One (w1 : World) (p0 : Addr) (u0 : Value) (w' : World) : Prop := w'.cell? p0 = some u0 ∧ Below w1.heap.size w1 w'
theorem One.step {w1 w2 w3 : World} {p0 : Addr} {u0 : Value} (h : One w1 p0 u0 w2) (hb : Below w2.heap.size w2 w3) : One w1 p0 u0 w3 :=
  ⟨(hb.cell (World.block_lt_of_cell? w2 _ h.1)).trans h.1, below_step h.2 hb⟩
set_option maxHeartbeats 2000000
set_option maxRecDepth 100000
theorem same_calls (w : World) (g : Nat) (F : Nat → Prop) (R : Eqs) (peak : Int) (hI : IsGr w g F R peak) (hsm : Sm R) (A0 : Option Addr) (c0 : Nat) (l : List Eqn) (h0 : Kd.C kE w A0 l.length l) (hc0 : l.length ≤ c0) (hS : Sim l R) :
    Calls Try.prog 31 #[.pointer (some ⟨g, 0, none⟩), .slice A0 l.length c0, .int .i64 peak] w fun e w' => e = .returned (.bool true) ∧ Below w.heap.size w w' := by
  have HI := Aside0.mk hI
  have HS := Aside0.mk hS
  have HR := Aside0.mk h0
  have HC := Aside0.mk hc0
  have hll : l.length ≤ 1099511627776 := by rw [← hS.length]; exact hsm.2
  have htt : totalL l ≤ BIG := by rw [hS.total]; exact hsm.1
  have HB := Aside0.mk (Below.refl w.heap.size w)
  clear hI hS h0 hc0
  go_enter Try.func31, Try.ntmps31
  go_wp2
  go_loopg [11] l.length (fun kq v wr => ∃ x : Int, v = .int .i64 x ∧ Aside0 (0 ≤ x) ∧ Aside0 (x ≤ l.length) ∧ Aside0 ((kq : Int) = l.length - x) ∧ Aside0 (Below w.heap.size w wr))
  case atStart => exact ⟨0, rfl, ⟨by omega⟩, ⟨by omega⟩, ⟨by omega⟩, HB⟩
  case round =>
    obtain ⟨x, rfl, H0, HL, HQ, HB1⟩ := hrel
    clear HB
    by_cases hx : x < (l.length : Int)
    · have HX := Aside0.mk hx
      have p0 : (0 ≤ x) = True := eq_true H0.out
      have p1 := eq_true hx
      obtain ⟨ad, A1, c1, hA, hx0, hx1, hl1, hi1⟩ := at_T141 (Kd.C_below HR.out HB1.out) x H0.out hx
      subst hA
      have hmem : rd_T141 l x ∈ l := by
        have hlt : x.toNat < l.length := by have := H0.out; omega
        unfold rd_T141
        rw [List.getD_eq_getElem?_getD, List.getElem?_eq_getElem hlt]
        exact List.getElem_mem _
      have hlk := HS.out.mem hmem
      have hsome : (lkp (rd_T141 l x).f0 R).isSome = true := by rw [hlk]; rfl
      have hget : (lkp (rd_T141 l x).f0 R).getD [] = (rd_T141 l x).f1 := by rw [hlk]; rfl
      have hlen := Nat.le_trans (length_le_total hlk) hsm.1
      have HI1 := Aside0.mk hi1
      have HL1 := Aside0.mk hl1
      clear hlk hmem hi1 hl1
      go_wp2_with fail
      generalize hE : rd_T141 l x = E at *
      have k0 : (wr.alloc (Obj.cells #[Value.int IntKind.i64 E.f0, Value.slice A1 E.f1.length c1] 141)).cell? ⟨wr.heap.size, 0, none⟩ = some (.int .i64 E.f0) := by go_simp
      have k1 : (wr.alloc (Obj.cells #[Value.int IntKind.i64 E.f0, Value.slice A1 E.f1.length c1] 141)).cell? ⟨wr.heap.size, 1, none⟩ = some (.slice A1 E.f1.length c1) := by go_simp
      have k2 := Aside0.mk (below_alloc HB1.out (Obj.cells #[Value.int IntKind.i64 E.f0, Value.slice A1 E.f1.length c1] 141))
      have k3 := Aside0.mk (Kd.C_alloc HI1.out (Obj.cells #[Value.int IntKind.i64 E.f0, Value.slice A1 E.f1.length c1] 141))
      generalize (wr.alloc (Obj.cells #[Value.int IntKind.i64 E.f0, Value.slice A1 E.f1.length c1] 141)) = W1 at *
      have HG := Aside0.mk (IsGr.bel HI.out k2.out)
      have HH := Aside0.mk (fun (W : World) (h : Two W1 ⟨wr.heap.size, 0, none⟩ ⟨wr.heap.size, 1, none⟩ (.int .i64 E.f0) (.slice A1 E.f1.length c1) W) => has_gr g F R peak W (IsGr.bel HG.out h.2.2) E.f0)
      have HRe := Aside0.mk (fun (W : World) (h : Two W1 ⟨wr.heap.size, 0, none⟩ ⟨wr.heap.size, 1, none⟩ (.int .i64 E.f0) (.slice A1 E.f1.length c1) W) => rest_gr g F R peak W (IsGr.bel HG.out h.2.2) hsm E.f0)
      have HSa := Aside0.mk (fun (W : World) (h : Two W1 ⟨wr.heap.size, 0, none⟩ ⟨wr.heap.size, 1, none⟩ (.int .i64 E.f0) (.slice A1 E.f1.length c1) W) (A : Option Addr) (c : Nat) (h2 : Kd.C (Kd.int .i64) W A E.f1.length E.f1) (h3 : E.f1.length ≤ c) => same_yes h2 h3 (Kd.C_below k3.out h.2.2) HL1.out hlen rfl)
      have HSt := Aside0.mk (fun (w1 w2 : World) (h : Two W1 ⟨wr.heap.size, 0, none⟩ ⟨wr.heap.size, 1, none⟩ (.int .i64 E.f0) (.slice A1 E.f1.length c1) w1) (hb : Below w1.heap.size w1 w2) => h.step hb)
      have k4 : Below W1.heap.size W1 W1.drew := below_drew (Below.refl _ _)
      go_region_held3 (fun w' => w'.cell? ⟨wr.heap.size, 0, none⟩ = some (.int .i64 E.f0) ∧ w'.cell? ⟨wr.heap.size, 1, none⟩ = some (.slice A1 E.f1.length c1) ∧ Below W1.heap.size W1 w')
        (first | exact ⟨k0, k1, k4⟩ | assumption | (exact HSt.out _ _ (by assumption) (by assumption)))
        (first
          | (go_at_call 32; refine (HH.out _ (by assumption)).mono ?_; rintro e w' ⟨rfl, rfl⟩)
          | (go_at_call 85; refine (HRe.out _ (by assumption)).mono ?_; rintro e w5 ⟨v5, rfl, hr5, hb5⟩; rw [hget] at hr5; obtain ⟨A5, c5, rfl, hl5, hc5⟩ := Kd.R_reads hr5)
          | (go_at_call 25; refine (HSa.out _ (by assumption) _ _ (by assumption) (by assumption)).mono ?_; rintro e6 w6 ⟨rfl, hb6⟩))
      have HBe := Aside0.mk (below_step k2.out (show Below W1.heap.size W1 w6 from And.right (And.right (by assumption))))
      go_wp2_with fail
      go_roundg (l.length - (x + 1)).toNat
      case measure => have := HQ.out; have := HX.out; have := H0.out; omega
      case rel => exact ⟨x + 1, congrArg (Value.int .i64) (wrap_i H0.out HX.out hll), ⟨by have := H0.out; omega⟩, ⟨by have := HX.out; omega⟩, ⟨by have := HX.out; have := H0.out; omega⟩, HBe⟩
    · have hx2 : x = l.length := by have := HL.out; omega
      subst hx2
      have HG := Aside0.mk (IsGr.bel HI.out HB1.out)
      have HRd := Aside0.mk (Kd.C_below HR.out HB1.out)
      have hlen := HS.out.length
      have htot := HS.out.total
      clear hx
      go_wp2_with (first
        | (go_at_call 88; refine (equations_gr g F R peak _ HG.out).mono ?_; rintro e1 w1 ⟨rfl, rfl⟩; rw [hlen])
        | (go_at_call 86; refine (edges_gr g F R peak _ HG.out).mono ?_; rintro e1 w1 ⟨rfl, rfl⟩)
        | (go_at_call 30; refine (edges_c _ A0 c0 l HRd.out HC.out hll htt).mono ?_; rintro e1 w1 ⟨rfl, hb⟩; rw [htot]; have HG1 := Aside0.mk (IsGr.bel HG.out hb); have HB2 := Aside0.mk (below_step HB1.out hb); clear hb)
        | (go_at_call 87; refine (most_gr g F R peak _ HG1.out).mono ?_; rintro e1 w1 ⟨rfl, rfl⟩))
      go_ret
      exact ⟨rfl, HB2.out⟩
end Go.Proofs.Ythokppghpmkbaaa.Pl
