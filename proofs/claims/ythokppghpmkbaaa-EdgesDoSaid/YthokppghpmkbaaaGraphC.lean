/- The contracts of edges.Graph's methods, by the equations alone. -/
import Derived.Test.YthokppghpmkbaaaGraphR
import Derived.RegionTactic
import Derived.BigQuiet
import Derived.Deep.QuietTactic
namespace Go.Proofs.Ythokppghpmkbaaa.Ed
open Go Go.RowKit Go.Proofs.Ythokppghpmkbaaa.Mi Go.Proofs.YthokppghpmkbaaaW.PrintWords Go.Proofs.YthokppghpmkbaaaW.PrintLast
set_option linter.unusedVariables false
set_option linter.unusedSimpArgs false

/-- A set's value: nil, or a block. -/
def SetV (w : World) (v : Value) (s : List Int) : Prop := (v = .map none ∧ s = []) ∨ ∃ b, v = .map (some b) ∧ SetB w b s
def Sm (R : Eqs) : Prop := total R ≤ 1099511627776 ∧ R.length ≤ 1099511627776
theorem length_le_total {R : Eqs} {e : Int} {s : List Int} (h : lkp e R = some s) : s.length ≤ total R := by
  have hm := get_mem h
  clear h
  unfold total
  induction R with
  | nil => simp at hm
  | cons p r ih =>
    rw [List.map_cons, List.sum_cons]
    rcases List.mem_cons.1 hm with rfl | hm
    · simp
    · have := ih hm; omega
theorem rest_sm {R : Eqs} (h : Sm R) (e : Int) : ((lkp e R).getD []).length ≤ 1099511627776 := by
  cases hq : lkp e R with
  | none => simp
  | some s => have := length_le_total hq; have := h.1; simp only [Option.getD_some]; omega
theorem ofR_sm {R : Eqs} (h : Sm R) (b : Int) : (ofR b R).length ≤ 1099511627776 := by
  have h1 := h.2
  unfold ofR
  rw [List.length_map]
  have := List.length_filter_le (fun p : Int × List Int => p.2.contains b) R
  omega
theorem keys_any (v : Value) (s : List Int) (w : World) (h : SetV w v s) (hl : s.length ≤ 1099511627776) :
    Calls Try.prog 92 #[v] w fun e w' => ∃ v' : Value, e = .returned v' ∧ (Kd.int .i64).R 3 w' w.heap.size (fun _ => True) v' s ∧ Below w.heap.size w w' := by
  rcases h with ⟨rfl, rfl⟩ | ⟨b, rfl, hb⟩
  · exact keys_nil sort_said w
  · refine (keys_calls sort_said b _ w hb (by simp; omega)).mono ?_
    rintro e w' ⟨v', he, hR, hB⟩
    refine ⟨v', he, ?_, hB⟩
    rw [List.map_map, show ((fun p : Int × Value => p.1) ∘ fun x : Int => (x, Value.agg #[])) = id from rfl, List.map_id] at hR
    exact hR

structure View (w : World) (g : Nat) (R : Eqs) (peak : Int) (rq oq : Option Nat) : Prop where
  c0 : w.cell? ⟨g, 0, none⟩ = some (.map rq)
  c1 : w.cell? ⟨g, 1, none⟩ = some (.map oq)
  c2 : w.cell? ⟨g, 2, none⟩ = some (.int .i64 (total R))
  c3 : w.cell? ⟨g, 3, none⟩ = some (.int .i64 peak)
  f0 : w.frozen? ⟨g, 0, none⟩ = false
  f1 : w.frozen? ⟨g, 1, none⟩ = false
  f2 : w.frozen? ⟨g, 2, none⟩ = false
  f3 : w.frozen? ⟨g, 3, none⟩ = false
  look : ∀ e, ∃ q, (Instr.lookup 24 (.map rq) (.int .i64 e) false).run Try.prog w = .ok (.map q) w ∧
    (Instr.lookup 24 (.map rq) (.int .i64 e) true).run Try.prog w = .ok (.tuple #[.map q, .bool (lkp e R).isSome]) w ∧ SetV w (.map q) ((lkp e R).getD [])
  lookO : ∀ b, ∃ q, (Instr.lookup 24 (.map oq) (.int .i64 b) false).run Try.prog w = .ok (.map q) w ∧ SetV w (.map q) (ofR b R)
  len : ∀ ty, (Builtin.len_ #[24] ty #[.map rq]).run Try.prog w = .ok (.int .i64 R.length) w
theorem IsGr.view {w : World} {g : Nat} {F : Nat → Prop} {R : Eqs} {peak : Int} (h : IsGr w g F R peak) : ∃ rq oq, View w g R peak rq oq := by
  obtain ⟨O, ⟨hg, h⟩, h2, _⟩ := h
  rcases h with ⟨rfl, rfl, h5⟩ | ⟨r, o, RB, OB, rfl, rfl, h5, h6⟩
  · refine ⟨none, none, (blk_cell h5 0).trans rfl, (blk_cell h5 1).trans rfl, (blk_cell h5 2).trans rfl, (blk_cell h5 3).trans rfl, blk_frozen h5 0, blk_frozen h5 1, blk_frozen h5 2, blk_frozen h5 3, fun e => ⟨none, ?_, ?_, .inl ⟨rfl, rfl⟩⟩, fun b => ⟨none, ?_, .inl ⟨rfl, by simp [ofR]⟩⟩, fun ty => len_nil Try.underlying24 ty⟩
    · exact look_nil false Try.underlying24 Try.underlying3 (zeroM w) e
    · exact look_nil true Try.underlying24 Try.underlying3 (zeroM w) e
    · exact look_nil false Try.underlying24 Try.underlying3 (zeroM w) b
  · refine ⟨some r, some o, (blk_cell h5.cells 0).trans rfl, (blk_cell h5.cells 1).trans rfl, (blk_cell h5.cells 2).trans rfl, (blk_cell h5.cells 3).trans rfl, blk_frozen h5.cells 0, blk_frozen h5.cells 1, blk_frozen h5.cells 2, blk_frozen h5.cells 3, fun e => ?_, fun b => ?_, fun ty => ?_⟩
    · have l1 := look_ptrs h5.rmap e
      have l2 := look_ptrs2 h5.rmap e
      cases hq : lkp e RB with
      | none =>
        rw [hq] at l1 l2
        exact ⟨none, l1, by unfold sets; rw [get_mp, hq]; exact l2, .inl ⟨rfl, by unfold sets; rw [get_mp, hq]; rfl⟩⟩
      | some p =>
        rw [hq] at l1 l2
        exact ⟨some p.1, l1, by unfold sets; rw [get_mp, hq]; exact l2, .inr ⟨p.1, rfl, by unfold sets; rw [get_mp, hq]; exact h5.rset _ (mem_lkp hq)⟩⟩
    · have l1 := look_ptrs h5.omap b
      rw [← h2]
      cases hq : lkp b OB with
      | none =>
        rw [hq] at l1
        exact ⟨none, l1, .inl ⟨rfl, by unfold sets; rw [get_mp, hq]; rfl⟩⟩
      | some p =>
        rw [hq] at l1
        exact ⟨some p.1, l1, .inr ⟨p.1, rfl, by unfold sets; rw [get_mp, hq]; exact h5.oset _ (mem_lkp hq)⟩⟩
    · have := IMap.len h5.rmap Try.underlying24 ty
      simpa [ptrs, sets, mp] using this

section
variable (g : Nat) (F : Nat → Prop) (R : Eqs) (peak : Int) (w : World) (h : IsGr w g F R peak)
include h
set_option maxHeartbeats 1000000
set_option maxRecDepth 100000
theorem has_gr (e : Int) : Calls Try.prog 32 #[.pointer (some ⟨g, 0, none⟩), .int .i64 e] w fun en w' => en = .returned (.bool (lkp e R).isSome) ∧ w = w' := by
  obtain ⟨rq, oq, V⟩ := h.view
  have c0 := V.c0
  obtain ⟨q, _, l, _⟩ := V.look e
  clear V h
  go_enter Try.func32, Try.ntmps32
  go_wp2
  go_ret
  exact ⟨rfl, rfl⟩
theorem edges_gr : Calls Try.prog 86 #[.pointer (some ⟨g, 0, none⟩)] w fun en w' => en = .returned (.int .i64 (total R)) ∧ w = w' := by
  obtain ⟨rq, oq, V⟩ := h.view
  have c0 := V.c2
  clear V h
  go_enter Try.func86, Try.ntmps86
  go_wp2
  go_ret
  exact ⟨rfl, rfl⟩
theorem most_gr : Calls Try.prog 87 #[.pointer (some ⟨g, 0, none⟩)] w fun en w' => en = .returned (.int .i64 peak) ∧ w = w' := by
  obtain ⟨rq, oq, V⟩ := h.view
  have c0 := V.c3
  clear V h
  go_enter Try.func87, Try.ntmps87
  go_wp2
  go_ret
  exact ⟨rfl, rfl⟩
theorem equations_gr : Calls Try.prog 88 #[.pointer (some ⟨g, 0, none⟩)] w fun en w' => en = .returned (.int .i64 R.length) ∧ w = w' := by
  obtain ⟨rq, oq, V⟩ := h.view
  have c0 := V.c0
  have l := V.len 3
  clear V h
  go_enter Try.func88, Try.ntmps88
  go_wp2
  go_ret
  exact ⟨rfl, rfl⟩
theorem rest_gr (hsm : Sm R) (e : Int) : Calls Try.prog 85 #[.pointer (some ⟨g, 0, none⟩), .int .i64 e] w fun en w' => ∃ v : Value, en = .returned v ∧ (Kd.int .i64).R 3 w' w.heap.size (fun _ => True) v ((lkp e R).getD []) ∧ Below w.heap.size w w' := by
  obtain ⟨rq, oq, V⟩ := h.view
  have c0 := V.c0
  obtain ⟨q, l, _, hS⟩ := V.look e
  have hk := keys_any _ _ w hS (rest_sm hsm e)
  have HK := Aside0.mk hk
  clear V h hS hk
  go_enter Try.func85, Try.ntmps85
  go_wp2_with (go_at_call 92; refine HK.out.mono ?_; rintro e1 w1 ⟨v1, rfl, hR1, hB1⟩; have HR1 := Aside0.mk hR1; have HB1 := Aside0.mk hB1; clear hR1 hB1)
  go_ret
  exact ⟨v1, rfl, HR1.out, HB1.out⟩
theorem of_gr (hsm : Sm R) (b : Int) : Calls Try.prog 33 #[.pointer (some ⟨g, 0, none⟩), .int .i64 b] w fun en w' => ∃ v : Value, en = .returned v ∧ (Kd.int .i64).R 3 w' w.heap.size (fun _ => True) v (ofR b R) ∧ Below w.heap.size w w' := by
  obtain ⟨rq, oq, V⟩ := h.view
  have c0 := V.c1
  obtain ⟨q, l, hS⟩ := V.lookO b
  have hk := keys_any _ _ w hS (ofR_sm hsm b)
  have HK := Aside0.mk hk
  clear V h hS hk
  go_enter Try.func33, Try.ntmps33
  go_wp2_with (go_at_call 92; refine HK.out.mono ?_; rintro e1 w1 ⟨v1, rfl, hR1, hB1⟩; have HR1 := Aside0.mk hR1; have HB1 := Aside0.mk hB1; clear hR1 hB1)
  go_ret
  exact ⟨v1, rfl, HR1.out, HB1.out⟩
end
end Go.Proofs.Ythokppghpmkbaaa.Ed
