/- The library's sort of a row of ints that the call owns; and edges.keys: a set's keys, rising, for any map whose keys are ints. -/
import Derived.Test.YthokppghpmkbaaaProg
import Derived.Test.YthokppghpmkbaaaPRx0
import Derived.Test.YthokppghpmkbaaaMapI
import Derived.Deep.LoopGhost
import Derived.WalkKit
import Derived.Outline
import Derived.Deep.DeepMust
namespace Go.Proofs.Ythokppghpmkbaaa.Ed
open Go Go.RowKit Go.Proofs.Ythokppghpmkbaaa.Mi Go.Proofs.YthokppghpmkbaaaW.PrintWords Go.Proofs.YthokppghpmkbaaaW.PrintLast
set_option linter.unusedVariables false
set_option linter.unusedSimpArgs false

/-- The list, rising. -/
def sortI (l : List Int) : List Int := l.mergeSort fun x y => decide (x ≤ y)
theorem sortI_perm (l : List Int) : (sortI l).Perm l := List.mergeSort_perm l _
theorem sortI_sorted (l : List Int) : (sortI l).Pairwise (· ≤ ·) := by
  have := List.pairwise_mergeSort (le := fun x y : Int => decide (x ≤ y)) (by intro a b c; simp; omega) (by intro a b; simp; omega) l
  exact this.imp (fun h => by simpa using h)
theorem sortI_eq {l s : List Int} (hp : l.Perm s) (hs : s.Pairwise (· < ·)) : sortI l = s := by
  refine List.Perm.eq_of_pairwise (le := (· ≤ ·)) (fun a b _ _ h h' => by omega) (sortI_sorted l) (hs.imp (fun h => by omega)) ((sortI_perm l).trans hp)
theorem sortI_length (l : List Int) : (sortI l).length = l.length := (sortI_perm l).length_eq

/-- What is told of the library's sort: a row of the call's own, that is not nil, is sorted; nothing else turns. -/
def SortSaid : Prop := ∀ (g cap : Nat) (zs : List Int) (w : World) (base : Nat) (ok : Nat → Prop), (Kd.int .i64).R 3 w base ok (.slice (some ⟨g, 0, none⟩) zs.length cap) zs → zs.length < 4611686018427387904 →
  Calls Try.prog 125 #[.slice (some ⟨g, 0, none⟩) zs.length cap] w fun e w' => e = .returned (.tuple #[]) ∧ (Kd.int .i64).R 3 w' base ok (.slice (some ⟨g, 0, none⟩) zs.length cap) (sortI zs) ∧ w.grownBy w' (some g)

theorem infoI : (Try.prog.info? 3).map (fun i => (i.zero, i.size, i.bytes)) = some (some (.int .i64 0), 1, 8) := by kernel_rfl

/-- 'make([]int, 0, n)': a row of the call's own, of nothing, with room. -/
theorem run_make0 (n : Nat) (hn : n * 8 ≤ 140737488355328) (W : World) :
    (Instr.makeSlice 28 (.int .i64 0) (.int .i64 (n : Int))).run Try.prog W = .ok (.slice (some ⟨W.heap.size, 0, none⟩) 0 n) (W.alloc (.cells (madeCells #[.int .i64 0] n) 3)) := by
  obtain ⟨i0, hi, hzz⟩ := Option.map_eq_some_iff.1 infoI
  simp only [Prod.mk.injEq] at hzz
  obtain ⟨hz0, hz1, hz2⟩ := hzz
  have := run_make (P := Try.prog) W 28 3 i0 (.int .i64 0) Try.underlying28 hi hz0 .i64 .i64 0 (n : Int) (by omega) (by omega) (by rw [hz2]; omega) (by omega)
  rw [this, hz1]
  simp [Value.cells]
theorem R_make0 (n : Nat) (hn : n * 8 ≤ 140737488355328) (W : World) (base : Nat) (hb : base ≤ W.heap.size) (ok : Nat → Prop) (hok : ok W.heap.size) :
    (Kd.int .i64).R 3 (W.alloc (.cells (madeCells #[.int .i64 0] n) 3)) base ok (.slice (some ⟨W.heap.size, 0, none⟩) 0 n) [] :=
  Kd.R_of_own (by
    refine ⟨by simp [encs], .inr ⟨W.heap.size, n, madeCells #[.int .i64 0] n, rfl, hb, (MapKept.heap_alloc W _).1, Nat.zero_le _, by simp only [maxLen]; omega, by simp [size_madeCells], by simp [encs]⟩⟩) (fun k hk => by simp [Value.ownBlock] at hk; subst hk; exact hok)

/-- A row of numbers lives on where another row is written. -/
theorem R_other {k : IntKind} {w w1 : World} {e base : Nat} {ok : Nat → Prop} {v : Value} {xs : List Int} (h : (Kd.int k).R e w base ok v xs) {row : Option Nat} (hg : w.grownBy w1 row) (hne : v.ownBlock = none ∨ v.ownBlock ≠ row) : (Kd.int k).R e w1 base ok v xs :=
  Kd.R_of_own ((Kd.own_of_R h).kept hg hne) h.1
theorem iter_ne {w : World} {r b : Nat} {m lf : List (Int × Value)} (h : IIter w r b m lf) {e base : Nat} {ok : Nat → Prop} {v : Value} {xs : List Int} (hR : (Kd.int .i64).R e w base ok v xs) : v.ownBlock ≠ some r := by
  intro he
  obtain ⟨inner, ho⟩ := Kd.R_own hR
  obtain ⟨cells, hc⟩ := own_typed ho r he
  obtain ⟨_, _, _, _, _, _, hr, _⟩ := h
  rw [hc] at hr
  cases hr
theorem map_ne {w : World} {b : Nat} {m : List (Int × Value)} (h : IMap w b m) {e base : Nat} {ok : Nat → Prop} {v : Value} {xs : List Int} (hR : (Kd.int .i64).R e w base ok v xs) : v.ownBlock ≠ some b := by
  intro he
  obtain ⟨inner, ho⟩ := Kd.R_own hR
  obtain ⟨cells, hc⟩ := own_typed ho b he
  obtain ⟨_, _, hb, _⟩ := h
  rw [hc] at hb
  cases hb

set_option maxHeartbeats 1000000 in
set_option maxRecDepth 100000 in
theorem keys_calls (hsort : SortSaid) (b : Nat) (m : List (Int × Value)) (w : World) (hm : IMap w b m) (hl : m.length * 8 ≤ 140737488355328) :
    Calls Try.prog 92 #[.map (some b)] w fun e w' => ∃ v : Value, e = .returned v ∧ (Kd.int .i64).R 3 w' w.heap.size (fun _ => True) v (m.map (·.1)) ∧ Below w.heap.size w w' := by
  have HM := Aside0.mk hm
  have HL := Aside0.mk hl
  have h1 := hm.len Try.underlying142 3
  have h2 := run_make0 m.length (by omega)
  clear hm hl
  have HM1 := Aside0.mk (HM.out.move (w' := w.alloc (.cells (madeCells #[.int .i64 0] m.length) 3)) (Below.heap_alloc w _ b HM.out.lt))
  have HR1 := Aside0.mk (R_make0 m.length (by have := HL.out; omega) w w.heap.size (Nat.le_refl _) (fun _ => True) trivial)
  have HB1 := Aside0.mk (below_alloc (Below.refl w.heap.size w) (.cells (madeCells #[.int .i64 0] m.length) 3))
  go_enter Try.func92, Try.ntmps92
  go_wp2_with (at_range; refine wpList_range_I rfl _ rfl Try.underlying142 rfl HM1.out ?_; intro w2 left hit hperm hb2 hs2; have HR2 := Aside0.mk (Kd.R_below HR1.out hb2); have HB2 := Aside0.mk (below_then HB1.out HB1.out.size hb2); have HI := Aside0.mk hit; have HP := Aside0.mk hperm; clear hit hperm hb2 hs2 HM1 HR1 HB1 h1 h2)
  obtain ⟨r, hr⟩ : ∃ r, r = (w.alloc (.cells (madeCells #[.int .i64 0] m.length) 3)).heap.size := ⟨_, rfl⟩
  rw [← hr] at HI ⊢
  have Hr := Aside0.mk hr
  clear hr
  go_frame
  go_loopg [3] left.length (fun kq v wr => ∃ (acc : List Int) (lf : List (Int × Value)) (g cap : Nat), v = .slice (some ⟨g, 0, none⟩) acc.length cap ∧ Aside0 (IIter wr r b m lf) ∧ Aside0 (kq = lf.length) ∧ Aside0 ((Kd.int .i64).R 3 wr w.heap.size (fun _ => True) (.slice (some ⟨g, 0, none⟩) acc.length cap) acc) ∧ Aside0 ((acc ++ lf.map (·.1)).Perm (m.map (·.1))) ∧ Aside0 (Below w.heap.size w wr))
  case atStart => exact ⟨[], left, _, _, rfl, HI, ⟨rfl⟩, HR2, ⟨by simpa using HP.out.map (·.1)⟩, HB2⟩
  case round =>
    clear HI HR2 HP HB2
    obtain ⟨acc, lf, g, cap, rfl, HI, HK, HR, HP, HB⟩ := hrel
    have HLA := Aside0.mk (show acc.length + lf.length = m.length by have := HP.out.length_eq; simpa using this)
    have HG := Aside0.mk (Kd.R_base HR.out g rfl)
    go_wp2_with (at_next; refine wpList_next_I rfl _ rfl _ rfl HI.out ?_ ?_)
    · intro hlf
      have HF := Aside0.mk (show sortI acc = m.map (·.1) from sortI_eq (by have := HP.out; rw [hlf] at this; simpa using this) (by rw [List.pairwise_map]; exact HM.out.srt))
      clear hlf
      go_wp2_with (go_at_call 125; refine (hsort g cap acc wr w.heap.size (fun _ => True) HR.out (by have := HLA.out; have := HL.out; omega)).mono ?_; rintro e w4 ⟨rfl, hR4, hg4⟩; have HR4 := Aside0.mk hR4; have HB4 := Aside0.mk (HB.out.grown hg4 HB.out.size (fun k hk => by cases hk; exact HG.out)); clear hR4 hg4)
      go_ret
      exact ⟨_, rfl, by rw [← HF.out]; exact HR4.out, HB4.out⟩
    · intro x vx lf' w3 hperm hit3 hg3 hs3 hen
      have HR3 := Aside0.mk (R_other HR.out hg3 (.inr (iter_ne HI.out HR.out)))
      have HB3 := Aside0.mk (HB.out.grown hg3 HB.out.size (fun k hk => by cases hk; exact Nat.le_trans (Nat.le_succ _) (by rw [Hr.out]; simp)))
      have HI3 := Aside0.mk hit3
      have HP3 := Aside0.mk (show ((acc ++ [x]) ++ lf'.map (·.1)).Perm (m.map (·.1)) from (by
        have h1 := hperm.map (·.1)
        rw [List.append_assoc]
        exact (List.Perm.append_left acc h1.symm).trans HP.out))
      have HK3 := Aside0.mk (show lf'.length < lf.length by have := hperm.length_eq; simp at this; omega)
      have Hs3 := Aside0.mk hs3
      clear hperm hit3 hg3 hs3
      go_wp2_with (at_builtin; go_must (refine Kd.R_append (Kd.int .i64) w.heap.size rfl (.tmp 14) (.tmp 16) 28 3 (.int .i64 0) 8 rfl Try.underlying28 infoI rfl (by decide) (by decide) _ acc x [.int .i64 x] (fun _ => True) (fun _ => False) rfl rfl rfl (fun _ h => h.elim) (fun _ _ => trivial) HR3.out HB3.out HB3.out.size (by have := HLA.out; have := HL.out; have := HK3.out; omega) ?_); intro v5 w5 hR5 hb5 hg5 hat5)
      have HI5 := Aside0.mk (HI3.out.move (w' := w5) (hg5.block b (HI3.out.map.lt) (fun e => map_ne HI3.out.map HR3.out e.symm)) (hg5.block r HI3.out.lt (fun e => iter_ne HI3.out HR3.out e.symm)))
      obtain ⟨g5, cap5, rfl⟩ : ∃ g5 cap5, v5 = .slice (some ⟨g5, 0, none⟩) (acc ++ [x]).length cap5 := by
        obtain ⟨g5, cap5, he, _⟩ := Kd.R_form hR5 (by simp)
        exact ⟨g5, cap5, he⟩
      have HR5 := Aside0.mk hR5
      have HB5 := Aside0.mk hb5
      clear hR5 hb5 hg5 hat5 hen
      go_roundg lf'.length
      case measure => have := HK.out; have := HK3.out; omega
      case rel => exact ⟨acc ++ [x], lf', g5, cap5, rfl, HI5, ⟨rfl⟩, HR5, HP3, HB5⟩

set_option maxHeartbeats 1000000 in
set_option maxRecDepth 100000 in
theorem keys_nil (hsort : SortSaid) (w : World) :
    Calls Try.prog 92 #[.map none] w fun e w' => ∃ v : Value, e = .returned v ∧ (Kd.int .i64).R 3 w' w.heap.size (fun _ => True) v [] ∧ Below w.heap.size w w' := by
  have h1 := len_nil (P := Try.prog) (w := w) Try.underlying142 3
  obtain ⟨w1, hw1⟩ : ∃ w1, w1 = w.alloc (.cells (madeCells #[.int .i64 0] 0) 3) := ⟨_, rfl⟩
  have h2 := run_make0 0 (by omega) w
  have HR1 := Aside0.mk (R_make0 0 (by omega) w w.heap.size (Nat.le_refl _) (fun _ => True) trivial)
  have HB1 := Aside0.mk (below_alloc (Below.refl w.heap.size w) (.cells (madeCells #[.int .i64 0] 0) 3))
  rw [← hw1] at h2 HR1 HB1
  clear hw1
  have h2' : (Instr.makeSlice 28 (.int .i64 0) (.int .i64 0)).run Try.prog w = .ok (.slice (some ⟨w.heap.size, 0, none⟩) 0 0) w1 := h2
  clear h2
  have h3 := run_range_nilMap (P := Try.prog) w1 142 3 _ Try.underlying142
  have h4 := fun ty => run_next_nilMap (P := Try.prog) w1 ty 0 0 #[]
  have HR2 := Aside0.mk (Kd.R_alloc HR1.out (.mapIter none 0 #[] 0))
  have HB2 := Aside0.mk (below_alloc HB1.out (.mapIter none 0 #[] 0))
  obtain ⟨r, hr⟩ : ∃ r, r = w1.heap.size := ⟨_, rfl⟩
  obtain ⟨w2, hw2⟩ : ∃ w2, w2 = w1.alloc (.mapIter none 0 #[] 0) := ⟨_, rfl⟩
  rw [← hw2] at h3 h4 HR2 HB2
  rw [← hr] at h3 h4
  have Hr := Aside0.mk hr
  clear hr hw2
  go_enter Try.func92, Try.ntmps92
  go_wp2
  go_loopg [3] 0 (fun kq v wr => v = .slice (some ⟨w.heap.size, 0, none⟩) 0 0 ∧ wr = w2)
  case atStart => exact ⟨rfl, rfl⟩
  case round =>
    obtain ⟨rfl, rfl⟩ := hrel
    go_wp2_with (go_at_call 125; refine (hsort w.heap.size 0 [] _ w.heap.size (fun _ => True) HR2.out (by simp)).mono ?_; rintro e w4 ⟨rfl, hR4, hg4⟩; have HR4 := Aside0.mk hR4; have HB4 := Aside0.mk (HB2.out.grown hg4 HB2.out.size (fun k hk => by cases hk; exact Nat.le_refl _)); clear hR4 hg4)
    go_ret
    have H5 := HR4.out
    rw [show sortI [] = [] by simp [sortI]] at H5
    exact ⟨_, rfl, H5, HB4.out⟩
end Go.Proofs.Ythokppghpmkbaaa.Ed
