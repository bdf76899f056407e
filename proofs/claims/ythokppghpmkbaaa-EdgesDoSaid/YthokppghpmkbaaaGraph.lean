/- edges.Graph in memory: what it is there, and what each of its methods does. -/
import Derived.Test.YthokppghpmkbaaaKeys
namespace Go.Proofs.Ythokppghpmkbaaa.Ed
open Go Go.RowKit Go.Proofs.Ythokppghpmkbaaa.Mi Go.Proofs.YthokppghpmkbaaaW.PrintWords Go.Proofs.YthokppghpmkbaaaW.PrintLast
set_option linter.unusedVariables false
set_option linter.unusedSimpArgs false

/-! ### what a call leaves as it was -/
/-- All but the blocks of S, and what is new. -/
structure Fr (w w' : World) (S : Nat → Prop) : Prop where
  os : w'.os = w.os
  tape : w'.tape = w.tape
  output : w'.output = w.output
  size : w.heap.size ≤ w'.heap.size
  block : ∀ k, k < w.heap.size → ¬ S k → w'.heap[k]? = w.heap[k]?
section
variable {w w1 w2 : World} {S S' : Nat → Prop}
theorem Fr.refl (w : World) (S : Nat → Prop) : Fr w w S := ⟨rfl, rfl, rfl, Nat.le_refl _, fun _ _ _ => rfl⟩
theorem Fr.trans (h : Fr w w1 S) (k : Fr w1 w2 S') (hs : ∀ k, S' k → S k ∨ w.heap.size ≤ k) : Fr w w2 S :=
  ⟨k.os.trans h.os, k.tape.trans h.tape, k.output.trans h.output, Nat.le_trans h.size k.size, fun i hi hn =>
    (k.block i (Nat.lt_of_lt_of_le hi h.size) (fun h2 => (hs i h2).elim hn (fun h3 => by omega))).trans (h.block i hi hn)⟩
theorem Fr.mono (h : Fr w w1 S) (hs : ∀ k, S k → S' k) : Fr w w1 S' := ⟨h.os, h.tape, h.output, h.size, fun i hi hn => h.block i hi (fun hk => hn (hs i hk))⟩
theorem Fr.below (h : Fr w w1 S) (hb : Below w1.heap.size w1 w2) : Fr w w2 S := h.trans (S' := fun _ => False) ⟨hb.os, hb.tape, hb.output, hb.size, fun k hk _ => hb.block k hk⟩ (fun _ h => h.elim)
theorem Fr.grown (h : Fr w w1 S) {row : Option Nat} (hg : w1.grownBy w2 row) (hr : ∀ k, row = some k → S k ∨ w.heap.size ≤ k) : Fr w w2 S :=
  h.trans (S' := fun k => row = some k) ⟨hg.os, hg.tape, hg.output, hg.size, fun i hi hn => hg.block i hi (fun e => hn e.symm)⟩ hr
theorem Fr.setCell (h : Fr w w1 S) {p : Addr} (hp : S p.block ∨ w.heap.size ≤ p.block) (u : Value) : Fr w (w1.setCell p u) S :=
  h.trans (S' := fun k => k = p.block) ⟨rfl, rfl, rfl, by simp [World.setCell], fun i _ hn => Below.heap_setCell w1 p u i hn⟩ (fun k hk => by rw [hk]; exact hp)
theorem Fr.alloc (h : Fr w w1 S) (o : Obj) : Fr w (w1.alloc o) S := h.below ((Below.refl _ _).alloc (Nat.le_refl _) o)
theorem Fr.drew (h : Fr w w1 S) : Fr w w1.drew S := ⟨h.os, h.tape, h.output, h.size, h.block⟩
theorem Fr.of_below {B : Nat} (hb : Below B w w1) : Fr w w1 (fun k => B ≤ k) := ⟨hb.os, hb.tape, hb.output, hb.size, fun k hk hn => hb.block k (by omega)⟩
theorem Fr.to_below {B : Nat} (h : Fr w w1 S) (hS : ∀ k, S k → B ≤ k) (hB : B ≤ w.heap.size) : Below B w w1 := ⟨h.os, h.tape, h.output, h.size, fun k hk => h.block k (by omega) (fun h2 => by have := hS k h2; omega)⟩
theorem IMap_fr {b : Nat} {m : List (Int × Value)} (h : IMap w b m) (hf : Fr w w1 S) (hn : ¬ S b) : IMap w1 b m := h.move (hf.block b h.lt hn)
end

/-! ### lists of pairs, their second parts turned -/
section
variable {α β : Type} {f : α → β}
def mp (f : α → β) (m : List (Int × α)) : List (Int × β) := m.map fun p => (p.1, f p.2)
theorem get_mp {x : Int} : ∀ {m : List (Int × α)}, lkp x (mp f m) = (lkp x m).map f
  | [] => rfl
  | p :: r => by
    have ih := get_mp (x := x) (m := r)
    unfold mp at ih ⊢
    simp only [List.map_cons, lkp]
    split
    · simp
    · exact ih
theorem srt_mp {m : List (Int × α)} : Srt (mp f m) ↔ Srt m := by unfold Srt mp; rw [List.pairwise_map]
theorem del_mp {x : Int} {m : List (Int × α)} : del x (mp f m) = mp f (del x m) := by unfold del mp; rw [List.filter_map]; rfl
theorem ins_mp {x : Int} {v : α} : ∀ {m : List (Int × α)}, ins x (f v) (mp f m) = mp f (ins x v m)
  | [] => rfl
  | p :: r => by
    have ih := ins_mp (x := x) (v := v) (m := r)
    unfold mp at ih ⊢
    simp only [List.map_cons, ins]
    split
    · rfl
    · split
      · rfl
      · rw [List.map_cons, ih]
theorem mp_mp {γ : Type} {g : β → γ} {m : List (Int × α)} : mp g (mp f m) = mp (fun x => g (f x)) m := by simp [mp]
theorem mp_id (m : List (Int × α)) : mp (fun x => x) m = m := by simp [mp]
theorem mp_keys {m : List (Int × α)} : (mp f m).map (·.1) = m.map (·.1) := by simp [mp]
/-- One of them turned. -/
def alter (x : Int) (f : α → α) (m : List (Int × α)) : List (Int × α) := m.map fun p => if p.1 = x then (p.1, f p.2) else p
theorem alter_keys {x : Int} {f : α → α} {m : List (Int × α)} : (alter x f m).map (·.1) = m.map (·.1) := by
  unfold alter; rw [List.map_map]
  refine List.map_congr_left (fun p _ => ?_)
  simp only [Function.comp]; split <;> rfl
theorem srt_alter {x : Int} {f : α → α} {m : List (Int × α)} (h : Srt m) : Srt (alter x f m) := by
  have h1 : (m.map (·.1)).Pairwise (· < ·) := by rw [List.pairwise_map]; exact h
  rw [← alter_keys (x := x) (f := f)] at h1
  rwa [List.pairwise_map] at h1
theorem get_alter {x y : Int} {f : α → α} : ∀ {m : List (Int × α)}, lkp y (alter x f m) = if y = x then (lkp y m).map f else lkp y m
  | [] => by simp [alter, lkp]
  | p :: r => by
    have ih := get_alter (x := x) (y := y) (f := f) (m := r)
    unfold alter at ih ⊢
    simp only [List.map_cons, lkp]
    by_cases h : p.1 = x
    · rw [if_pos h]
      simp only
      by_cases h2 : p.1 = y
      · rw [if_pos h2, if_pos h2, if_pos (by omega)]; rfl
      · rw [if_neg h2, if_neg h2, ih]
    · rw [if_neg h]
      by_cases h2 : p.1 = y
      · rw [if_pos h2, if_neg (by omega), if_pos h2]
      · rw [if_neg h2, if_neg h2, ih]
theorem mp_alter {x : Int} {g : α → α} {m : List (Int × α)} (h : ∀ v, f (g v) = f v) : mp f (alter x g m) = mp f m := by
  unfold mp alter
  rw [List.map_map]
  refine List.map_congr_left (fun p _ => ?_)
  simp only [Function.comp]
  split
  · simp [h]
  · rfl
theorem alter_mp {x : Int} {g : α → α} {g' : β → β} {m : List (Int × α)} (h : ∀ v, f (g v) = g' (f v)) : mp f (alter x g m) = alter x g' (mp f m) := by
  unfold mp alter
  rw [List.map_map, List.map_map]
  refine List.map_congr_left (fun p _ => ?_)
  simp only [Function.comp]
  split
  · simp [h]
  · rfl
theorem mem_alter {x : Int} {f : α → α} {m : List (Int × α)} {q : Int × α} (h : q ∈ alter x f m) : (q ∈ m ∧ q.1 ≠ x) ∨ ∃ v, (x, v) ∈ m ∧ q = (x, f v) := by
  obtain ⟨p, hp, rfl⟩ := List.mem_map.1 h
  by_cases e : p.1 = x
  · rw [if_pos e]
    exact .inr ⟨p.2, by rw [← e]; exact hp, by rw [e]⟩
  · rw [if_neg e]
    exact .inl ⟨hp, e⟩
end

/-! ### the graph in memory -/
/-- A set's block. -/
def SetB (w : World) (b : Nat) (s : List Int) : Prop := IMap w b (s.map fun x => (x, Value.agg #[]))
abbrev Ent := List (Int × Nat × List Int)
def ptrs (m : Ent) : List (Int × Value) := mp (fun p => Value.map (some p.1)) m
def sets (m : Ent) : List (Int × List Int) := mp (·.2) m
def blks (m : Ent) : List Nat := m.map (·.2.1)

structure IsGB (w : World) (g r o : Nat) (R O : Ent) (cnt peak : Int) : Prop where
  cells : w.heap[g]? = some (.cells #[.map (some r), .map (some o), .int .i64 cnt, .int .i64 peak] 26 (0, 0))
  rmap : IMap w r (ptrs R)
  omap : IMap w o (ptrs O)
  rset : ∀ p ∈ R, SetB w p.2.1 p.2.2
  oset : ∀ p ∈ O, SetB w p.2.1 p.2.2
  apart : (g :: r :: o :: (blks R ++ blks O)).Nodup

/-- The graph at block g: which equations have which blocks, which blocks are in which equations; its blocks lie in F. -/
def IsG (w : World) (g : Nat) (F : Nat → Prop) (R O : List (Int × List Int)) (cnt peak : Int) : Prop :=
  F g ∧ ((R = [] ∧ O = [] ∧ w.heap[g]? = some (.cells #[.map none, .map none, .int .i64 cnt, .int .i64 peak] 26 (0, 0))) ∨
    ∃ r o RB OB, R = sets RB ∧ O = sets OB ∧ IsGB w g r o RB OB cnt peak ∧ ∀ k ∈ r :: o :: (blks RB ++ blks OB), F k)

section
variable {w w1 : World} {g r o : Nat} {R O : Ent} {cnt peak : Int} {S : Nat → Prop}
theorem srt_ptrs (h : IMap w r (ptrs R)) : Srt R := srt_mp.1 h.srt
theorem IsGB.lt (h : IsGB w g r o R O cnt peak) : ∀ k ∈ g :: r :: o :: (blks R ++ blks O), k < w.heap.size := by
  intro k hk
  simp only [List.mem_cons, List.mem_append, blks, List.mem_map] at hk
  rcases hk with rfl | rfl | rfl | ⟨p, hp, rfl⟩ | ⟨p, hp, rfl⟩
  · exact blk_lt h.cells
  · exact h.rmap.lt
  · exact h.omap.lt
  · exact (h.rset p hp).lt
  · exact (h.oset p hp).lt
theorem IsGB.move (h : IsGB w g r o R O cnt peak) (hm : ∀ k ∈ g :: r :: o :: (blks R ++ blks O), w1.heap[k]? = w.heap[k]?) : IsGB w1 g r o R O cnt peak where
  cells := (hm g (by simp)).trans h.cells
  rmap := h.rmap.move (hm r (by simp))
  omap := h.omap.move (hm o (by simp))
  rset := fun p hp => IMap.move (h.rset p hp) (hm p.2.1 (by simp [blks]; exact .inr (.inr (.inr (.inl ⟨_, _, hp⟩)))))
  oset := fun p hp => IMap.move (h.oset p hp) (hm p.2.1 (by simp [blks]; exact .inr (.inr (.inr (.inr ⟨_, _, hp⟩)))))
  apart := h.apart
theorem mem_lkp {x : Int} {α : Type} {v : α} {m : List (Int × α)} (h : lkp x m = some v) : (x, v) ∈ m := get_mem h
theorem blk_inj {m : Ent} (h : (blks m).Nodup) {p q : Int × Nat × List Int} (hp : p ∈ m) (hq : q ∈ m) (he : p.2.1 = q.2.1) : p = q := by
  obtain ⟨i, hi, rfl⟩ := List.getElem_of_mem hp
  obtain ⟨j, hj, rfl⟩ := List.getElem_of_mem hq
  have h1 : (blks m)[i]? = (blks m)[j]? := by
    simp only [blks, List.getElem?_map, List.getElem?_eq_getElem hi, List.getElem?_eq_getElem hj, Option.map_some, he]
  have := (List.getElem?_inj (by simpa [blks] using hi) h).1 h1
  subst this
  rfl
theorem IsGB.aR (h : IsGB w g r o R O cnt peak) : (blks R).Nodup := by
  have := h.apart
  simp only [List.nodup_cons, List.nodup_append] at this
  exact this.2.2.2.1
theorem IsGB.aO (h : IsGB w g r o R O cnt peak) : (blks O).Nodup := by
  have := h.apart
  simp only [List.nodup_cons, List.nodup_append] at this
  exact this.2.2.2.2.1
theorem blks_alter {x : Int} {s : List Int} {b : Nat} {s0 : List Int} {m : Ent} (hs : Srt m) (h : lkp x m = some (b, s0)) : blks (alter x (fun _ => (b, s)) m) = blks m := by
  unfold blks alter
  rw [List.map_map]
  refine List.map_congr_left (fun p hp => ?_)
  simp only [Function.comp]
  split
  · rename_i e
    have := get_of_mem hs (show (x, p.2) ∈ m by rw [← e]; exact hp)
    rw [h] at this
    rw [← Option.some.inj this]
  · rfl
theorem ptrs_alter {x : Int} {s : List Int} {b : Nat} {s0 : List Int} {m : Ent} (hs : Srt m) (h : lkp x m = some (b, s0)) : ptrs (alter x (fun _ => (b, s)) m) = ptrs m := by
  unfold ptrs mp alter
  rw [List.map_map]
  refine List.map_congr_left (fun p hp => ?_)
  simp only [Function.comp]
  split
  · rename_i e
    have := get_of_mem hs (show (x, p.2) ∈ m by rw [← e]; exact hp)
    rw [h] at this
    rw [← Option.some.inj this]
  · rfl
/-- One equation's set is turned. -/
theorem IsGB.turnR (h : IsGB w g r o R O cnt peak) {x : Int} {b : Nat} {s0 s : List Int} (hx : lkp x R = some (b, s0)) (hg : w.grownBy w1 (some b)) (hb : SetB w1 b s) :
    IsGB w1 g r o (alter x (fun _ => (b, s)) R) O cnt peak := by
  have hs := srt_ptrs h.rmap
  have hmem := mem_lkp hx
  have hbm : b ∈ blks R := List.mem_map.2 ⟨_, hmem, rfl⟩
  have ha := h.apart
  simp only [List.nodup_cons, List.nodup_append, List.mem_cons, List.mem_append, not_or] at ha
  have hne : ∀ k, k ≠ b → k < w.heap.size → w1.heap[k]? = w.heap[k]? := fun k hk hlt => hg.block k hlt (by simpa using hk)
  have gb : g ≠ b := fun e => ha.1.2.2.1 (e ▸ hbm)
  have rb : r ≠ b := fun e => ha.2.1.2.1 (e ▸ hbm)
  have ob : o ≠ b := fun e => ha.2.2.1.1 (e ▸ hbm)
  refine ⟨(hne g gb (blk_lt h.cells)).trans h.cells, ?_, h.omap.move (hne o ob h.omap.lt), ?_, ?_, ?_⟩
  · rw [ptrs_alter hs hx]; exact h.rmap.move (hne r rb h.rmap.lt)
  · intro q hq
    rcases mem_alter hq with ⟨hq, hn⟩ | ⟨v, hv, rfl⟩
    · refine IMap.move (h.rset q hq) (hne _ (fun e => hn ?_) (h.rset q hq).lt)
      have := blk_inj h.aR hq hmem e
      rw [this]
    · exact hb
  · intro q hq
    refine IMap.move (h.oset q hq) (hne _ (fun e => ?_) (h.oset q hq).lt)
    exact ha.2.2.2.2.2 b hbm q.2.1 (List.mem_map.2 ⟨q, hq, rfl⟩) e.symm
  · rw [blks_alter hs hx]; exact h.apart
/-- One block's set is turned. -/
theorem IsGB.turnO (h : IsGB w g r o R O cnt peak) {x : Int} {b : Nat} {s0 s : List Int} (hx : lkp x O = some (b, s0)) (hg : w.grownBy w1 (some b)) (hb : SetB w1 b s) :
    IsGB w1 g r o R (alter x (fun _ => (b, s)) O) cnt peak := by
  have hs := srt_ptrs h.omap
  have hmem := mem_lkp hx
  have hbm : b ∈ blks O := List.mem_map.2 ⟨_, hmem, rfl⟩
  have ha := h.apart
  simp only [List.nodup_cons, List.nodup_append, List.mem_cons, List.mem_append, not_or] at ha
  have hne : ∀ k, k ≠ b → k < w.heap.size → w1.heap[k]? = w.heap[k]? := fun k hk hlt => hg.block k hlt (by simpa using hk)
  have gb : g ≠ b := fun e => ha.1.2.2.2 (e ▸ hbm)
  have rb : r ≠ b := fun e => ha.2.1.2.2 (e ▸ hbm)
  have ob : o ≠ b := fun e => ha.2.2.1.2 (e ▸ hbm)
  refine ⟨(hne g gb (blk_lt h.cells)).trans h.cells, h.rmap.move (hne r rb h.rmap.lt), ?_, ?_, ?_, ?_⟩
  · rw [ptrs_alter hs hx]; exact h.omap.move (hne o ob h.omap.lt)
  · intro q hq
    refine IMap.move (h.rset q hq) (hne _ (fun e => ?_) (h.rset q hq).lt)
    exact ha.2.2.2.2.2 q.2.1 (List.mem_map.2 ⟨q, hq, rfl⟩) b hbm e
  · intro q hq
    rcases mem_alter hq with ⟨hq, hn⟩ | ⟨v, hv, rfl⟩
    · refine IMap.move (h.oset q hq) (hne _ (fun e => hn ?_) (h.oset q hq).lt)
      have := blk_inj h.aO hq hmem e
      rw [this]
    · exact hb
  · rw [blks_alter hs hx]; exact h.apart
/-- A number of the struct's is turned. -/
theorem IsGB.cnt_ (h : IsGB w g r o R O cnt peak) (c : Int) : IsGB (w.setCell ⟨g, 2, none⟩ (.int .i64 c)) g r o R O c peak := by
  have ha := h.apart
  have hlt := h.lt
  have hne : ∀ k, k ≠ g → (w.setCell ⟨g, 2, none⟩ (.int .i64 c)).heap[k]? = w.heap[k]? := fun k hk => Below.heap_setCell w _ _ k hk
  simp only [List.nodup_cons, List.nodup_append, List.mem_cons, List.mem_append, not_or] at ha
  refine ⟨?_, h.rmap.move (hne r (Ne.symm ha.1.1)), h.omap.move (hne o (Ne.symm ha.1.2.1)), ?_, ?_, h.apart⟩
  · have := blk_set h.cells 2 (.int .i64 c)
    simpa using this
  · intro q hq
    exact IMap.move (h.rset q hq) (hne _ (fun e => ha.1.2.2.1 (e ▸ List.mem_map.2 ⟨q, hq, rfl⟩)))
  · intro q hq
    exact IMap.move (h.oset q hq) (hne _ (fun e => ha.1.2.2.2 (e ▸ List.mem_map.2 ⟨q, hq, rfl⟩)))
theorem IsGB.peak_ (h : IsGB w g r o R O cnt peak) (c : Int) : IsGB (w.setCell ⟨g, 3, none⟩ (.int .i64 c)) g r o R O cnt c := by
  have ha := h.apart
  have hne : ∀ k, k ≠ g → (w.setCell ⟨g, 3, none⟩ (.int .i64 c)).heap[k]? = w.heap[k]? := fun k hk => Below.heap_setCell w _ _ k hk
  simp only [List.nodup_cons, List.nodup_append, List.mem_cons, List.mem_append, not_or] at ha
  refine ⟨?_, h.rmap.move (hne r (Ne.symm ha.1.1)), h.omap.move (hne o (Ne.symm ha.1.2.1)), ?_, ?_, h.apart⟩
  · have := blk_set h.cells 3 (.int .i64 c)
    simpa using this
  · intro q hq
    exact IMap.move (h.rset q hq) (hne _ (fun e => ha.1.2.2.1 (e ▸ List.mem_map.2 ⟨q, hq, rfl⟩)))
  · intro q hq
    exact IMap.move (h.oset q hq) (hne _ (fun e => ha.1.2.2.2 (e ▸ List.mem_map.2 ⟨q, hq, rfl⟩)))
theorem blks_del {x : Int} {m : Ent} : (blks (del x m)).Sublist (blks m) := List.Sublist.map _ List.filter_sublist
/-- A block's entry goes. -/
theorem IsGB.dropO (h : IsGB w g r o R O cnt peak) {x : Int} (hg : w.grownBy w1 (some o)) (hb : IMap w1 o (del x (ptrs O))) : IsGB w1 g r o R (del x O) cnt peak := by
  have ha := h.apart
  simp only [List.nodup_cons, List.nodup_append, List.mem_cons, List.mem_append, not_or] at ha
  have hne : ∀ k, k ≠ o → k < w.heap.size → w1.heap[k]? = w.heap[k]? := fun k hk hlt => hg.block k hlt (by simpa using hk)
  refine ⟨(hne g ha.1.2.1 (blk_lt h.cells)).trans h.cells, h.rmap.move (hne r ha.2.1.1 h.rmap.lt), by unfold ptrs; rw [← del_mp]; exact hb, ?_, ?_, ?_⟩
  · intro q hq
    exact IMap.move (h.rset q hq) (hne _ (fun e => ha.2.2.1.1 (e ▸ List.mem_map.2 ⟨q, hq, rfl⟩)) (h.rset q hq).lt)
  · intro q hq
    have hq' := (mem_del.1 hq).1
    exact IMap.move (h.oset q hq') (hne _ (fun e => ha.2.2.1.2 (e ▸ List.mem_map.2 ⟨q, hq', rfl⟩)) (h.oset q hq').lt)
  · refine h.apart.sublist ?_
    exact ((List.Sublist.refl _).append blks_del).cons_cons _ |>.cons_cons _ |>.cons_cons _
/-- An equation's entry goes. -/
theorem IsGB.dropR (h : IsGB w g r o R O cnt peak) {x : Int} (hg : w.grownBy w1 (some r)) (hb : IMap w1 r (del x (ptrs R))) : IsGB w1 g r o (del x R) O cnt peak := by
  have ha := h.apart
  simp only [List.nodup_cons, List.nodup_append, List.mem_cons, List.mem_append, not_or] at ha
  have hne : ∀ k, k ≠ r → k < w.heap.size → w1.heap[k]? = w.heap[k]? := fun k hk hlt => hg.block k hlt (by simpa using hk)
  refine ⟨(hne g ha.1.1 (blk_lt h.cells)).trans h.cells, by unfold ptrs; rw [← del_mp]; exact hb, h.omap.move (hne o (Ne.symm ha.2.1.1) h.omap.lt), ?_, ?_, ?_⟩
  · intro q hq
    have hq' := (mem_del.1 hq).1
    exact IMap.move (h.rset q hq') (hne _ (fun e => ha.2.1.2.1 (e ▸ List.mem_map.2 ⟨q, hq', rfl⟩)) (h.rset q hq').lt)
  · intro q hq
    exact IMap.move (h.oset q hq) (hne _ (fun e => ha.2.1.2.2 (e ▸ List.mem_map.2 ⟨q, hq, rfl⟩)) (h.oset q hq).lt)
  · refine h.apart.sublist ?_
    exact (blks_del.append (List.Sublist.refl _)).cons_cons _ |>.cons_cons _ |>.cons_cons _
/-- An equation, at a new block that is an empty set. -/
theorem IsGB.newR (h : IsGB w g r o R O cnt peak) {x : Int} {b : Nat} (hx : lkp x R = none) (hg : w.grownBy w1 (some r)) (hb : IMap w1 r (ins x (.map (some b)) (ptrs R))) (hlt : b < w.heap.size) (hs : SetB w b []) (hnew : b ∉ g :: r :: o :: (blks R ++ blks O)) :
    IsGB w1 g r o (ins x (b, []) R) O cnt peak := by
  have ha := h.apart
  have hsr := srt_ptrs h.rmap
  simp only [List.nodup_cons, List.nodup_append, List.mem_cons, List.mem_append, not_or] at ha
  simp only [List.mem_cons, List.mem_append, not_or] at hnew
  have hne : ∀ k, k ≠ r → k < w.heap.size → w1.heap[k]? = w.heap[k]? := fun k hk hlt => hg.block k hlt (by simpa using hk)
  have hperm : (blks (ins x (b, []) R)).Perm (b :: blks R) := by
    have : (ins x (b, ([] : List Int)) R).Perm ((x, (b, [])) :: R) := by
      refine (List.perm_ext_iff_of_nodup (srt_nodup (srt_ins hsr)) (List.nodup_cons.2 ⟨fun hm => get_none.1 hx _ hm rfl, srt_nodup hsr⟩)).2 (fun q => ?_)
      rw [mem_ins hsr, List.mem_cons]
      exact or_congr Iff.rfl ⟨fun h => h.1, fun hq => ⟨hq, fun e => get_none.1 hx _ hq e⟩⟩
    exact this.map _
  refine ⟨(hne g ha.1.1 (blk_lt h.cells)).trans h.cells, by unfold ptrs; rw [← ins_mp]; exact hb, h.omap.move (hne o (Ne.symm ha.2.1.1) h.omap.lt), ?_, ?_, ?_⟩
  · intro q hq
    rcases (mem_ins hsr).1 hq with rfl | ⟨hq', _⟩
    · exact IMap.move hs (hne _ hnew.2.1 hlt)
    · exact IMap.move (h.rset q hq') (hne _ (fun e => ha.2.1.2.1 (e ▸ List.mem_map.2 ⟨q, hq', rfl⟩)) (h.rset q hq').lt)
  · intro q hq
    exact IMap.move (h.oset q hq) (hne _ (fun e => ha.2.1.2.2 (e ▸ List.mem_map.2 ⟨q, hq, rfl⟩)) (h.oset q hq).lt)
  · have hp2 : (g :: r :: o :: (blks (ins x (b, []) R) ++ blks O)).Perm (b :: g :: r :: o :: (blks R ++ blks O)) := by
      refine List.Perm.trans (((hperm.append_right _).cons _).cons _ |>.cons _) ?_
      refine (((List.Perm.swap _ _ _).cons _).cons _).trans ?_
      exact ((List.Perm.swap _ _ _).cons _).trans (List.Perm.swap _ _ _)
    exact hp2.nodup_iff.2 (List.nodup_cons.2 ⟨by simp only [List.mem_cons, List.mem_append, not_or]; exact hnew, h.apart⟩)
/-- A block, at a new block that is an empty set. -/
theorem IsGB.newO (h : IsGB w g r o R O cnt peak) {x : Int} {b : Nat} (hx : lkp x O = none) (hg : w.grownBy w1 (some o)) (hb : IMap w1 o (ins x (.map (some b)) (ptrs O))) (hlt : b < w.heap.size) (hs : SetB w b []) (hnew : b ∉ g :: r :: o :: (blks R ++ blks O)) :
    IsGB w1 g r o R (ins x (b, []) O) cnt peak := by
  have ha := h.apart
  have hsr := srt_ptrs h.omap
  simp only [List.nodup_cons, List.nodup_append, List.mem_cons, List.mem_append, not_or] at ha
  simp only [List.mem_cons, List.mem_append, not_or] at hnew
  have hne : ∀ k, k ≠ o → k < w.heap.size → w1.heap[k]? = w.heap[k]? := fun k hk hlt => hg.block k hlt (by simpa using hk)
  have hperm : (blks (ins x (b, []) O)).Perm (b :: blks O) := by
    have : (ins x (b, ([] : List Int)) O).Perm ((x, (b, [])) :: O) := by
      refine (List.perm_ext_iff_of_nodup (srt_nodup (srt_ins hsr)) (List.nodup_cons.2 ⟨fun hm => get_none.1 hx _ hm rfl, srt_nodup hsr⟩)).2 (fun q => ?_)
      rw [mem_ins hsr, List.mem_cons]
      exact or_congr Iff.rfl ⟨fun h => h.1, fun hq => ⟨hq, fun e => get_none.1 hx _ hq e⟩⟩
    exact this.map _
  refine ⟨(hne g ha.1.2.1 (blk_lt h.cells)).trans h.cells, h.rmap.move (hne r ha.2.1.1 h.rmap.lt), by unfold ptrs; rw [← ins_mp]; exact hb, ?_, ?_, ?_⟩
  · intro q hq
    exact IMap.move (h.rset q hq) (hne _ (fun e => ha.2.2.1.1 (e ▸ List.mem_map.2 ⟨q, hq, rfl⟩)) (h.rset q hq).lt)
  · intro q hq
    rcases (mem_ins hsr).1 hq with rfl | ⟨hq', _⟩
    · exact IMap.move hs (hne _ hnew.2.2.1 hlt)
    · exact IMap.move (h.oset q hq') (hne _ (fun e => ha.2.2.1.2 (e ▸ List.mem_map.2 ⟨q, hq', rfl⟩)) (h.oset q hq').lt)
  · have hp2 : (g :: r :: o :: (blks R ++ blks (ins x (b, []) O))).Perm (b :: g :: r :: o :: (blks R ++ blks O)) := by
      have h1 : (blks R ++ blks (ins x (b, []) O)).Perm (b :: (blks R ++ blks O)) := (hperm.append_left _).trans List.perm_middle
      refine List.Perm.trans ((h1.cons _).cons _ |>.cons _) ?_
      refine (((List.Perm.swap _ _ _).cons _).cons _).trans ?_
      exact ((List.Perm.swap _ _ _).cons _).trans (List.Perm.swap _ _ _)
    exact hp2.nodup_iff.2 (List.nodup_cons.2 ⟨by simp only [List.mem_cons, List.mem_append, not_or]; exact hnew, h.apart⟩)
end
end Go.Proofs.Ythokppghpmkbaaa.Ed
