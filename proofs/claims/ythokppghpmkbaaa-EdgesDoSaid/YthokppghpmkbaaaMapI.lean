/- Maps whose keys are ints, as lists of pairs with rising keys: what the model's map operations do to such a block; no condition on the keys' size. -/
import Derived.Maps.Own
import Derived.Maps.OwnOps
import Derived.Maps.OwnSet
import Derived.Maps.RangeRun
import Derived.Maps.RangeWalk
import Derived.WalkKit
namespace Go.Proofs.Ythokppghpmkbaaa.Mi
open Go Go.RowKit Go.MapKept Go.ChangeMaps

/-! ### lists of pairs with rising keys -/
section
variable {α : Type}
def Srt (m : List (Int × α)) : Prop := m.Pairwise (fun p q => p.1 < q.1)
def lkp (x : Int) : List (Int × α) → Option α
  | [] => none
  | p :: r => if p.1 = x then some p.2 else lkp x r
def ins (x : Int) (v : α) : List (Int × α) → List (Int × α)
  | [] => [(x, v)]
  | p :: r => if x < p.1 then (x, v) :: p :: r else if p.1 = x then (x, v) :: r else p :: ins x v r
def del (x : Int) (m : List (Int × α)) : List (Int × α) := m.filter fun p => p.1 != x

theorem get_none {x : Int} : ∀ {m : List (Int × α)}, lkp x m = none ↔ ∀ p ∈ m, p.1 ≠ x
  | [] => by simp [lkp]
  | p :: r => by
    unfold lkp
    split
    · rename_i h; simp [h]
    · rename_i h; rw [get_none (m := r)]; simp [h]
theorem get_mem {x : Int} {v : α} : ∀ {m : List (Int × α)}, lkp x m = some v → (x, v) ∈ m
  | [], h => by simp [lkp] at h
  | p :: r, h => by
    unfold lkp at h
    split at h
    · rename_i e; cases h; rw [← e]; exact List.mem_cons_self
    · exact List.mem_cons_of_mem _ (get_mem h)
theorem get_of_mem {x : Int} {v : α} : ∀ {m : List (Int × α)}, Srt m → (x, v) ∈ m → lkp x m = some v
  | [], _, h => by simp at h
  | p :: r, hs, h => by
    obtain ⟨h1, h2⟩ := List.pairwise_cons.1 hs
    unfold lkp
    rcases List.mem_cons.1 h with rfl | h
    · simp
    · have := h1 _ h
      rw [if_neg (by simp at this ⊢; omega)]
      exact get_of_mem h2 h
theorem get_some {x : Int} {v : α} {m : List (Int × α)} (hs : Srt m) : lkp x m = some v ↔ (x, v) ∈ m := ⟨get_mem, get_of_mem hs⟩
theorem mem_ins {x : Int} {v : α} {q : Int × α} : ∀ {m : List (Int × α)}, Srt m → (q ∈ ins x v m ↔ q = (x, v) ∨ (q ∈ m ∧ q.1 ≠ x))
  | [], _ => by simp [ins]
  | p :: r, hs => by
    obtain ⟨h1, h2⟩ := List.pairwise_cons.1 hs
    unfold ins
    split
    · rename_i h
      constructor
      · intro hq
        rcases List.mem_cons.1 hq with rfl | hq
        · exact .inl rfl
        · refine .inr ⟨hq, ?_⟩
          rcases List.mem_cons.1 hq with rfl | hq
          · omega
          · have := h1 _ hq; omega
      · rintro (rfl | ⟨hq, _⟩)
        · exact List.mem_cons_self
        · exact List.mem_cons_of_mem _ hq
    · split
      · rename_i h h'
        constructor
        · intro hq
          rcases List.mem_cons.1 hq with rfl | hq
          · exact .inl rfl
          · exact .inr ⟨List.mem_cons_of_mem _ hq, by have := h1 _ hq; omega⟩
        · rintro (rfl | ⟨hq, hn⟩)
          · exact List.mem_cons_self
          · rcases List.mem_cons.1 hq with rfl | hq
            · exact absurd h' hn
            · exact List.mem_cons_of_mem _ hq
      · rename_i h h'
        rw [List.mem_cons, mem_ins h2, List.mem_cons]
        constructor
        · rintro (rfl | rfl | ⟨hq, hn⟩)
          · exact .inr ⟨.inl rfl, h'⟩
          · exact .inl rfl
          · exact .inr ⟨.inr hq, hn⟩
        · rintro (rfl | ⟨rfl | hq, hn⟩)
          · exact .inr (.inl rfl)
          · exact .inl rfl
          · exact .inr (.inr ⟨hq, hn⟩)
theorem srt_ins {x : Int} {v : α} : ∀ {m : List (Int × α)}, Srt m → Srt (ins x v m)
  | [], _ => by simp [ins, Srt]
  | p :: r, hs => by
    obtain ⟨h1, h2⟩ := List.pairwise_cons.1 hs
    unfold ins
    split
    · rename_i h
      refine List.pairwise_cons.2 ⟨fun q hq => ?_, hs⟩
      rcases List.mem_cons.1 hq with rfl | hq
      · exact h
      · have := h1 _ hq; simp only; omega
    · split
      · rename_i h h'
        exact List.pairwise_cons.2 ⟨fun q hq => by have := h1 _ hq; simp only; omega, h2⟩
      · rename_i h h'
        refine List.pairwise_cons.2 ⟨fun q hq => ?_, srt_ins h2⟩
        rcases (mem_ins h2).1 hq with rfl | ⟨hq, _⟩
        · simp only; omega
        · exact h1 _ hq
theorem srt_del {x : Int} {m : List (Int × α)} (hs : Srt m) : Srt (del x m) := List.Pairwise.filter _ hs
theorem mem_del {x : Int} {q : Int × α} {m : List (Int × α)} : q ∈ del x m ↔ q ∈ m ∧ q.1 ≠ x := by simp [del]
theorem get_ins {x y : Int} {v : α} {m : List (Int × α)} (hs : Srt m) : lkp y (ins x v m) = if y = x then some v else lkp y m := by
  have hsi := srt_ins (x := x) (v := v) hs
  split
  · rename_i h; subst h; exact get_of_mem hsi ((mem_ins hs).2 (.inl rfl))
  · rename_i h
    cases hg : lkp y m with
    | none =>
      rw [get_none] at hg ⊢
      intro p hp e
      rcases (mem_ins hs).1 hp with rfl | ⟨hp, _⟩
      · exact h e.symm
      · exact hg p hp e
    | some u => exact get_of_mem hsi ((mem_ins hs).2 (.inr ⟨get_mem hg, h⟩))
theorem get_del {x y : Int} {m : List (Int × α)} (hs : Srt m) : lkp y (del x m) = if y = x then none else lkp y m := by
  have hsi := srt_del (x := x) hs
  split
  · rename_i h; subst h; rw [get_none]; intro p hp; exact (mem_del.1 hp).2
  · rename_i h
    cases hg : lkp y m with
    | none => rw [get_none] at hg ⊢; intro p hp; exact hg p (mem_del.1 hp).1
    | some u => exact get_of_mem hsi (mem_del.2 ⟨get_mem hg, h⟩)
theorem srt_ext : ∀ {m m' : List (Int × α)}, Srt m → Srt m' → (∀ q, q ∈ m ↔ q ∈ m') → m = m'
  | [], [], _, _, _ => rfl
  | [], q :: r, _, _, h => by have := (h q).2 List.mem_cons_self; simp at this
  | p :: r, [], _, _, h => by have := (h p).1 List.mem_cons_self; simp at this
  | p :: r, q :: r', hs, hs', h => by
    obtain ⟨h1, h2⟩ := List.pairwise_cons.1 hs
    obtain ⟨h1', h2'⟩ := List.pairwise_cons.1 hs'
    have e : p = q := by
      rcases List.mem_cons.1 ((h p).1 List.mem_cons_self) with e | hp
      · exact e
      · rcases List.mem_cons.1 ((h q).2 List.mem_cons_self) with e | hq
        · exact e.symm
        · have := h1 _ hq; have := h1' _ hp; omega
    subst e
    congr 1
    refine srt_ext h2 h2' (fun z => ?_)
    constructor
    · intro hz
      rcases List.mem_cons.1 ((h z).1 (List.mem_cons_of_mem _ hz)) with rfl | hz'
      · have := h1 _ hz; omega
      · exact hz'
    · intro hz
      rcases List.mem_cons.1 ((h z).2 (List.mem_cons_of_mem _ hz)) with rfl | hz'
      · have := h1' _ hz; omega
      · exact hz'
theorem length_ins {x : Int} {v : α} : ∀ {m : List (Int × α)}, Srt m → (ins x v m).length = if (lkp x m).isSome then m.length else m.length + 1
  | [], _ => by simp [ins, lkp]
  | p :: r, hs => by
    obtain ⟨h1, h2⟩ := List.pairwise_cons.1 hs
    unfold ins lkp
    split
    · rename_i h
      rw [if_neg (by omega : ¬ p.1 = x)]
      have : lkp x r = none := get_none.2 (fun q hq => by have := h1 _ hq; omega)
      simp [this]
    · split
      · simp
      · rw [List.length_cons, length_ins h2]
        split <;> simp
theorem length_del {x : Int} : ∀ {m : List (Int × α)}, Srt m → (del x m).length = if (lkp x m).isSome then m.length - 1 else m.length
  | [], _ => by simp [del, lkp]
  | p :: r, hs => by
    obtain ⟨h1, h2⟩ := List.pairwise_cons.1 hs
    unfold lkp
    by_cases e : p.1 = x
    · have hd : del x (p :: r) = r := by
        unfold del
        rw [List.filter_cons_of_neg (by simp [e]), List.filter_eq_self]
        intro q hq
        have := h1 _ hq
        simp; omega
      rw [hd]; simp [e]
    · have hd : del x (p :: r) = p :: del x r := by
        unfold del
        rw [List.filter_cons_of_pos (by simp [e])]
      rw [hd, if_neg e, List.length_cons, length_del h2]
      split
      · rename_i hs'
        have : r ≠ [] := by rintro rfl; simp [lkp] at hs'
        have := List.length_pos_iff.2 this
        simp; omega
      · simp
theorem srt_nodup {m : List (Int × α)} (hs : Srt m) : m.Nodup := List.Pairwise.imp (fun {a b} (h : a.1 < b.1) (e : a = b) => by subst e; omega) (show m.Pairwise (fun p q => p.1 < q.1) from hs)
theorem srt_keys {m : List (Int × α)} (hs : Srt m) : (m.map (·.1)).Nodup := by
  rw [List.Nodup, List.pairwise_map]
  exact List.Pairwise.imp (fun {a b} (h : a.1 < b.1) (e : a.1 = b.1) => by omega) (show m.Pairwise (fun p q => p.1 < q.1) from hs)
end

/-! ### the block -/
def keyInt : Value → Int
  | .int _ a => a
  | _ => 0
def ent (e : MapEntry) : Int × Value := (keyInt e.key, e.val)
theorem isKey_int {v : Value} (h : IsKey (.int .i64) v) : v = .int .i64 (keyInt v) := by
  cases v <;> simp [IsKey] at h
  subst h
  rfl
theorem isKey_mk (x : Int) : IsKey (.int .i64) (.int .i64 x) := by simp [IsKey]

/-- Block b of w is a map of ints to values: these pairs, the keys rising. -/
def IMap (w : World) (b : Nat) (m : List (Int × Value)) : Prop :=
  ∃ es clock, w.heap[b]? = some (.map es clock) ∧ Stamped es clock ∧ (∀ x ∈ es.toList, IsKey (.int .i64) x.key) ∧ Srt m ∧ (es.toList.map ent).Perm m

section
variable {P : Program} {w w' : World} {b r : Nat} {m left : List (Int × Value)} {t k e : TypeId}
theorem IMap.srt (h : IMap w b m) : Srt m := by obtain ⟨_, _, _, _, _, hs, _⟩ := h; exact hs
theorem IMap.lt (h : IMap w b m) : b < w.heap.size := by
  obtain ⟨es, c, hb, _⟩ := h
  exact (Array.getElem?_eq_some_iff.1 hb).1
theorem IMap.move (h : IMap w b m) (hm : w'.heap[b]? = w.heap[b]?) : IMap w' b m := by
  obtain ⟨es, c, hb, r⟩ := h
  exact ⟨es, c, hm.trans hb, r⟩
theorem IMap.made (w : World) : IMap (w.alloc (.map #[] 0)) w.heap.size [] :=
  ⟨#[], 0, (heap_alloc w _).1, stamped_empty 0, by simp, by simp [Srt], by simp⟩

theorem perm_size {es : Array MapEntry} {m : List (Int × Value)} (hp : (es.toList.map ent).Perm m) : m.length = es.size := by
  have := hp.length_eq
  simpa using this.symm

/-- Where a key stands. -/
theorem IMap.find {es : Array MapEntry} (hk : ∀ x ∈ es.toList, IsKey (.int .i64) x.key) (hs : Srt m) (hp : (es.toList.map ent).Perm m) (hu : P.underlying k = some (.int .i64)) (w : World) (x : Int) :
    ((Instr.findKey k (.int .i64 x) es.toList).run P w = .ok none w ∧ lkp x m = none ∧ ∀ y ∈ es.toList, y.key ≠ .int .i64 x) ∨
    ∃ j e, (Instr.findKey k (.int .i64 x) es.toList).run P w = .ok (some (j, e.val)) w ∧ es.toList[j]? = some e ∧ e.key = .int .i64 x ∧ lkp x m = some e.val := by
  rcases findNow_spec (isKey_mk x) es.toList 0 hk with ⟨h1, h2⟩ | ⟨j, e0, h1, h2, h3⟩
  · refine .inl ⟨run_findKey hu h1, get_none.2 (fun p hp' => ?_), h2⟩
    obtain ⟨y, hy, rfl⟩ := List.mem_map.1 (hp.mem_iff.2 hp')
    intro e
    exact h2 y hy (by rw [isKey_int (hk y hy)]; exact congrArg _ e)
  · refine .inr ⟨j, e0, by simpa using run_findKey hu h1, h2, h3, get_of_mem hs (hp.mem_iff.1 (List.mem_map.2 ⟨e0, List.mem_of_getElem? h2, ?_⟩))⟩
    simp [ent, h3, keyInt]

/-- 'm[x]' and 'v, ok := m[x]'. -/
theorem IMap.look (h : IMap w b m) (c : Bool) (ht : P.underlying t = some (.map k e)) (hu : P.underlying k = some (.int .i64)) {z : Value} (hz : (zeroValue e).run P w = .ok z w) (x : Int) :
    (Instr.lookup t (.map (some b)) (.int .i64 x) c).run P w = .ok (if c then .tuple #[(lkp x m).getD z, .bool (lkp x m).isSome] else (lkp x m).getD z) w := by
  obtain ⟨es, clock, hb, hst, hk, hs, hp⟩ := h
  have hck : ∀ em, (Instr.checkKey em 10000 k (.int .i64 x)).run P w = .ok () w := fun em => run_checkKey hu (isKey_mk x) em 9999
  rcases IMap.find hk hs hp hu w x with ⟨h1, h2, _⟩ | ⟨j, e0, h1, _, _, h2⟩
  · simp [Instr.lookup, run_underlying ht, MapKept.run_getObj_map hb, hck, h1, h2, hz, Result.andThen]
  · simp [Instr.lookup, run_underlying ht, MapKept.run_getObj_map hb, hck, h1, h2, Result.andThen]
/-- The same of a nil map. -/
theorem look_nil (c : Bool) (ht : P.underlying t = some (.map k e)) (hu : P.underlying k = some (.int .i64)) {z : Value} (hz : (zeroValue e).run P w = .ok z w) (x : Int) :
    (Instr.lookup t (.map none) (.int .i64 x) c).run P w = .ok (if c then .tuple #[z, .bool false] else z) w := by
  have hck : ∀ em, (Instr.checkKey em 10000 k (.int .i64 x)).run P w = .ok () w := fun em => run_checkKey hu (isKey_mk x) em 9999
  have hf : (Instr.findKey k (.int .i64 x) []).run P w = .ok none w := run_findKey hu (by rfl)
  simp [Instr.lookup, run_underlying ht, hck, hf, hz, Result.andThen]

/-- 'm[x] = v': nothing but the block turns. -/
theorem IMap.store (h : IMap w b m) (ht : P.underlying t = some (.map k e)) (hu : P.underlying k = some (.int .i64)) (x : Int) (v : Value) :
    ∃ es clock, (Instr.mapUpdate t (.map (some b)) (.int .i64 x) v).run P w = .ok () (setBlock w b (.map es clock)) ∧ IMap (setBlock w b (.map es clock)) b (ins x v m) := by
  obtain ⟨es, clock, hb, hst, hk, hs, hp⟩ := h
  have hck : ∀ em, (Instr.checkKey em 10000 k (.int .i64 x)).run P w = .ok () w := fun em => run_checkKey hu (isKey_mk x) em 9999
  rcases IMap.find hk hs hp hu w x with ⟨h1, h2, h3⟩ | ⟨j, e0, h1, h2, h3, h4⟩
  · refine ⟨es.push ⟨.int .i64 x, v, clock⟩, clock + 1, by simp [Instr.mapUpdate, run_underlying ht, MapKept.run_getObj_map hb, hck, h1, MapKept.run_setObj_map _ hb, Result.andThen, setBlock], ?_⟩
    refine ⟨_, _, heap_setBlock_same hb _, stamped_push hst h3, ?_, srt_ins hs, ?_⟩
    · intro y hy
      simp only [Array.toList_push, List.mem_append, List.mem_singleton] at hy
      rcases hy with hy | rfl
      · exact hk y hy
      · exact isKey_mk x
    · have e1 : ins x v m |>.Perm ((x, v) :: m) := by
        refine (List.perm_ext_iff_of_nodup (srt_nodup (srt_ins hs)) (List.nodup_cons.2 ⟨fun hm => ?_, srt_nodup hs⟩)).2 (fun q => ?_)
        · exact get_none.1 h2 _ hm rfl
        · rw [mem_ins hs, List.mem_cons]
          exact or_congr Iff.rfl ⟨fun h => h.1, fun hq => ⟨hq, fun e => get_none.1 h2 _ hq e⟩⟩
      refine List.Perm.trans ?_ e1.symm
      rw [Array.toList_push, List.map_append, List.map_singleton]
      exact (List.perm_append_singleton _ _).trans (hp.cons _)
  · have hj : es[j]? = some e0 := by simpa using h2
    have hjl : j < es.toList.length := (List.getElem?_eq_some_iff.1 h2).1
    have hlist : (es.modify j (fun e' => { e' with key := .int .i64 x, val := v })).toList = es.toList.set j { e0 with key := .int .i64 x, val := v } := by rw [Array.toList_modify, modify_eq_set _ _ _ _ h2]
    have hkeyf : ∀ e', es[j]? = some e' → ({ e' with key := .int .i64 x, val := v } : MapEntry).key = e'.key := fun e' he' => by rw [hj] at he'; cases he'; exact h3.symm
    refine ⟨es.modify j (fun e' => { e' with key := .int .i64 x, val := v }), clock, by simp [Instr.mapUpdate, run_underlying ht, MapKept.run_getObj_map hb, hck, h1, hj, h3, run_keyThatStays (isKey_mk x), MapKept.run_setObj_map _ hb, Result.andThen, setBlock], ?_⟩
    have hkn : es.toList.Pairwise (fun x y => x.key ≠ y.key) := ((stamped_iff es clock).1 hst).2.2
    refine ⟨_, _, heap_setBlock_same hb _, stamped_modify hst _ _ (fun _ _ => rfl) (fun e' _ he' => hkeyf e' he'), ?_, srt_ins hs, ?_⟩
    · intro y hy
      rw [hlist] at hy
      obtain ⟨i, hi, ex⟩ := List.getElem_of_mem hy
      rw [List.getElem_set] at ex
      split at ex
      · rw [← ex]; exact isKey_mk x
      · rw [← ex]; exact hk _ (List.getElem_mem _)
    · rw [hlist, List.map_set]
      have hnd : (es.toList.map ent).Nodup := hp.nodup_iff.2 (srt_nodup hs)
      have hgj : (es.toList.map ent)[j]? = some (x, e0.val) := by simp [h2, ent, h3, keyInt]
      have hkeys : ((es.toList.map ent).map (·.1)).Nodup := (hp.map (·.1)).nodup_iff.2 (srt_keys hs)
      have hset : ((es.toList.map ent).set j (x, v)).map (·.1) = (es.toList.map ent).map (·.1) := by
        rw [List.map_set]
        refine List.ext_getElem (by simp) (fun i h1' h2' => ?_)
        rw [List.getElem_set]
        split
        · rename_i e
          subst e
          have : ((es.toList.map ent).map (·.1))[j]? = some x := by rw [List.getElem?_map, hgj]; rfl
          exact ((List.getElem?_eq_some_iff.1 this).2).symm
        · rfl
      have hnd2 : ((es.toList.map ent).set j (x, v)).Nodup := by
        have : (((es.toList.map ent).set j (x, v)).map (·.1)).Nodup := by rw [hset]; exact hkeys
        exact List.Pairwise.of_map (f := (·.1)) (fun _ _ h e => h (by rw [e])) this
      refine (List.perm_ext_iff_of_nodup hnd2 (srt_nodup (srt_ins hs))).2 (fun q => ?_)
      rw [mem_ins hs]
      have hlen : j < (es.toList.map ent).length := by simpa using hjl
      constructor
      · intro hq
        obtain ⟨i, hi, ex⟩ := List.getElem_of_mem hq
        rw [List.getElem_set] at ex
        split at ex
        · exact .inl ex.symm
        · rename_i hne
          have hi' : i < (es.toList.map ent).length := by simpa using hi
          refine .inr ⟨hp.mem_iff.1 (ex ▸ List.getElem_mem hi'), fun e1 => hne ?_⟩
          have hii : ((es.toList.map ent).map (·.1))[i]? = some x := by rw [List.getElem?_map, List.getElem?_eq_getElem hi', ex]; exact congrArg some e1
          have hjj : ((es.toList.map ent).map (·.1))[j]? = some x := by rw [List.getElem?_map, hgj]; rfl
          exact (List.getElem?_inj (by simpa using hlen) hkeys).1 (hjj.trans hii.symm)
      · rintro (rfl | ⟨hq, hne⟩)
        · exact List.mem_iff_getElem.2 ⟨j, by simpa using hlen, by simp⟩
        · obtain ⟨i, hi, ex⟩ := List.getElem_of_mem (hp.mem_iff.2 hq)
          refine List.mem_iff_getElem.2 ⟨i, by simpa using hi, ?_⟩
          rw [List.getElem_set, if_neg]
          · exact ex
          · rintro rfl
            apply hne
            have := (List.getElem?_eq_some_iff.1 hgj).2
            rw [ex] at this
            rw [this]

/-- 'delete(m, x)'. -/
theorem IMap.drop (h : IMap w b m) (ht : P.underlying t = some (.map k e)) (hu : P.underlying k = some (.int .i64)) (x : Int) (ty : TypeId) :
    ∃ es clock, (Builtin.delete_ #[t, k] ty #[.map (some b), .int .i64 x]).run P w = .ok (.tuple #[]) (setBlock w b (.map es clock)) ∧ IMap (setBlock w b (.map es clock)) b (del x m) := by
  obtain ⟨es, clock, hb, hst, hk, hs, hp⟩ := h
  have hck : ∀ em, (Instr.checkKey em 10000 k (.int .i64 x)).run P w = .ok () w := fun em => run_checkKey hu (isKey_mk x) em 9999
  rcases IMap.find hk hs hp hu w x with ⟨h1, h2, h3⟩ | ⟨j, e0, h1, h2, h3, h4⟩
  · refine ⟨es, clock, by simp [Builtin.delete_, run_underlying ht, MapKept.run_getObj_map hb, hck, h1, MapKept.run_setObj_map _ hb, Result.andThen, setBlock], _, _, heap_setBlock_same hb _, hst, hk, srt_del hs, ?_⟩
    have : del x m = m := List.filter_eq_self.2 (fun p hp' => by have := get_none.1 h2 p hp'; simp [this])
    rw [this]; exact hp
  · have hjl : j < es.toList.length := (List.getElem?_eq_some_iff.1 h2).1
    have hjs : j < es.size := by simpa using hjl
    have hsub : (es.eraseIdxIfInBounds j).toList = es.toList.eraseIdx j := by
      unfold Array.eraseIdxIfInBounds
      rw [dif_pos hjs]
      simp
    refine ⟨es.eraseIdxIfInBounds j, clock, by simp [Builtin.delete_, run_underlying ht, MapKept.run_getObj_map hb, hck, h1, MapKept.run_setObj_map _ hb, Result.andThen, setBlock], _, _, heap_setBlock_same hb _, stamped_erase hst j, ?_, srt_del hs, ?_⟩
    · intro y hy
      rw [hsub] at hy
      exact hk y ((List.eraseIdx_sublist _ _).subset hy)
    · rw [hsub, map_eraseIdx]
      have hnd : (es.toList.map ent).Nodup := hp.nodup_iff.2 (srt_nodup hs)
      have hgj : (es.toList.map ent)[j]? = some (x, e0.val) := by simp [h2, ent, h3, keyInt]
      have hkeys : ((es.toList.map ent).map (·.1)).Nodup := (hp.map (·.1)).nodup_iff.2 (srt_keys hs)
      refine (List.perm_ext_iff_of_nodup (hnd.sublist (List.eraseIdx_sublist _ _)) (srt_nodup (srt_del hs))).2 (fun q => ?_)
      rw [mem_del, List.mem_eraseIdx_iff_getElem?]
      have hlen : j < (es.toList.map ent).length := by simpa using hjl
      constructor
      · rintro ⟨i, hne, hi⟩
        refine ⟨hp.mem_iff.1 (List.mem_of_getElem? hi), fun e1 => hne ?_⟩
        have hii : ((es.toList.map ent).map (·.1))[i]? = some x := by rw [List.getElem?_map, hi]; exact congrArg some e1
        have hjj : ((es.toList.map ent).map (·.1))[j]? = some x := by rw [List.getElem?_map, hgj]; rfl
        exact ((List.getElem?_inj (by simpa using hlen) hkeys).1 (hjj.trans hii.symm)).symm
      · rintro ⟨hq, hne⟩
        obtain ⟨i, hi, ex⟩ := List.getElem_of_mem (hp.mem_iff.2 hq)
        refine ⟨i, ?_, by rw [List.getElem?_eq_getElem hi, ex]⟩
        rintro rfl
        apply hne
        have := (List.getElem?_eq_some_iff.1 hgj).2
        rw [ex] at this
        rw [this]
/-- The same of a nil map. -/
theorem drop_nil (ht : P.underlying t = some (.map k e)) (hu : P.underlying k = some (.int .i64)) (x : Int) (ty : TypeId) :
    (Builtin.delete_ #[t, k] ty #[.map none, .int .i64 x]).run P w = .ok (.tuple #[]) w := by
  have hck : ∀ em, (Instr.checkKey em 10000 k (.int .i64 x)).run P w = .ok () w := fun em => run_checkKey hu (isKey_mk x) em 9999
  simp [Builtin.delete_, run_underlying ht, hck, Result.andThen]

/-- 'len(m)'. -/
theorem IMap.len (h : IMap w b m) (ht : P.underlying t = some (.map k e)) (ty : TypeId) : (Builtin.len_ #[t] ty #[.map (some b)]).run P w = .ok (.int .i64 m.length) w := by
  obtain ⟨es, clock, hb, _, _, _, hp⟩ := h
  rw [perm_size hp]
  simp [Builtin.len_, run_underlying ht, MapKept.run_getObj_map hb, goInt, Result.andThen]
theorem len_nil (ht : P.underlying t = some (.map k e)) (ty : TypeId) : (Builtin.len_ #[t] ty #[.map none]).run P w = .ok (.int .i64 0) w := by
  simp [Builtin.len_, run_underlying ht, goInt, Result.andThen]

/-! ### a block that is turned -/
theorem sb_other {o : Obj} {r' : Nat} (h : r' ≠ r) : (setBlock w r o).heap[r']? = w.heap[r']? := by
  simp [setBlock, Ne.symm h]
theorem sb_same {o o' : Obj} (h : w.heap[r]? = some o') : (setBlock w r o).heap[r]? = some o := by
  have := (Array.getElem?_eq_some_iff.1 h).1
  simp [setBlock, this]
theorem sb_size {o : Obj} : (setBlock w r o).heap.size = w.heap.size := by simp [setBlock]

/-! ### 'for k := range m' -/
/-- An iterator at block r over the map at b, of which these pairs are still to come. -/
def IIter (w : World) (r b : Nat) (m left : List (Int × Value)) : Prop :=
  ∃ es clock since seen c0, w.heap[b]? = some (.map es clock) ∧ w.heap[r]? = some (.mapIter (some b) since seen c0) ∧ Stamped es clock ∧ (∀ x ∈ es.toList, IsKey (.int .i64) x.key) ∧ Srt m ∧ (es.toList.map ent).Perm m ∧
    (∀ x ∈ es.toList, x.born < since) ∧ since ≤ c0 ∧ since ≤ clock ∧ (leftOf es seen).toList.map ent = left
theorem IIter.move (h : IIter w r b m left) (hb : w'.heap[b]? = w.heap[b]?) (hr : w'.heap[r]? = w.heap[r]?) : IIter w' r b m left := by
  obtain ⟨es, c, s, se, c0, h1, h2, h3⟩ := h
  exact ⟨es, c, s, se, c0, hb.trans h1, hr.trans h2, h3⟩
theorem IIter.map (h : IIter w r b m left) : IMap w b m := by
  obtain ⟨es, c, s, se, c0, h1, h2, h3, h4, h5, h6, _⟩ := h
  exact ⟨es, c, h1, h3, h4, h5, h6⟩
theorem IIter.ne (h : IIter w r b m left) : r ≠ b := by
  obtain ⟨es, c, s, se, c0, h1, h2, _⟩ := h
  rintro rfl
  rw [h1] at h2
  cases h2
theorem IIter.lt (h : IIter w r b m left) : r < w.heap.size := by
  obtain ⟨es, c, s, se, c0, h1, h2, _⟩ := h
  exact (Array.getElem?_eq_some_iff.1 h2).1
/-- 'range m'. -/
theorem IMap.range (h : IMap w b m) (ht : P.underlying t = some (.map k e)) :
    ∃ o left, (Instr.range t (.map (some b))).run P w = .ok (.pointer (some ⟨w.heap.size, 0, none⟩)) (w.alloc o) ∧ IIter (w.alloc o) w.heap.size b m left ∧ left.Perm m := by
  have hlt := h.lt
  obtain ⟨es, clock, hb, hst, hk, hs, hp⟩ := h
  refine ⟨.mapIter (some b) clock #[] clock, es.toList.map ent, ?_, ⟨es, clock, clock, #[], clock, ?_, (heap_alloc w _).1, hst, hk, hs, hp, hst.1, Nat.le_refl _, Nat.le_refl _, ?_⟩, hp⟩
  · exact run_range_map w t k e b es clock ht hb
  · exact (Below.heap_alloc w _ b hlt).trans hb
  · have hf : (leftOf es #[]).toList = es.toList := by simp only [leftOf, Array.toList_filter]; exact List.filter_eq_self.2 (fun _ _ => by simp)
    rw [hf]
/-- The loop's step. -/
theorem IIter.next (h : IIter w r b m left) (ty : TypeId) :
    (left = [] ∧ (Instr.next (.pointer (some ⟨r, 0, none⟩)) false ty).run P w = .ok (.tuple #[.bool false]) w) ∨
    ∃ x v left' w1 o, left.Perm ((x, v) :: left') ∧ (w1 = w ∨ w1 = w.drew) ∧ (Instr.next (.pointer (some ⟨r, 0, none⟩)) false ty).run P w = .ok (.tuple #[.bool true, .int .i64 x, v]) (setBlock w1 r o) ∧ IIter (setBlock w1 r o) r b m left' ∧
      (Instr.entry (.pointer (some ⟨r, 0, none⟩))).run P (setBlock w1 r o) = .ok (.tuple #[.int .i64 x, v]) (setBlock w1 r o) := by
  have hne := h.ne
  obtain ⟨es, clock, since, seen, c0, hb, hr, hst, hk, hs, hp, hold, hsc, hscl, hleft⟩ := h
  rcases run_next_at (P := P) w ty r b since c0 seen es clock hr hb hold hsc with ⟨h0, hrun⟩ | ⟨e, he, w1, hw1, hrun⟩
  · refine .inl ⟨?_, hrun⟩
    rw [← hleft, Array.eq_empty_of_size_eq_zero h0]
    rfl
  · have heL : e ∈ es.toList := by
      have := he
      simp [leftOf] at this
      simpa using this.1
    have hkey : e.key = .int .i64 (keyInt e.key) := isKey_int (hk e heL)
    have hb1 : w1.heap[b]? = some (.map es clock) := by rcases hw1 with rfl | rfl <;> exact hb
    have hr1 : w1.heap[r]? = some (.mapIter (some b) since seen c0) := by rcases hw1 with rfl | rfl <;> exact hr
    have hb2 : (setBlock w1 r (.mapIter (some b) since (seen.push e.born) clock)).heap[b]? = some (.map es clock) := (sb_other (fun e => hne e.symm)).trans hb1
    have hr2 : (setBlock w1 r (.mapIter (some b) since (seen.push e.born) clock)).heap[r]? = some (.mapIter (some b) since (seen.push e.born) clock) := sb_same hr1
    have hbn : (es.toList.map (·.born)).Nodup := hst.2.1
    have hfil : (leftOf es (seen.push e.born)).toList = (leftOf es seen).toList.filter (fun y => y.born != e.born) := by
      simp only [leftOf, Array.toList_filter, List.filter_filter]
      refine List.filter_congr (fun y _ => ?_)
      by_cases h1 : y.born = e.born
      · simp [h1]
      · simp [h1]
    refine .inr ⟨keyInt e.key, e.val, (leftOf es (seen.push e.born)).toList.map ent, w1, _, ?_, hw1, by rw [← hkey]; exact hrun, ⟨es, clock, since, seen.push e.born, clock, hb2, hr2, hst, hk, hs, hp, hold, hscl, hscl, rfl⟩, ?_⟩
    · rw [← hleft, hfil]
      have hln : ((leftOf es seen).toList.map (·.born)).Nodup := by
        simp only [leftOf, Array.toList_filter]
        exact hbn.sublist (List.Sublist.map _ List.filter_sublist)
      have hln' : (leftOf es seen).toList.Nodup := List.Pairwise.of_map (f := (·.born)) (fun _ _ h e => h (by rw [e])) hln
      have hpe : (leftOf es seen).toList.Perm (e :: (leftOf es seen).toList.filter (fun y => y.born != e.born)) := by
        refine (List.perm_ext_iff_of_nodup hln' (List.nodup_cons.2 ⟨by simp, hln'.filter _⟩)).2 (fun q => ?_)
        rw [List.mem_cons, List.mem_filter]
        constructor
        · intro hq
          by_cases hqe : q.born = e.born
          · left
            have hq' : q ∈ (leftOf es seen).toList := hq
            have he' : e ∈ (leftOf es seen).toList := he
            obtain ⟨i, hi, e1⟩ := List.getElem_of_mem hq'
            obtain ⟨j, hj, e2⟩ := List.getElem_of_mem he'
            have e3 : ((leftOf es seen).toList.map (·.born))[i]? = ((leftOf es seen).toList.map (·.born))[j]? := by
              rw [List.getElem?_map, List.getElem?_map, List.getElem?_eq_getElem hi, List.getElem?_eq_getElem hj, e1, e2]
              simp [hqe]
            have := (List.getElem?_inj (by simpa using hi) hln).1 e3
            subst this
            rw [← e1, ← e2]
          · exact .inr ⟨hq, by simpa using hqe⟩
        · rintro (rfl | ⟨hq, _⟩)
          · exact he
          · exact hq
      exact hpe.map ent
    · rw [← hkey]
      exact run_entry_at _ r b since seen es clock e hr2 hb2 heL hbn
theorem sb_grown {o : Obj} : w.grownBy (setBlock w r o) (some r) :=
  ⟨rfl, rfl, rfl, by rw [sb_size]; exact Nat.le_refl _, fun i _ hi => sb_other (fun e => hi (by rw [e]))⟩
end

/-! ### at the operation, for the walk -/
section
variable {P : Program} {w : World} {ops : Array Oper} {rest : List Oper} {o : Oper} {a : Act} {Q : Exit → Act → World → Prop} {b : Nat} {m left : List (Int × Value)} {t k e : TypeId}
theorem wpList_store_I (hg : o.guard = none) (mm x v : Operand) (hop : o.op = Op.mapUpdate t mm x v) (ht : P.underlying t = some (.map k e)) (hu : P.underlying k = some (.int .i64))
    (hm : a.eval mm = .map (some b)) (h : IMap w b m) (key : Int) (val : Value) (hx : a.eval x = .int .i64 key) (hv : a.eval v = val)
    (hK : ∀ w', IMap w' b (ins key val m) → w.grownBy w' (some b) → w'.heap.size = w.heap.size → wpList P ops Q rest (a.put o.dst undef) w') :
    wpList P ops Q (o :: rest) a w := by
  refine wpList_plain hg fun K' hK' => ?_
  obtain ⟨es, clock, hrun, h1⟩ := h.store ht hu key val
  unfold Oper.wp
  simp [execOp, hop, hm, hx, hv, hrun, Result.andThen]
  exact hK' _ _ (hK _ h1 sb_grown sb_size)
theorem wpList_drop_I (hg : o.guard = none) (mm x : Operand) (hop : o.op = Op.call { callee := Callee.builtin Builtin.delete, args := #[mm, x], argTypes := #[t, k] }) (ht : P.underlying t = some (.map k e)) (hu : P.underlying k = some (.int .i64))
    (hm : a.eval mm = .map (some b)) (h : IMap w b m) (key : Int) (hx : a.eval x = .int .i64 key)
    (hK : ∀ w', IMap w' b (del key m) → w.grownBy w' (some b) → w'.heap.size = w.heap.size → wpList P ops Q rest (a.put o.dst (.tuple #[])) w') :
    wpList P ops Q (o :: rest) a w := by
  refine wpList_plain hg fun K' hK' => ?_
  obtain ⟨es, clock, hrun, h1⟩ := h.drop ht hu key o.type
  unfold Oper.wp
  simp [execOp, hop, resolve, invoke, builtin, hm, hx, hrun, Result.andThen]
  exact hK' _ _ (hK _ h1 sb_grown sb_size)
theorem wpList_range_I (hg : o.guard = none) (mm : Operand) (hop : o.op = Op.range t mm) (ht : P.underlying t = some (.map k e)) (hm : a.eval mm = .map (some b)) (h : IMap w b m)
    (hK : ∀ w' left, IIter w' w.heap.size b m left → left.Perm m → Below w.heap.size w w' → w'.heap.size = w.heap.size + 1 → wpList P ops Q rest (a.put o.dst (.pointer (some ⟨w.heap.size, 0, none⟩))) w') :
    wpList P ops Q (o :: rest) a w := by
  refine wpList_plain hg fun K' hK' => ?_
  obtain ⟨ob, left, hrun, h1, h2⟩ := h.range ht
  unfold Oper.wp
  simp [execOp, hop, hm, hrun, Result.andThen]
  exact hK' _ _ (hK _ left h1 h2 ((Below.refl _ _).alloc (Nat.le_refl _) _) (by simp))
theorem wpList_next_I (hg : o.guard = none) (it : Operand) (hop : o.op = Op.next it false) (r : Nat) (hit : a.eval it = .pointer (some ⟨r, 0, none⟩)) (h : IIter w r b m left)
    (hDone : left = [] → wpList P ops Q rest (a.put o.dst (.tuple #[.bool false])) w)
    (hMore : ∀ x v left' w', left.Perm ((x, v) :: left') → IIter w' r b m left' → w.grownBy w' (some r) → w'.heap.size = w.heap.size →
      (Instr.entry (.pointer (some ⟨r, 0, none⟩))).run P w' = .ok (.tuple #[.int .i64 x, v]) w' → wpList P ops Q rest (a.put o.dst (.tuple #[.bool true, .int .i64 x, v])) w') :
    wpList P ops Q (o :: rest) a w := by
  refine wpList_plain hg fun K' hK' => ?_
  unfold Oper.wp
  rcases h.next (P := P) o.type with ⟨h0, hrun⟩ | ⟨x, v, left', w1, ob, hperm, hw1, hrun, h1, hen⟩
  · simp [execOp, hop, hit, hrun, Result.andThen]
    exact hK' _ _ (hDone h0)
  · simp [execOp, hop, hit, hrun, Result.andThen]
    refine hK' _ _ (hMore x v left' _ hperm h1 ?_ ?_ hen)
    · rcases hw1 with rfl | rfl
      · exact sb_grown
      · exact ⟨rfl, rfl, rfl, by rw [sb_size]; exact Nat.le_refl _, fun i _ hi => sb_other (fun e => hi (by rw [e]))⟩
    · rw [sb_size]
      rcases hw1 with rfl | rfl <;> rfl
end
end Go.Proofs.Ythokppghpmkbaaa.Mi
