/- The methods of edges.Graph, each told by what it makes of the graph. -/
import Derived.Test.YthokppghpmkbaaaGraph
import Derived.Test.YthokppghpmkbaaaSort
import Derived.Deep.DeepCutAuto
namespace Go.Proofs.Ythokppghpmkbaaa.Ed
open Go Go.RowKit Go.Proofs.Ythokppghpmkbaaa.Mi Go.Proofs.YthokppghpmkbaaaW.PrintWords Go.Proofs.YthokppghpmkbaaaW.PrintLast
set_option linter.unusedVariables false
set_option linter.unusedSimpArgs false

theorem zeroM (w : World) : (zeroValue 142).run Try.prog w = .ok (.map none) w := by kernel_rfl
theorem zeroU (w : World) : (zeroValue 144).run Try.prog w = .ok (.agg #[]) w := by kernel_rfl

/-- 'm[x]' in a map of sets. -/
theorem look_ptrs {w : World} {r : Nat} {R : Ent} (h : IMap w r (ptrs R)) (x : Int) : (Instr.lookup 24 (.map (some r)) (.int .i64 x) false).run Try.prog w = .ok (((lkp x R).map fun p => Value.map (some p.1)).getD (.map none)) w := by
  have := h.look false Try.underlying24 Try.underlying3 (zeroM w) x
  simpa [ptrs, get_mp] using this
theorem look_ptrs2 {w : World} {r : Nat} {R : Ent} (h : IMap w r (ptrs R)) (x : Int) : (Instr.lookup 24 (.map (some r)) (.int .i64 x) true).run Try.prog w = .ok (.tuple #[((lkp x R).map fun p => Value.map (some p.1)).getD (.map none), .bool (lkp x R).isSome]) w := by
  have := h.look true Try.underlying24 Try.underlying3 (zeroM w) x
  simpa [ptrs, get_mp] using this
theorem setB_del {w : World} {b : Nat} {s : List Int} {x : Int} (h : IMap w b (del x (s.map fun x => (x, Value.agg #[])))) : SetB w b (s.filter (· != x)) := by
  have : del x (s.map fun x => (x, Value.agg #[])) = (s.filter (· != x)).map fun x => (x, Value.agg #[]) := by
    unfold del; rw [List.filter_map]; rfl
  rw [this] at h
  exact h
theorem setB_len {w : World} {b : Nat} {s : List Int} (h : SetB w b s) (ty : TypeId) : (Builtin.len_ #[142] ty #[.map (some b)]).run Try.prog w = .ok (.int .i64 s.length) w := by
  have := IMap.len h Try.underlying142 ty
  simpa using this

/-- The equations' sets without a block at one equation. -/
def cutR (e b : Int) (R : List (Int × List Int)) : List (Int × List Int) := alter e (·.filter (· != b)) R
/-- The blocks' sets without an equation at one block; a block goes with its last one. -/
def cutO (e b : Int) (O : List (Int × List Int)) : List (Int × List Int) :=
  if ((lkp b O).getD []).filter (· != e) = [] then del b O else alter b (·.filter (· != e)) O

theorem sets_alter {x : Int} {b : Nat} {s s0 : List Int} {m : Ent} {f : List Int → List Int} (hs : Srt m) (h : lkp x m = some (b, s0)) (hf : f s0 = s) : sets (alter x (fun _ => (b, s)) m) = alter x f (sets m) := by
  unfold sets mp alter
  rw [List.map_map, List.map_map]
  refine List.map_congr_left (fun p hp => ?_)
  simp only [Function.comp]
  by_cases e : p.1 = x
  · have := get_of_mem hs (show (x, p.2) ∈ m by rw [← e]; exact hp)
    rw [h] at this
    rw [if_pos e, if_pos e, ← Option.some.inj this]
    simp [hf]
  · rw [if_neg e, if_neg e]

theorem look_at {w : World} {r : Nat} {R : Ent} (h : IMap w r (ptrs R)) {x : Int} {b : Nat} {s : List Int} (hx : lkp x R = some (b, s)) : (Instr.lookup 24 (.map (some r)) (.int .i64 x) false).run Try.prog w = .ok (.map (some b)) w := by
  rw [look_ptrs h, hx]; rfl
theorem IsGB.facts {w : World} {g r o : Nat} {R O : Ent} {cnt peak : Int} (h : IsGB w g r o R O cnt peak) :
    w.cell? ⟨g, 0, none⟩ = some (.map (some r)) ∧ w.cell? ⟨g, 1, none⟩ = some (.map (some o)) ∧ w.cell? ⟨g, 2, none⟩ = some (.int .i64 cnt) ∧ w.cell? ⟨g, 3, none⟩ = some (.int .i64 peak) ∧ w.frozen? ⟨g, 2, none⟩ = false ∧ w.frozen? ⟨g, 3, none⟩ = false :=
  ⟨(blk_cell h.cells 0).trans rfl, (blk_cell h.cells 1).trans rfl, (blk_cell h.cells 2).trans rfl, (blk_cell h.cells 3).trans rfl, blk_frozen h.cells 2, blk_frozen h.cells 3⟩
abbrev GBlocks (g r o : Nat) (R O : Ent) : Nat → Prop := fun k => k ∈ g :: r :: o :: (blks R ++ blks O)
theorem lkp_alter_ne {x y : Int} {α : Type} {f : α → α} {m : List (Int × α)} {v : α} (h : lkp y m = some v) (hne : y ≠ x) : lkp y (alter x f m) = some v := by rw [get_alter, if_neg hne, h]
theorem lkp_alter {x : Int} {α : Type} {f : α → α} {m : List (Int × α)} {v : α} (h : lkp x m = some v) : lkp x (alter x f m) = some (f v) := by rw [get_alter, if_pos rfl, h]; rfl
theorem lkp_sets {x : Int} {m : Ent} {b : Nat} {s : List Int} (h : lkp x m = some (b, s)) : lkp x (sets m) = some s := by unfold sets; rw [get_mp, h]; rfl
theorem cutO_del {x y : Int} {O : List (Int × List Int)} {s : List Int} (h : lkp y O = some s) (hs : s.filter (· != x) = []) : cutO x y O = del y O := by unfold cutO; rw [h]; simp only [Option.getD_some]; rw [if_pos hs]
theorem cutO_alter {x y : Int} {O : List (Int × List Int)} {s : List Int} (h : lkp y O = some s) (hs : s.filter (· != x) ≠ []) : cutO x y O = alter y (·.filter (· != x)) O := by unfold cutO; rw [h]; simp only [Option.getD_some]; rw [if_neg hs]
theorem del_alter {x : Int} {α : Type} {f : α → α} {m : List (Int × α)} : del x (alter x f m) = del x m := by
  unfold del alter
  induction m with
  | nil => rfl
  | cons p r ih =>
    rw [List.map_cons]
    by_cases h : p.1 = x
    · rw [if_pos h, List.filter_cons_of_neg (by simp [h]), List.filter_cons_of_neg (by simp [h]), ih]
    · rw [if_neg h, List.filter_cons_of_pos (by simpa using h), List.filter_cons_of_pos (by simpa using h), ih]
theorem sets_del {x : Int} {m : Ent} : sets (del x m) = del x (sets m) := by unfold sets; rw [del_mp]

set_option maxHeartbeats 1000000 in
set_option maxRecDepth 100000 in
theorem cut_calls (g r o : Nat) (R O : Ent) (cnt peak : Int) (w : World) (h : IsGB w g r o R O cnt peak) (e b : Int) (b1 : Nat) (s1 : List Int) (he : lkp e R = some (b1, s1)) (b2 : Nat) (s2 : List Int) (hb : lkp b O = some (b2, s2))
    (hc : 1 ≤ cnt) (hc2 : cnt ≤ 4611686018427387904) :
    Calls Try.prog 93 #[.pointer (some ⟨g, 0, none⟩), .int .i64 e, .int .i64 b] w fun en w' => en = .returned (.tuple #[]) ∧
      (∃ R' O', IsGB w' g r o R' O' (cnt - 1) peak ∧ sets R' = cutR e b (sets R) ∧ sets O' = cutO e b (sets O) ∧ (∀ k ∈ blks R' ++ blks O', k ∈ blks R ++ blks O)) ∧ Fr w w' (GBlocks g r o R O) := by
  have H := Aside0.mk h
  obtain ⟨c0, c1, _, _, _, _⟩ := h.facts
  have l1 := look_at h.rmap he
  have hm1 := mem_lkp he
  have hm2 := mem_lkp hb
  have HS1 := Aside0.mk (h.rset _ hm1)
  have HE := Aside0.mk he
  have HBb := Aside0.mk hb
  have HR' := Aside0.mk (sets_alter (srt_ptrs h.rmap) he (f := (·.filter (· != b))) rfl)
  have HO' := Aside0.mk (sets_alter (srt_ptrs h.omap) hb (f := (·.filter (· != e))) rfl)
  have HM1 := Aside0.mk hm1
  have HM2 := Aside0.mk hm2
  have HBR := Aside0.mk (show blks (alter e (fun _ => (b1, s1.filter (· != b))) R) = blks R from blks_alter (srt_ptrs h.rmap) he)
  have HBO := Aside0.mk (show blks (alter b (fun _ => (b2, s2.filter (· != e))) O) = blks O from blks_alter (srt_ptrs h.omap) hb)
  clear h he hb hm1 hm2
  by_cases hn : s2.filter (· != e) = []
  all_goals have HN := Aside0.mk hn
  · have hz : ((((s2.filter (· != e)).length : Int)) == 0) = true := by rw [hn]; rfl
    clear hn
    go_enter Try.func93, Try.ntmps93
    go_wp2_with (first
      | (at_delete; refine wpList_drop_I rfl (.tmp 11) (.tmp 12) rfl Try.underlying142 Try.underlying3 rfl HS1.out b rfl ?_; intro w1 h1 hg1 hs1; have H1 := Aside0.mk (H.out.turnR HE.out hg1 (setB_del h1)); have HF1 := Aside0.mk (Fr.grown (Fr.refl w (GBlocks g r o R O)) hg1 (fun k hk => by cases hk; exact .inl (by simp [blks]; exact .inr (.inr (.inr (.inl ⟨_, _, HM1.out⟩)))))); obtain ⟨_, d1, d2, _, _, _⟩ := H1.out.facts; have l2 := look_at H1.out.omap HBb.out; have HS2 := Aside0.mk (H1.out.oset _ HM2.out); clear h1 hg1 hs1 c0 c1 l1)
      | (at_delete; refine wpList_drop_I rfl (.tmp 18) (.tmp 19) rfl Try.underlying142 Try.underlying3 rfl HS2.out e rfl ?_; intro w2 h2 hg2 hs2; have H2 := Aside0.mk (H1.out.turnO HBb.out hg2 (setB_del h2)); have HF2 := Aside0.mk (HF1.out.grown hg2 (fun k hk => by cases hk; exact .inl (by simp [blks]; exact .inr (.inr (.inr (.inr ⟨_, _, HM2.out⟩)))))); obtain ⟨_, e1, e2, _, e3, _⟩ := H2.out.facts; have H3 := Aside0.mk (H2.out.cnt_ (cnt - 1)); obtain ⟨_, f1, _, _, _, _⟩ := H3.out.facts; have l3 := look_at H3.out.omap (lkp_alter HBb.out); have l4 := setB_len (H3.out.oset _ (mem_lkp (lkp_alter HBb.out))) 3; clear h2 hg2 hs2 d1 d2 l2)
      | (at_delete; refine wpList_drop_I rfl (.tmp 38) (.tmp 39) rfl Try.underlying24 Try.underlying3 rfl H3.out.omap b rfl ?_; intro w4 h4 hg4 hs4; have H4 := Aside0.mk (H3.out.dropO hg4 h4); have HF4 := Aside0.mk ((HF2.out.setCell (.inl (by simp)) _).grown hg4 (fun k hk => by cases hk; exact .inl (by simp))); clear h4 hg4 hs4))
    go_end0
    refine ⟨rfl, ⟨_, _, H4.out, HR'.out, ?_, ?_⟩, HF4.out⟩
    · rw [sets_del, HO'.out, del_alter, cutO_del (lkp_sets HBb.out) HN.out]
    · intro k hk
      rw [HBR.out] at hk
      rcases hk with hk | hk
      · exact .inl hk
      · exact .inr (HBO.out ▸ blks_del.subset hk)
  · have hz : ((((s2.filter (· != e)).length : Int)) == 0) = false := by
      have := List.length_pos_iff.2 hn
      exact beq_eq_false_iff_ne.2 (by omega)
    clear hn
    go_enter Try.func93, Try.ntmps93
    go_wp2_with (first
      | (at_delete; refine wpList_drop_I rfl (.tmp 11) (.tmp 12) rfl Try.underlying142 Try.underlying3 rfl HS1.out b rfl ?_; intro w1 h1 hg1 hs1; have H1 := Aside0.mk (H.out.turnR HE.out hg1 (setB_del h1)); have HF1 := Aside0.mk (Fr.grown (Fr.refl w (GBlocks g r o R O)) hg1 (fun k hk => by cases hk; exact .inl (by simp [blks]; exact .inr (.inr (.inr (.inl ⟨_, _, HM1.out⟩)))))); obtain ⟨_, d1, d2, _, _, _⟩ := H1.out.facts; have l2 := look_at H1.out.omap HBb.out; have HS2 := Aside0.mk (H1.out.oset _ HM2.out); clear h1 hg1 hs1 c0 c1 l1)
      | (at_delete; refine wpList_drop_I rfl (.tmp 18) (.tmp 19) rfl Try.underlying142 Try.underlying3 rfl HS2.out e rfl ?_; intro w2 h2 hg2 hs2; have H2 := Aside0.mk (H1.out.turnO HBb.out hg2 (setB_del h2)); have HF2 := Aside0.mk (HF1.out.grown hg2 (fun k hk => by cases hk; exact .inl (by simp [blks]; exact .inr (.inr (.inr (.inr ⟨_, _, HM2.out⟩)))))); obtain ⟨_, e1, e2, _, e3, _⟩ := H2.out.facts; have H3 := Aside0.mk (H2.out.cnt_ (cnt - 1)); obtain ⟨_, f1, _, _, _, _⟩ := H3.out.facts; have l3 := look_at H3.out.omap (lkp_alter HBb.out); have l4 := setB_len (H3.out.oset _ (mem_lkp (lkp_alter HBb.out))) 3; clear h2 hg2 hs2 d1 d2 l2))
    go_end0
    refine ⟨rfl, ⟨_, _, H3.out, HR'.out, ?_, ?_⟩, HF2.out.setCell (.inl (by simp)) _⟩
    · rw [HO'.out, cutO_alter (lkp_sets HBb.out) HN.out]
    · intro k hk
      rw [HBR.out, HBO.out] at hk
      exact hk
end Go.Proofs.Ythokppghpmkbaaa.Ed
