/- edges.Graph: Add. -/
import Derived.Test.YthokppghpmkbaaaGraphP
import Derived.WalkSpells
import Derived.BigRegion
import Derived.Test.YthokppghpmkbaaaWMore
namespace Go.Proofs.Ythokppghpmkbaaa.Ed
open Go Go.RowKit Go.Proofs.Ythokppghpmkbaaa.Mi Go.Proofs.YthokppghpmkbaaaW.PrintWords Go.Proofs.YthokppghpmkbaaaW.PrintLast
set_option linter.unusedVariables false
set_option linter.unusedSimpArgs false
open Go.Proofs.YthokppghpmkbaaaW.PrintMore
attribute [local go_sem] max2_int min2_int max_two min_two

theorem IsGr.at_ {w : World} {g : Nat} {F : Nat → Prop} {R : Eqs} {peak : Int} (h : IsGr w g F R peak) : F g := by obtain ⟨_, ⟨h, _⟩, _⟩ := h; exact h
/-- The graph while an equation is added: its maps are there. -/
def MidA (w : World) (F : Nat → Prop) (g : Nat) (R : Eqs) (peak : Int) (w' : World) : Prop := ∃ r o RB OB, IsGB w' g r o RB OB (total R) peak ∧ sets RB = R ∧ (∀ b, (lkp b (sets OB)).getD [] = ofR b R) ∧ Fr w w' F ∧ ∀ k ∈ g :: r :: o :: (blks RB ++ blks OB), F k ∨ w.heap.size ≤ k
theorem mid_nil {w : World} {F : Nat → Prop} {g : Nat} {peak : Int} (h : w.heap[g]? = some (.cells #[.map none, .map none, .int .i64 0, .int .i64 peak] 26 (0, 0))) (hF : F g) :
    MidA w F g [] peak ((((w.setCell ⟨g, 0, none⟩ (.map (some w.heap.size))).setCell ⟨g, 1, none⟩ (.map (some (w.heap.size + 1)))).alloc (.map #[] 0)).alloc (.map #[] 0)) := by
  have hlt := blk_lt h
  have h2 := blk_set (blk_set h 0 (.map (some w.heap.size))) 1 (.map (some (w.heap.size + 1)))
  have hsz : ((w.setCell ⟨g, 0, none⟩ (.map (some w.heap.size))).setCell ⟨g, 1, none⟩ (.map (some (w.heap.size + 1)))).heap.size = w.heap.size := by simp [World.setCell]
  have hfr : Fr w ((w.setCell ⟨g, 0, none⟩ (.map (some w.heap.size))).setCell ⟨g, 1, none⟩ (.map (some (w.heap.size + 1)))) F := ((Fr.refl w F).setCell (.inl hF) _).setCell (.inl hF) _
  generalize (w.setCell ⟨g, 0, none⟩ (.map (some w.heap.size))).setCell ⟨g, 1, none⟩ (.map (some (w.heap.size + 1))) = W at h2 hsz hfr ⊢
  have m1 : IMap ((W.alloc (.map #[] 0)).alloc (.map #[] 0)) W.heap.size [] := (IMap.made W).move (Below.heap_alloc _ _ _ (by simp))
  have m2 : IMap ((W.alloc (.map #[] 0)).alloc (.map #[] 0)) (W.heap.size + 1) [] := by have := IMap.made (W.alloc (.map #[] 0)); simpa using this
  rw [hsz] at m1 m2
  refine ⟨w.heap.size, w.heap.size + 1, [], [], ⟨?_, m1, m2, by simp, by simp, by simp [blks]; omega⟩, rfl, fun b => by simp [sets, mp, lkp, ofR], ?_, ?_⟩
  · rw [Below.heap_alloc _ _ _ (by simp; omega), Below.heap_alloc _ _ _ (by omega), h2]; rfl
  · exact (hfr.alloc _).alloc _
  · intro k hk
    simp [blks] at hk
    rcases hk with rfl | rfl | rfl
    · exact .inl hF
    · exact .inr (Nat.le_refl _)
    · exact .inr (Nat.le_succ _)
theorem mid_start {w : World} {g : Nat} {F : Nat → Prop} {R : Eqs} {peak : Int} (h : IsGr w g F R peak) :
    (w.cell? ⟨g, 0, none⟩ = some (.map none) ∧ MidA w F g R peak ((((w.setCell ⟨g, 0, none⟩ (.map (some w.heap.size))).setCell ⟨g, 1, none⟩ (.map (some (w.heap.size + 1)))).alloc (.map #[] 0)).alloc (.map #[] 0))) ∨
    ∃ r, w.cell? ⟨g, 0, none⟩ = some (.map (some r)) ∧ MidA w F g R peak w := by
  obtain ⟨O, ⟨hg, h⟩, h2, _⟩ := h
  rcases h with ⟨rfl, rfl, h5⟩ | ⟨r, o, RB, OB, rfl, rfl, h5, h6⟩
  · exact .inl ⟨(blk_cell h5 0).trans rfl, mid_nil h5 hg⟩
  · refine .inr ⟨r, (blk_cell h5.cells 0).trans rfl, r, o, RB, OB, h5, rfl, h2, Fr.refl w F, fun k hk => .inl ?_⟩
    rcases List.mem_cons.1 hk with rfl | hk
    · exact hg
    · exact h6 k hk

/-- The graph while an equation is added, some of whose blocks are there. -/
def MidB (w : World) (F : Nat → Prop) (g r o : Nat) (R : Eqs) (e : Int) (l : List Int) (peak : Int) (w' : World) : Prop := ∃ RB OB, IsGB w' g r o RB OB (total (addE e l R)) peak ∧ sets RB = addE e l R ∧ (∀ b, (lkp b (sets OB)).getD [] = ofR b (addE e l R)) ∧ Fr w w' F ∧ ∀ k ∈ g :: r :: o :: (blks RB ++ blks OB), F k ∨ w.heap.size ≤ k
theorem lkp_sets_none {x : Int} {m : Ent} (h : lkp x (sets m) = none) : lkp x m = none := by
  unfold sets at h
  rw [get_mp] at h
  exact Option.map_eq_none_iff.1 h
theorem sets_ins {x : Int} {b : Nat} {s : List Int} {m : Ent} : sets (ins x (b, s) m) = ins x s (sets m) := by
  unfold sets; rw [← ins_mp (f := fun p : Nat × List Int => p.2)]
theorem mem_blks_ins {x : Int} {b k : Nat} {s : List Int} {m : Ent} (hs : Srt m) (h : k ∈ blks (ins x (b, s) m)) : k = b ∨ k ∈ blks m := by
  obtain ⟨p, hp, rfl⟩ := List.mem_map.1 h
  rcases (mem_ins hs).1 hp with rfl | ⟨hp, _⟩
  · exact .inl rfl
  · exact .inr (List.mem_map.2 ⟨p, hp, rfl⟩)
theorem mid_first {w wc : World} {F : Nat → Prop} {g r o : Nat} {R : Eqs} {e peak : Int} {RB OB : Ent} (h1 : IsGB wc g r o RB OB (total R) peak) (h2 : sets RB = R) (h3 : ∀ b, (lkp b (sets OB)).getD [] = ofR b R) (h4 : Fr w wc F) (h5 : ∀ k ∈ g :: r :: o :: (blks RB ++ blks OB), F k ∨ w.heap.size ≤ k) (he : lkp e R = none) :
    ∀ w1, IMap w1 r (ins e (.map (some wc.heap.size)) (ptrs RB)) → (wc.alloc (.map #[] 0)).grownBy w1 (some r) → MidB w F g r o R e [] peak w1 := by
  intro w1 m1 hg1
  have hs : Srt R := by rw [← h2]; exact srt_mp.2 (srt_ptrs h1.rmap)
  have hen : lkp e RB = none := lkp_sets_none (by rw [h2]; exact he)
  have ha : IsGB (wc.alloc (.map #[] 0)) g r o RB OB (total R) peak := h1.move (fun k hk => Below.heap_alloc _ _ _ (h1.lt k hk))
  have hnew : wc.heap.size ∉ g :: r :: o :: (blks RB ++ blks OB) := fun hm => by have := h1.lt _ hm; omega
  have h6 := ha.newR hen hg1 m1 (by simp) (by unfold SetB; exact IMap.made wc) hnew
  refine ⟨ins e (wc.heap.size, []) RB, OB, ?_, ?_, ?_, ?_, ?_⟩
  · show IsGB w1 g r o _ OB (total (ins e [] R)) peak
    rw [total_ins hs he]
    exact h6
  · rw [sets_ins, h2]; rfl
  · intro b
    rw [h3]
    show _ = ofR b (ins e [] R)
    rw [ofR_ins hs he]
  · exact (h4.alloc _).grown hg1 (fun k hk => by cases hk; exact h5 r (by simp))
  · intro k hk
    simp only [List.mem_cons, List.mem_append] at hk
    rcases hk with hk | hk | hk | hk | hk
    · exact h5 k (by simp [hk])
    · exact h5 k (by simp [hk])
    · exact h5 k (by simp [hk])
    · rcases mem_blks_ins (srt_ptrs h1.rmap) hk with rfl | hk
      · exact .inr h4.size
      · exact h5 k (by simp [hk])
    · exact h5 k (by simp [hk])

theorem lkp_unit {b : Int} {s : List Int} : lkp b (s.map fun x => (x, Value.agg #[])) = if b ∈ s then some (.agg #[]) else none := by
  induction s with
  | nil => rfl
  | cons x r ih =>
    simp only [List.map_cons, lkp]
    by_cases h : x = b
    · simp [h]
    · rw [if_neg h, ih]
      simp [Ne.symm h]
theorem mid_skip {w wr : World} {F : Nat → Prop} {g r o : Nat} {R : Eqs} {e peak b : Int} {l' : List Int} (hs0 : Srt R) (h : MidB w F g r o R e l' peak wr) (hb : b ∈ addS l') (ob : Obj) : MidB w F g r o R e (l' ++ [b]) peak (wr.alloc ob) := by
  obtain ⟨RB, OB, h1, h2, h3, h4, h5⟩ := h
  have he : addE e (l' ++ [b]) R = addE e l' R := by rw [addE_eq hs0, addE_eq hs0, addS_snoc, insS_mem (addS_sorted _) hb]
  unfold MidB
  rw [he]
  exact ⟨RB, OB, h1.move (fun k hk => Below.heap_alloc _ _ _ (h1.lt k hk)), h2, h3, h4.alloc _, h5⟩
theorem mid_step {w w3 : World} {F : Nat → Prop} {g r o : Nat} {R : Eqs} {e peak b : Int} {l' : List Int} (hs0 : Srt R) (he : lkp e R = none) {RB OB OB' : Ent} (h2 : sets RB = addE e l' R) (h3 : ∀ b, (lkp b (sets OB)).getD [] = ofR b (addE e l' R))
    (h5 : ∀ k ∈ g :: r :: o :: (blks RB ++ blks OB), F k ∨ w.heap.size ≤ k) (hf : Fr w w3 F) {b1 b2 : Nat} {s s2 : List Int} (hb1 : lkp e RB = some (b1, s)) (hn : b ∉ s) (hO1 : lkp b OB' = some (b2, s2)) (hO2 : s2 = ofR b (addE e l' R))
    (hO3 : ∀ y, y ≠ b → lkp y OB' = lkp y OB) (hO4 : ∀ k ∈ blks OB', k ∈ blks OB ∨ w.heap.size ≤ k) (hsR : Srt RB) (hsO : Srt OB')
    (hfin : IsGB w3 g r o (alter e (fun _ => (b1, insS b s)) RB) (alter b (fun _ => (b2, insS e s2)) OB') ((total (addE e l' R) : Int) + 1) peak) : MidB w F g r o R e (l' ++ [b]) peak w3 := by
  have hs1 : s = addS l' := by
    have := lkp_sets hb1
    rw [h2, lkp_addE hs0] at this
    exact (Option.some.inj this).symm
  have h6 : sets (alter e (fun _ => (b1, insS b s)) RB) = addE e (l' ++ [b]) R := by rw [sets_alter hsR hb1 (f := insS b) rfl, h2, addE_snoc]
  have h7 : sets (alter b (fun _ => (b2, insS e s2)) OB') = alter b (insS e) (sets OB') := sets_alter hsO hO1 rfl
  refine ⟨_, alter b (fun _ => (b2, insS e s2)) OB', ?_, h6, ?_, hf, ?_⟩
  · have : ((total (addE e (l' ++ [b]) R) : Nat) : Int) = (total (addE e l' R) : Int) + 1 := by
      rw [total_addE hs0 he, total_addE hs0 he, addS_snoc, insS_length (by rw [← hs1]; exact hn)]
      omega
    rw [this]
    exact hfin
  · intro y
    have hlk : lkp e (addE e l' R) = some s := by rw [lkp_addE hs0, hs1]
    rw [addE_snoc, ofR_alter (addE_srt hs0 _) hlk, h7, get_alter]
    by_cases hy : y = b
    · rw [if_pos hy, if_pos hy]
      subst hy
      rw [lkp_sets hO1]
      simp [hO2]
    · rw [if_neg hy, if_neg hy, ← h3 y]
      unfold sets
      rw [get_mp, get_mp, hO3 y hy]
  · intro k hk
    rw [blks_alter hsR hb1, blks_alter hsO hO1] at hk
    simp only [List.mem_cons, List.mem_append] at hk
    rcases hk with hk | hk | hk | hk | hk
    · exact h5 k (by simp [hk])
    · exact h5 k (by simp [hk])
    · exact h5 k (by simp [hk])
    · exact h5 k (by simp [hk])
    · rcases hO4 k hk with hk | hk
      · exact h5 k (by simp [hk])
      · exact .inr hk
theorem setB_ins {w : World} {b : Nat} {x : Int} {s : List Int} (h : IMap w b (ins x (.agg #[]) (s.map fun x => (x, Value.agg #[])))) : SetB w b (insS x s) := by rw [insS_map] at h; exact h

theorem max_if (a b : Int) : max a b = if a < b then b else a := by rw [Int.max_def]; split <;> split <;> omega
theorem mid_done {w wr : World} {F : Nat → Prop} {g r o : Nat} {R : Eqs} {e peak : Int} {l l' : List Int} (hI : IsGr w g F R peak) (he : lkp e R = none) (hl : l' = l) (h : MidB w F g r o R e l' peak wr) :
    ∀ c, c = (if peak < (total (addE e l R) : Int) then (total (addE e l R) : Int) else peak) → IsGr (wr.setCell ⟨g, 3, none⟩ (.int .i64 c)).drew g (fun k => F k ∨ w.heap.size ≤ k) (ins e (addS l) R) (max peak (total R + (addS l).length)) ∧ Fr w (wr.setCell ⟨g, 3, none⟩ (.int .i64 c)).drew F := by
  intro c hc
  subst hl
  obtain ⟨RB, OB, h1, h2, h3, h4, h5⟩ := h
  have hs := hI.srt
  have h6 : IsGB (wr.setCell ⟨g, 3, none⟩ (.int .i64 c)).drew g r o RB OB (total (addE e l' R)) c := (h1.peak_ c).move (fun _ _ => rfl)
  refine ⟨?_, (h4.setCell (.inl hI.at_) _).drew⟩
  have h7 : c = max peak (total R + (addS l').length : Int) := by
    rw [hc, max_if, addE_eq hs]
    rw [total_ins hs he]
    simp
  rw [← h7, ← addE_eq hs, ← h2]
  exact IsGr.mk_ (by rw [h2]; exact h6) h5 (by rw [h2]; exact h3)

section
variable (g : Nat) (F : Nat → Prop) (R : Eqs) (peak : Int) (w : World) (h : IsGr w g F R peak)
include h
set_option maxHeartbeats 2000000
set_option maxRecDepth 100000
theorem add_there (e : Int) (A : Option Addr) (c : Nat) (l : List Int) (s : List Int) (he : lkp e R = some s) : Calls Try.prog 22 #[.pointer (some ⟨g, 0, none⟩), .int .i64 e, .slice A l.length c] w fun en w' => en = .returned (.bool false) ∧ w = w' := by
  obtain ⟨rq, oq, V⟩ := h.view
  have c0 := V.c0
  obtain ⟨q, _, l, _⟩ := V.look e
  rw [he] at l
  simp only [Option.isSome_some] at l
  clear V h
  go_enter Try.func22, Try.ntmps22
  go_wp2
  go_ret
  exact ⟨rfl, rfl⟩
theorem add_none (e : Int) (A : Option Addr) (c : Nat) : Calls Try.prog 22 #[.pointer (some ⟨g, 0, none⟩), .int .i64 e, .slice A 0 c] w fun en w' => en = .returned (.bool false) ∧ w = w' := by
  obtain ⟨rq, oq, V⟩ := h.view
  have c0 := V.c0
  obtain ⟨q, _, l, _⟩ := V.look e
  clear V
  cases hq : (lkp e R).isSome
  all_goals
    rw [hq] at l
    clear hq
    go_enter Try.func22, Try.ntmps22
    go_wp2
    go_ret
    exact ⟨rfl, rfl⟩
theorem add_gr (e : Int) (A : Option Addr) (c : Nat) (l : List Int) (he : lkp e R = none) (hl : l ≠ []) (P : Nat → Prop) (hr : Kd.F (Kd.int .i64) w P A l.length l) (hd : ∀ k, P k → ¬ F k) (hll : l.length ≤ 1099511627776) (hsm : total R ≤ 1099511627776) :
    Calls Try.prog 22 #[.pointer (some ⟨g, 0, none⟩), .int .i64 e, .slice A l.length c] w fun en w' => en = .returned (.bool true) ∧
      IsGr w' g (fun k => F k ∨ w.heap.size ≤ k) (ins e (addS l) R) (max peak (total R + (addS l).length)) ∧ Fr w w' F := by
  obtain ⟨rq, oq, V⟩ := h.view
  have c0 := V.c0
  have c1 := V.c1
  have f0 := V.f0
  have f1 := V.f1
  obtain ⟨q, _, l1, _⟩ := V.look e
  rw [he] at l1
  simp only [Option.isSome_none] at l1
  have hz : ((l.length : Int) == 0) = false := beq_eq_false_iff_ne.2 (by have := List.length_pos_iff.2 hl; omega)
  have qT : ∀ (w : World) (r : Option Nat), (binOp .eql 24 (.map r) (.map none)).run Try.prog w = .ok (.bool r.isNone) w := fun w r => run_eql_map_nil w _ _ _ r Try.underlying24
  have qT2 : ∀ (w : World) (r : Option Nat), (binOp .eql 142 (.map r) (.map none)).run Try.prog w = .ok (.bool r.isNone) w := fun w r => run_eql_map_nil w _ _ _ r Try.underlying142
  have hmm := @run_makeMap Try.prog
  have HI := Aside0.mk h
  clear V h
  have hB2 : ∀ o o', Below w.heap.size w ((w.alloc o).alloc o') := fun o o' => below_alloc (below_alloc (Below.refl _ _) o) o'
  have hgl : g < w.heap.size := World.block_lt_of_cell? w _ c0
  have u0 : ∀ o o', ((w.alloc o).alloc o').cell? ⟨g, 0, none⟩ = some (.map rq) := fun o o' => ((hB2 o o').cell (p := ⟨g, 0, none⟩) hgl).trans c0
  have u1 : ∀ o o', ((w.alloc o).alloc o').cell? ⟨g, 1, none⟩ = some (.map oq) := fun o o' => ((hB2 o o').cell (p := ⟨g, 1, none⟩) hgl).trans c1
  have v0 : ∀ o o', ((w.alloc o).alloc o').frozen? ⟨g, 0, none⟩ = false := fun o o' => ((hB2 o o').frozen (p := ⟨g, 0, none⟩) hgl).trans f0
  have v1 : ∀ o o', ((w.alloc o).alloc o').frozen? ⟨g, 1, none⟩ = false := fun o o' => ((hB2 o o').frozen (p := ⟨g, 1, none⟩) hgl).trans f1
  have HM := Aside0.mk (mid_start HI.out)
  clear hB2
  go_enter Try.func22, Try.ntmps22
  go_upto_if 32 with fail
  go_cut [] (fun w' => Aside0 (MidA w F g R peak w'))
  case first =>
    rcases HM.out with ⟨hc, hm⟩ | ⟨r, hc, hm⟩
    · have H1 := Aside0.mk hm
      obtain rfl : rq = none := by rw [c0] at hc; injection hc with hc; injection hc with hc
      clear hm hc
      go_wp2_with fail
      go_meet
      case rel => exact H1
    · have H1 := Aside0.mk hm
      obtain rfl : rq = some r := by rw [c0] at hc; injection hc with hc; injection hc with hc
      clear hm hc
      go_wp2_with fail
      go_meet
      case rel => exact H1
  case rest =>
    clear HM c0 c1 f0 f1 u0 u1 v0 v1 l1 hgl
    obtain ⟨⟨r, o, RB, OB, h1, h2, h3, h4, h5⟩⟩ := hcut
    obtain ⟨d0, _, _, _, _, _⟩ := h1.facts
    have hgl := blk_lt h1.cells
    have d1 : ∀ ob, (wc.alloc ob).cell? ⟨g, 0, none⟩ = some (.map (some r)) := fun ob => by
      have := (below_alloc (Below.refl wc.heap.size wc) ob).cell (p := ⟨g, 0, none⟩) hgl
      rw [this]; exact d0
    have HS := Aside0.mk (mid_first h1 h2 h3 h4 h5 he)
    have HM := Aside0.mk (h1.rmap.move (w' := wc.alloc (.map #[] 0)) (Below.heap_alloc _ _ _ h1.rmap.lt))
    clear h1 h2 h3 h4 h5 hgl
    go_wp2_with (at_mapUpdate; refine wpList_store_I rfl (.tmp 44) (.tmp 45) (.tmp 46) rfl Try.underlying24 Try.underlying3 rfl HM.out e (.map (some wc.heap.size)) rfl rfl ?_; intro w1 m1 hg1 hs1; have H1 := Aside0.mk (HS.out w1 m1 hg1); clear m1 hg1 hs1 d0 d1)
    go_loopg [49] l.length (fun kq v wr => ∃ x : Int, v = .int .i64 x ∧ Aside0 (0 ≤ x) ∧ Aside0 (x ≤ l.length) ∧ Aside0 ((kq : Int) = l.length - x) ∧ Aside0 (MidB w F g r o R e (l.take x.toNat) peak wr))
    case atStart => exact ⟨0, rfl, ⟨by omega⟩, ⟨by omega⟩, ⟨by omega⟩, H1⟩
    case round =>
      obtain ⟨x, rfl, H0, HL, HQ, HM⟩ := hrel
      clear H1 HS
      obtain ⟨RB, OB, h1, h2, h3, h4, h5⟩ := HM.out
      by_cases hx : x < (l.length : Int)
      · have HX := Aside0.mk hx
        obtain ⟨ad, hA, hcell⟩ := Kd.at_int (Kd.F_now (Kd.F_step (W1 := wr) hr (fun k hk hlt => h4.block k hlt (hd k hk)))) x H0.out hx
        subst hA
        have p0 : (0 ≤ x) = True := eq_true H0.out
        have p1 := eq_true hx
        have hs0 : Srt R := HI.out.srt
        obtain ⟨b1, hb1⟩ := lkp_sets_inv (x := e) (m := RB) (s := addS (l.take x.toNat)) (by rw [h2]; exact lkp_addE hs0 _)
        obtain ⟨d0, d1, d2, d3, e2, e3⟩ := h1.facts
        have l1 := look_at h1.rmap hb1
        have hS1 : SetB wr b1 (addS (l.take x.toNat)) := h1.rset _ (mem_lkp hb1)
        have l2 := hS1.look true Try.underlying142 Try.underlying3 (zeroU wr) (rd l x)
        rw [lkp_unit] at l2
        have hlt : x.toNat < l.length := by have := H0.out; omega
        have HT := Aside0.mk (show l.take (x + 1).toNat = l.take x.toNat ++ [rd l x] by
          rw [show (x + 1).toNat = x.toNat + 1 by have := H0.out; omega, List.take_succ_eq_append_getElem hlt]
          unfold rd
          rw [List.getD_eq_getElem?_getD, List.getElem?_eq_getElem hlt]; rfl)
        have HS0 := Aside0.mk hs0
        by_cases hb : rd l x ∈ addS (l.take x.toNat)
        · rw [if_pos hb] at l2
          simp only [Option.getD_some, Option.isSome_some, if_true] at l2
          have HBI := Aside0.mk hb
          clear h1 h2 h3 h4 h5 hx hb hb1 hS1 hs0 hlt
          go_wp2_with fail
          go_roundg (l.length - (x + 1)).toNat
          case measure => have := HQ.out; have := HX.out; have := H0.out; omega
          case rel =>
            refine ⟨x + 1, ?_, ⟨by have := H0.out; omega⟩, ⟨by have := HX.out; omega⟩, ⟨by have := HX.out; have := H0.out; omega⟩, ⟨by rw [HT.out]; exact mid_skip HS0.out HM.out HBI.out _⟩⟩
            exact congrArg (Value.int .i64) (wrap_i H0.out HX.out hll)
        · rw [if_neg hb] at l2
          simp only [Option.getD_none, Option.isSome_none, if_true] at l2
          have HBI := Aside0.mk hb
          have HA := Aside0.mk (h1.move (w1 := wr.alloc (.cells #[] 144)) (fun k hk => Below.heap_alloc _ _ _ (h1.lt k hk)))
          have HB1 := Aside0.mk hb1
          obtain ⟨j0, j1, j2, j3, k2, k3⟩ := HA.out.facts
          have l3 := look_at HA.out.rmap hb1
          have HS1 := Aside0.mk (HA.out.rset _ (mem_lkp hb1))
          have hFg := HI.out.at_
          have hcnt : (total (addE e (l.take x.toNat) R) : Int) ≤ 4398046511104 := by
            rw [total_addE hs0 he]
            have := addS_length_le (l.take x.toNat)
            rw [List.length_take] at this
            omega
          have hcnt0 : (0 : Int) ≤ (total (addE e (l.take x.toNat) R) : Int) := by omega
          have H2 := Aside0.mk h2
          have H3 := Aside0.mk h3
          have H4 := Aside0.mk h4
          have H5 := Aside0.mk h5
          clear h1 h2 h3 h4 h5 hx hb hb1 hS1 hs0 hlt
          cases hq : lkp (rd l x) OB with
          | some p =>
            obtain ⟨b2, s2⟩ := p
            have HQ2 := Aside0.mk hq
            clear hq
            go_wp2_with (first
              | (at_mapUpdate; refine wpList_store_I rfl (.tmp 70) (.tmp 71) (.tmp 72) rfl Try.underlying142 Try.underlying3 rfl HS1.out (rd l x) (.agg #[]) rfl rfl ?_; intro w1 m1 hg1 hs1; have HT1 := Aside0.mk (HA.out.turnR HB1.out hg1 (setB_ins m1)); have HF1 := Aside0.mk ((H4.out.alloc (.cells #[] 144)).grown hg1 (fun k hk => by cases hk; exact H5.out _ (by simp [blks]; exact .inr (.inr (.inr (.inl ⟨_, _, mem_lkp HB1.out⟩)))))); obtain ⟨_, m0, _, _, _, _⟩ := HT1.out.facts; have l5 := look_at HT1.out.omap HQ2.out; have HS2 := Aside0.mk (HT1.out.oset _ (mem_lkp HQ2.out)); clear m1 hg1 hs1 j0 j1 j2 j3 k2 k3 l3)
              | (at_mapUpdate; refine wpList_store_I rfl (.tmp 91) (.tmp 92) (.tmp 93) rfl Try.underlying142 Try.underlying3 rfl HS2.out e (.agg #[]) rfl rfl ?_; intro w2 m2 hg2 hs2; have HT2 := Aside0.mk (HT1.out.turnO HQ2.out hg2 (setB_ins m2)); have HF2 := Aside0.mk (HF1.out.grown hg2 (fun k hk => by cases hk; exact H5.out _ (by simp [blks]; exact .inr (.inr (.inr (.inr ⟨_, _, mem_lkp HQ2.out⟩)))))); obtain ⟨_, _, q2, _, q3, _⟩ := HT2.out.facts; clear m2 hg2 hs2 m0 l5))
            go_roundg (l.length - (x + 1)).toNat
            case measure => have := HQ.out; have := HX.out; have := H0.out; omega
            case rel =>
              refine ⟨x + 1, ?_, ⟨by have := H0.out; omega⟩, ⟨by have := HX.out; omega⟩, ⟨by have := HX.out; have := H0.out; omega⟩, ⟨?_⟩⟩
              · exact congrArg (Value.int .i64) (wrap_i H0.out HX.out hll)
              · rw [HT.out]
                exact mid_step (w := w) HS0.out he H2.out H3.out H5.out (HF2.out.setCell (.inl hFg) _) HB1.out HBI.out HQ2.out (by have := H3.out (rd l x); rw [lkp_sets HQ2.out] at this; exact this) (fun _ _ => rfl) (fun _ h => .inl h) (srt_ptrs HA.out.rmap) (srt_ptrs HA.out.omap) (HT2.out.cnt_ _)
          | none =>
            have HQ2 := Aside0.mk hq
            clear hq
            go_wp2_with (first
              | (at_mapUpdate; refine wpList_store_I rfl (.tmp 70) (.tmp 71) (.tmp 72) rfl Try.underlying142 Try.underlying3 rfl HS1.out (rd l x) (.agg #[]) rfl rfl ?_; intro w1 m1 hg1 hs1; have HT1 := Aside0.mk (HA.out.turnR HB1.out hg1 (setB_ins m1)); have HF1 := Aside0.mk ((H4.out.alloc (.cells #[] 144)).grown hg1 (fun k hk => by cases hk; exact H5.out _ (by simp [blks]; exact .inr (.inr (.inr (.inl ⟨_, _, mem_lkp HB1.out⟩)))))); obtain ⟨_, m0, _, _, _, _⟩ := HT1.out.facts; have l5 := look_ptrs HT1.out.omap (rd l x); rw [HQ2.out] at l5; simp only [Option.map_none, Option.getD_none] at l5; have n0 := (below_alloc (Below.refl w1.heap.size w1) (.map #[] 0)).cell (p := ⟨g, 1, none⟩) (blk_lt HT1.out.cells); rw [m0] at n0; have HNB := Aside0.mk (HT1.out.move (w1 := w1.alloc (.map #[] 0)) (fun k hk => Below.heap_alloc _ _ _ (HT1.out.lt k hk))); have HNW := Aside0.mk (show w1.heap.size ∉ g :: r :: o :: (blks (alter e (fun _ => (b1, insS (rd l x) (addS (l.take x.toNat)))) RB) ++ blks OB) from fun hm => by have := HT1.out.lt _ hm; omega); have HGE := Aside0.mk (Nat.le_trans HF1.out.size (Nat.le_refl w1.heap.size)); clear m1 hg1 hs1 j0 j1 j2 j3 k2 k3 l3)
              | (at_mapUpdate; refine wpList_store_I rfl (.tmp 83) (.tmp 84) (.tmp 85) rfl Try.underlying24 Try.underlying3 rfl HNB.out.omap (rd l x) (.map (some w1.heap.size)) rfl rfl ?_; intro w4 m4 hg4 hs4; have HT4 := Aside0.mk (HNB.out.newO HQ2.out hg4 m4 (by simp) (IMap.made w1) HNW.out); have HF4 := Aside0.mk ((HF1.out.alloc (.map #[] 0)).grown hg4 (fun k hk => by cases hk; exact H5.out _ (by simp))); obtain ⟨_, y0, _, _, _, _⟩ := HT4.out.facts; have HL4 := Aside0.mk (show lkp (rd l x) (ins (rd l x) (w1.heap.size, []) OB) = some (w1.heap.size, []) by rw [get_ins (srt_ptrs HA.out.omap), if_pos rfl]); have l6 := look_at HT4.out.omap HL4.out; have HS2 := Aside0.mk (HT4.out.oset _ (mem_lkp HL4.out)); clear m4 hg4 hs4 m0 l5 n0)
              | (at_mapUpdate; refine wpList_store_I rfl (.tmp 91) (.tmp 92) (.tmp 93) rfl Try.underlying142 Try.underlying3 rfl HS2.out e (.agg #[]) rfl rfl ?_; intro w2 m2 hg2 hs2; have HT2 := Aside0.mk (HT4.out.turnO HL4.out hg2 (setB_ins m2)); have HF2 := Aside0.mk (HF4.out.grown hg2 (fun k hk => by cases hk; exact .inr HGE.out)); obtain ⟨_, _, q2, _, q3, _⟩ := HT2.out.facts; clear m2 hg2 hs2 y0 l6))
            go_roundg (l.length - (x + 1)).toNat
            case measure => have := HQ.out; have := HX.out; have := H0.out; omega
            case rel =>
              refine ⟨x + 1, ?_, ⟨by have := H0.out; omega⟩, ⟨by have := HX.out; omega⟩, ⟨by have := HX.out; have := H0.out; omega⟩, ⟨?_⟩⟩
              · exact congrArg (Value.int .i64) (wrap_i H0.out HX.out hll)
              · rw [HT.out]
                exact mid_step (w := w) (OB' := ins (rd l x) (w1.heap.size, []) OB) (OB := OB) HS0.out he H2.out H3.out H5.out (HF2.out.setCell (.inl hFg) _) HB1.out HBI.out HL4.out (by have := H3.out (rd l x); unfold sets at this; rw [get_mp, HQ2.out] at this; exact this) (fun y hy => by rw [get_ins (srt_ptrs HA.out.omap), if_neg hy]) (fun k hk => by rcases mem_blks_ins (srt_ptrs HA.out.omap) hk with rfl | hk; exact .inr HGE.out; exact .inl hk) (srt_ptrs HA.out.rmap) (srt_ins (srt_ptrs HA.out.omap)) (HT2.out.cnt_ _)
      · have hx2 : x = l.length := by have := HL.out; omega
        obtain ⟨d0, d1, d2, d3, e2, e3⟩ := h1.facts
        have H1 := Aside0.mk h1
        have H2 := Aside0.mk h2
        have H3 := Aside0.mk h3
        have H4 := Aside0.mk h4
        have H5 := Aside0.mk h5
        have hlt2 : l.take x.toNat = l := by rw [hx2, show ((l.length : Int)).toNat = l.length by omega, List.take_length]
        have HM2 := Aside0.mk (mid_done HI.out he hlt2 HM.out)
        rw [hlt2] at d2
        clear h1 h2 h3 h4 h5 hx2 hlt2
        go_wp2_with fail
        go_region
        all_goals go_wp2
        all_goals
          go_ret
          refine ⟨rfl, HM2.out _ ?_⟩
          first | rfl | (rw [if_pos ‹_›]) | (rw [if_neg ‹_›]) | (split <;> omega)
end
end Go.Proofs.Ythokppghpmkbaaa.Ed
