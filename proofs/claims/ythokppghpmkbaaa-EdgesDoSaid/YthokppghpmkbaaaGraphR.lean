/- edges.Graph by its equations alone: rest, of, count go together; the methods' contracts in these words. -/
import Derived.Test.YthokppghpmkbaaaGraphM
namespace Go.Proofs.Ythokppghpmkbaaa.Ed
open Go Go.RowKit Go.Proofs.Ythokppghpmkbaaa.Mi Go.Proofs.YthokppghpmkbaaaW.PrintWords Go.Proofs.YthokppghpmkbaaaW.PrintLast
set_option linter.unusedVariables false
set_option linter.unusedSimpArgs false

abbrev Eqs := List (Int × List Int)
/-- The equations that have a block, rising. -/
def ofR (b : Int) (R : Eqs) : List Int := (R.filter fun p => p.2.contains b).map (·.1)
def total (R : Eqs) : Nat := (R.map (·.2.length)).sum
def takeR (b : Int) (R : Eqs) : Eqs := mp (·.filter (· != b)) R

theorem mem_ofR {b e : Int} {R : Eqs} (hs : Srt R) : e ∈ ofR b R ↔ ∃ s, lkp e R = some s ∧ b ∈ s := by
  unfold ofR
  constructor
  · intro h
    obtain ⟨p, hp, rfl⟩ := List.mem_map.1 h
    obtain ⟨h1, h2⟩ := List.mem_filter.1 hp
    exact ⟨p.2, get_of_mem hs h1, by simpa using h2⟩
  · rintro ⟨s, h1, h2⟩
    exact List.mem_map.2 ⟨(e, s), List.mem_filter.2 ⟨get_mem h1, by simpa using h2⟩, rfl⟩
theorem ofR_sorted {b : Int} {R : Eqs} (hs : Srt R) : (ofR b R).Pairwise (· < ·) := by
  unfold ofR
  rw [List.pairwise_map]
  exact List.Pairwise.filter _ hs
theorem ofR_cons {y : Int} {p : Int × List Int} {r : Eqs} : ofR y (p :: r) = if y ∈ p.2 then p.1 :: ofR y r else ofR y r := by
  unfold ofR
  rw [List.filter_cons]
  by_cases h : y ∈ p.2 <;> simp [h]
theorem cutR_cons {e b : Int} {p : Int × List Int} {r : Eqs} : cutR e b (p :: r) = (if p.1 = e then (p.1, p.2.filter (· != b)) else p) :: cutR e b r := rfl
theorem ofR_cutR {e b y : Int} : ∀ {R : Eqs}, ofR y (cutR e b R) = if y = b then (ofR b R).filter (· != e) else ofR y R
  | [] => by simp [ofR, cutR, alter]
  | p :: r => by
    have ih := ofR_cutR (e := e) (b := b) (y := y) (R := r)
    rw [cutR_cons, ofR_cons, ofR_cons, ofR_cons, ih]
    by_cases hp : p.1 = e <;> by_cases hy : y = b
    · subst hy; by_cases h2 : y ∈ p.2 <;> simp [hp, h2]
    · by_cases h2 : y ∈ p.2 <;> simp [hp, hy, h2]
    · subst hy; by_cases h2 : y ∈ p.2 <;> simp [hp, h2]
    · by_cases h2 : y ∈ p.2 <;> simp [hp, hy, h2]
theorem lkp_cutO {e b y : Int} {O : Eqs} (hs : Srt O) : (lkp y (cutO e b O)).getD [] = if y = b then ((lkp b O).getD []).filter (· != e) else (lkp y O).getD [] := by
  unfold cutO
  by_cases h : ((lkp b O).getD []).filter (· != e) = []
  · rw [if_pos h, get_del hs]
    by_cases hy : y = b
    · rw [if_pos hy, if_pos hy, h]; rfl
    · rw [if_neg hy, if_neg hy]
  · rw [if_neg h, get_alter]
    by_cases hy : y = b
    · subst hy
      rw [if_pos rfl, if_pos rfl]
      cases lkp y O <;> simp
    · rw [if_neg hy, if_neg hy]
theorem length_cut {b : Int} : ∀ {s : List Int}, s.Nodup → b ∈ s → (s.filter (· != b)).length + 1 = s.length
  | [], _, h => by simp at h
  | x :: r, hn, h => by
    obtain ⟨h1, h2⟩ := List.nodup_cons.1 hn
    by_cases e : x = b
    · subst e
      rw [List.filter_cons_of_neg (by simp), List.filter_eq_self.2 (fun y hy => by simp; rintro rfl; exact h1 hy)]; rfl
    · rw [List.filter_cons_of_pos (by simpa using e)]
      have h3 : b ∈ r := by
        rcases List.mem_cons.1 h with h | h
        · exact absurd h.symm e
        · exact h
      have := length_cut h2 h3
      simp only [List.length_cons]; omega
theorem total_cut {e b : Int} {s : List Int} : ∀ {R : Eqs}, Srt R → lkp e R = some s → s.Nodup → b ∈ s → total (cutR e b R) + 1 = total R
  | [], _, h, _, _ => by simp [lkp] at h
  | p :: r, hs, h, hn, hb => by
    obtain ⟨h1, h2⟩ := List.pairwise_cons.1 hs
    unfold total cutR alter
    rw [List.map_cons, List.map_cons, List.map_cons, List.sum_cons, List.sum_cons]
    unfold lkp at h
    by_cases hp : p.1 = e
    · rw [if_pos hp] at h ⊢
      have : r.map (fun p => if p.1 = e then (p.1, p.2.filter (· != b)) else p) = r := by
        conv => rhs; rw [← List.map_id r]
        refine List.map_congr_left (fun q hq => ?_)
        have := h1 q hq
        rw [if_neg (by omega)]; rfl
      rw [this]
      cases h
      have := length_cut hn hb
      simp only
      omega
    · rw [if_neg hp] at h ⊢
      have := total_cut h2 h hn hb
      unfold total cutR alter at this
      omega

/-- The graph at block g, by its equations. -/
def IsGr (w : World) (g : Nat) (F : Nat → Prop) (R : Eqs) (peak : Int) : Prop := ∃ O, IsG w g F R O (total R) peak ∧ (∀ b, (lkp b O).getD [] = ofR b R) ∧ Srt R ∧ (∀ p ∈ R, p.2.Pairwise (· < ·)) ∧ Srt O
section
variable {w w1 : World} {g : Nat} {F S : Nat → Prop} {R : Eqs} {peak : Int}
theorem IsGr.srt (h : IsGr w g F R peak) : Srt R := by obtain ⟨_, _, _, h, _⟩ := h; exact h
theorem IsGr.inner (h : IsGr w g F R peak) : ∀ p ∈ R, p.2.Pairwise (· < ·) := by obtain ⟨_, _, _, _, h, _⟩ := h; exact h
theorem setB_sorted {b : Nat} {s : List Int} (h : SetB w b s) : s.Pairwise (· < ·) := by
  have := IMap.srt h
  unfold Srt at this
  rw [List.pairwise_map] at this
  exact this
theorem IsGr.mk_ {r o : Nat} {RB OB : Ent} (h : IsGB w g r o RB OB (total (sets RB)) peak) (hF : ∀ k ∈ g :: r :: o :: (blks RB ++ blks OB), F k) (hO : ∀ b, (lkp b (sets OB)).getD [] = ofR b (sets RB)) : IsGr w g F (sets RB) peak :=
  ⟨sets OB, ⟨hF g (by simp), .inr ⟨r, o, RB, OB, rfl, rfl, h, fun k hk => hF k (List.mem_cons_of_mem _ hk)⟩⟩, hO, srt_mp.2 (srt_ptrs h.rmap), fun p hp => by
    obtain ⟨q, hq, rfl⟩ := List.mem_map.1 hp
    exact setB_sorted (h.rset q hq), srt_mp.2 (srt_ptrs h.omap)⟩
theorem IsGr.fr (h : IsGr w g F R peak) (hf : Fr w w1 S) (hd : ∀ k, F k → ¬ S k) : IsGr w1 g F R peak := by
  obtain ⟨O, ⟨hg, h⟩, h2⟩ := h
  refine ⟨O, ⟨hg, ?_⟩, h2⟩
  rcases h with ⟨h3, h4, h5⟩ | ⟨r, o, RB, OB, h3, h4, h5, h6⟩
  · exact .inl ⟨h3, h4, (hf.block g (blk_lt h5) (hd g hg)).trans h5⟩
  · refine .inr ⟨r, o, RB, OB, h3, h4, h5.move (fun k hk => hf.block k (h5.lt k hk) (hd k ?_)), h6⟩
    rcases List.mem_cons.1 hk with rfl | hk
    · exact hg
    · exact h6 k hk
theorem IsGr.mono {F' : Nat → Prop} (h : IsGr w g F R peak) (hF : ∀ k, F k → F' k) : IsGr w g F' R peak := by
  obtain ⟨O, ⟨hg, h⟩, h2⟩ := h
  refine ⟨O, ⟨hF g hg, ?_⟩, h2⟩
  rcases h with h | ⟨r, o, RB, OB, h3, h4, h5, h6⟩
  · exact .inl h
  · exact .inr ⟨r, o, RB, OB, h3, h4, h5, fun k hk => hF k (h6 k hk)⟩
/-- Where there is an equation the maps are there. -/
theorem IsGr.open_ (h : IsGr w g F R peak) (hR : R ≠ []) : ∃ r o RB OB, R = sets RB ∧ IsGB w g r o RB OB (total R) peak ∧ (∀ k ∈ g :: r :: o :: (blks RB ++ blks OB), F k) ∧ ∀ b, (lkp b (sets OB)).getD [] = ofR b R := by
  obtain ⟨O, ⟨hg, h⟩, h2, _⟩ := h
  rcases h with ⟨h3, _⟩ | ⟨r, o, RB, OB, h3, h4, h5, h6⟩
  · exact absurd h3 hR
  · subst h4
    refine ⟨r, o, RB, OB, h3, h5, fun k hk => ?_, h2⟩
    rcases List.mem_cons.1 hk with rfl | hk
    · exact hg
    · exact h6 k hk
end
theorem lkp_sets_inv {x : Int} {m : Ent} {s : List Int} (h : lkp x (sets m) = some s) : ∃ b, lkp x m = some (b, s) := by
  unfold sets at h
  rw [get_mp] at h
  obtain ⟨p, hp, rfl⟩ := Option.map_eq_some_iff.1 h
  exact ⟨p.1, hp⟩

theorem cut_gr (g : Nat) (F : Nat → Prop) (R : Eqs) (peak : Int) (w : World) (h : IsGr w g F R peak) (e b : Int) (s : List Int) (he : lkp e R = some s) (hb : b ∈ s) (hc : total R ≤ 4611686018427387904) :
    Calls Try.prog 93 #[.pointer (some ⟨g, 0, none⟩), .int .i64 e, .int .i64 b] w fun en w' => en = .returned (.tuple #[]) ∧ IsGr w' g F (cutR e b R) peak ∧ Fr w w' F := by
  have hs := h.srt
  have hsi := h.inner _ (get_mem he)
  obtain ⟨r, o, RB, OB, rfl, h1, hF, hO⟩ := h.open_ (by rintro rfl; simp [lkp] at he)
  obtain ⟨b1, he1⟩ := lkp_sets_inv he
  have hmem : e ∈ (lkp b (sets OB)).getD [] := by rw [hO]; exact (mem_ofR hs).2 ⟨s, he, hb⟩
  obtain ⟨s2, hb2⟩ : ∃ s2, lkp b (sets OB) = some s2 := by
    cases hq : lkp b (sets OB) with
    | none => rw [hq] at hmem; simp at hmem
    | some s2 => exact ⟨s2, rfl⟩
  obtain ⟨b2, hb3⟩ := lkp_sets_inv hb2
  have ht := total_cut hs he (hsi.imp (fun h => by omega)) hb
  refine (cut_calls g r o RB OB _ peak w h1 e b b1 s he1 b2 s2 hb3 (by omega) (by omega)).mono ?_
  rintro en w' ⟨rfl, ⟨R', O', h2, h3, h4, h5⟩, hf⟩
  refine ⟨rfl, ?_, hf.mono hF⟩
  rw [← h3]
  refine IsGr.mk_ (r := r) (o := o) (RB := R') (OB := O') ?_ ?_ ?_
  · rw [h3, show ((total (cutR e b (sets RB)) : Nat) : Int) = ((total (sets RB) : Nat) : Int) - 1 by omega]; exact h2
  · intro k hk
    simp only [List.mem_cons, List.mem_append] at hk
    rcases hk with rfl | rfl | rfl | hk
    · exact hF _ (by simp)
    · exact hF _ (by simp)
    · exact hF _ (by simp)
    · have := h5 k (List.mem_append.2 hk)
      exact hF k (by simp only [List.mem_cons]; exact .inr (.inr (.inr this)))
  · intro y
    rw [h3, h4, ofR_cutR, lkp_cutO (O := sets OB) (srt_mp.2 (srt_ptrs h1.omap))]
    split
    · rw [hO]
    · exact hO y
end Go.Proofs.Ythokppghpmkbaaa.Ed
