/- edges.Graph, plain: what adding an equation makes of the lists. -/
import Derived.Test.YthokppghpmkbaaaGraphD
namespace Go.Proofs.Ythokppghpmkbaaa.Ed
open Go Go.RowKit Go.Proofs.Ythokppghpmkbaaa.Mi Go.Proofs.YthokppghpmkbaaaW.PrintWords Go.Proofs.YthokppghpmkbaaaW.PrintLast
set_option linter.unusedVariables false
set_option linter.unusedSimpArgs false

def insS (b : Int) : List Int → List Int
  | [] => [b]
  | x :: r => if b < x then b :: x :: r else if x = b then b :: r else x :: insS b r
theorem insS_map {α : Type} {v : α} {b : Int} : ∀ {s : List Int}, ins b v (s.map fun x => (x, v)) = (insS b s).map fun x => (x, v)
  | [] => rfl
  | x :: r => by
    have ih := insS_map (v := v) (b := b) (s := r)
    simp only [List.map_cons, ins, insS]
    split
    · rfl
    · split
      · rfl
      · rw [ih, List.map_cons]
theorem mem_insS {b y : Int} : ∀ {s : List Int}, y ∈ insS b s ↔ y = b ∨ y ∈ s
  | [] => by simp [insS]
  | x :: r => by
    unfold insS
    split
    · simp
    · split
      · rename_i h; subst h; simp
      · rw [List.mem_cons, mem_insS, List.mem_cons]
        constructor
        · rintro (h | h | h)
          · exact .inr (.inl h)
          · exact .inl h
          · exact .inr (.inr h)
        · rintro (h | h | h)
          · exact .inr (.inl h)
          · exact .inl h
          · exact .inr (.inr h)
theorem insS_sorted {b : Int} : ∀ {s : List Int}, s.Pairwise (· < ·) → (insS b s).Pairwise (· < ·)
  | [], _ => by simp [insS]
  | x :: r, hs => by
    obtain ⟨h1, h2⟩ := List.pairwise_cons.1 hs
    unfold insS
    split
    · rename_i h
      refine List.pairwise_cons.2 ⟨fun q hq => ?_, hs⟩
      rcases List.mem_cons.1 hq with rfl | hq
      · exact h
      · have := h1 _ hq; omega
    · split
      · rename_i h h'
        exact List.pairwise_cons.2 ⟨fun q hq => by have := h1 _ hq; omega, h2⟩
      · rename_i h h'
        refine List.pairwise_cons.2 ⟨fun q hq => ?_, insS_sorted h2⟩
        rcases mem_insS.1 hq with rfl | hq
        · omega
        · exact h1 _ hq
theorem sorted_ext : ∀ {s t : List Int}, s.Pairwise (· < ·) → t.Pairwise (· < ·) → (∀ x, x ∈ s ↔ x ∈ t) → s = t
  | [], [], _, _, _ => rfl
  | [], q :: r, _, _, h => by have := (h q).2 List.mem_cons_self; simp at this
  | p :: r, [], _, _, h => by have := (h p).1 List.mem_cons_self; simp at this
  | p :: r, q :: r', hs, hs', h => by
    obtain ⟨h1, h2⟩ := List.pairwise_cons.1 hs
    obtain ⟨h1', h2'⟩ := List.pairwise_cons.1 hs'
    have e : p = q := by
      rcases List.mem_cons.1 ((h p).1 List.mem_cons_self) with e | hp
      · exact e
      · rcases List.mem_cons.1 ((h q).2 List.mem_cons_self) with e | hq
        · exact e.symm
        · have := h1 _ hq; have := h1' _ hp; omega
    subst e
    congr 1
    refine sorted_ext h2 h2' (fun z => ?_)
    constructor
    · intro hz
      rcases List.mem_cons.1 ((h z).1 (List.mem_cons_of_mem _ hz)) with rfl | hz'
      · have := h1 _ hz; omega
      · exact hz'
    · intro hz
      rcases List.mem_cons.1 ((h z).2 (List.mem_cons_of_mem _ hz)) with rfl | hz'
      · have := h1' _ hz; omega
      · exact hz'
theorem insS_mem {b : Int} {s : List Int} (hs : s.Pairwise (· < ·)) (h : b ∈ s) : insS b s = s :=
  sorted_ext (insS_sorted hs) hs (fun x => by rw [mem_insS]; constructor
                                              · rintro (rfl | h')
                                                · exact h
                                                · exact h'
                                              · exact .inr)
theorem insS_length {b : Int} : ∀ {s : List Int}, b ∉ s → (insS b s).length = s.length + 1
  | [], _ => rfl
  | x :: r, h => by
    simp only [List.mem_cons, not_or] at h
    unfold insS
    split
    · rfl
    · rw [if_neg (Ne.symm h.1), List.length_cons, insS_length h.2, List.length_cons]
/-- The blocks of an equation, none twice, rising. -/
def addS (l : List Int) : List Int := l.foldl (fun s b => insS b s) []
def addE (e : Int) (l : List Int) (R : Eqs) : Eqs := l.foldl (fun R b => alter e (insS b) R) (ins e [] R)
theorem addE_snoc (e : Int) (l : List Int) (b : Int) (R : Eqs) : addE e (l ++ [b]) R = alter e (insS b) (addE e l R) := by simp [addE]
theorem addS_snoc (l : List Int) (b : Int) : addS (l ++ [b]) = insS b (addS l) := by simp [addS]
theorem addS_sorted_from : ∀ (l s : List Int), s.Pairwise (· < ·) → (l.foldl (fun s b => insS b s) s).Pairwise (· < ·)
  | [], _, h => h
  | b :: l, s, h => addS_sorted_from l _ (insS_sorted h)
theorem addS_sorted (l : List Int) : (addS l).Pairwise (· < ·) := addS_sorted_from l [] List.Pairwise.nil
theorem addS_length_le_from : ∀ (l s : List Int), s.Pairwise (· < ·) → (l.foldl (fun s b => insS b s) s).length ≤ s.length + l.length
  | [], _, _ => Nat.le_refl _
  | b :: l, s, h => by
    have h1 := addS_length_le_from l (insS b s) (insS_sorted h)
    have h2 : (insS b s).length ≤ s.length + 1 := by
      by_cases hb : b ∈ s
      · rw [insS_mem h hb]; omega
      · rw [insS_length hb]; exact Nat.le_refl _
    simp only [List.foldl_cons, List.length_cons]
    omega
theorem addS_length_le (l : List Int) : (addS l).length ≤ l.length := by have := addS_length_le_from l [] List.Pairwise.nil; simpa [addS] using this
theorem addE_eq {e : Int} {R : Eqs} (hs : Srt R) : ∀ l : List Int, addE e l R = ins e (addS l) R := by
  have key : ∀ (l : List Int) (s : List Int), l.foldl (fun R b => alter e (insS b) R) (ins e s R) = ins e (l.foldl (fun s b => insS b s) s) R := by
    intro l
    induction l with
    | nil => intro s; rfl
    | cons b l ih =>
      intro s
      have h1 : alter e (insS b) (ins e s R) = ins e (insS b s) R := by
        refine srt_lkp_ext (srt_alter (srt_ins hs)) (srt_ins hs) (fun x => ?_)
        rw [get_alter, get_ins hs, get_ins hs]
        split <;> rfl
      rw [List.foldl_cons, h1, ih, List.foldl_cons]
  exact fun l => key l []
theorem lkp_addE {e : Int} {R : Eqs} (hs : Srt R) (l : List Int) : lkp e (addE e l R) = some (addS l) := by rw [addE_eq hs, get_ins hs, if_pos rfl]
theorem addE_srt {e : Int} {R : Eqs} (hs : Srt R) (l : List Int) : Srt (addE e l R) := by rw [addE_eq hs]; exact srt_ins hs
theorem ofR_alter {e b y : Int} {s : List Int} {R : Eqs} (hs : Srt R) (he : lkp e R = some s) : ofR y (alter e (insS b) R) = if y = b then insS e (ofR b R) else ofR y R := by
  have hs' := srt_alter (x := e) (f := insS b) hs
  have hmem : ∀ x, x ∈ ofR y (alter e (insS b) R) ↔ (x = e ∧ y = b) ∨ x ∈ ofR y R := by
    intro x
    rw [mem_ofR hs', mem_ofR hs, get_alter]
    by_cases hx : x = e
    · subst hx
      rw [if_pos rfl, he]
      simp only [Option.map_some, Option.some.injEq, exists_eq_left', mem_insS, true_and]
    · rw [if_neg hx]
      simp [hx]
  split
  · rename_i hy
    subst hy
    refine sorted_ext (ofR_sorted hs') (insS_sorted (ofR_sorted hs)) (fun x => ?_)
    rw [hmem, mem_insS]
    simp
  · rename_i hy
    refine sorted_ext (ofR_sorted hs') (ofR_sorted hs) (fun x => ?_)
    rw [hmem]
    simp [hy]
theorem total_ins {e : Int} {s : List Int} : ∀ {R : Eqs}, Srt R → lkp e R = none → total (ins e s R) = total R + s.length
  | [], _, _ => by simp [total, ins]
  | p :: r, hs, h => by
    obtain ⟨h1, h2⟩ := List.pairwise_cons.1 hs
    unfold lkp at h
    split at h
    · cases h
    · rename_i hp
      unfold ins
      split
      · unfold total; simp only [List.map_cons, List.sum_cons]; omega
      · have := total_ins (s := s) h2 h
        unfold total at this ⊢
        rw [List.map_cons, List.sum_cons, this, List.map_cons, List.sum_cons]
        omega
theorem total_addE {e : Int} {R : Eqs} (hs : Srt R) (h : lkp e R = none) (l : List Int) : total (addE e l R) = total R + (addS l).length := by rw [addE_eq hs, total_ins hs h]
theorem ofR_ins {e y : Int} {R : Eqs} (hs : Srt R) (h : lkp e R = none) : ofR y (ins e [] R) = ofR y R := by
  refine sorted_ext (ofR_sorted (srt_ins hs)) (ofR_sorted hs) (fun x => ?_)
  rw [mem_ofR (srt_ins hs), mem_ofR hs, get_ins hs]
  split
  · rename_i hx; subst hx; rw [h]; simp
  · rfl
end Go.Proofs.Ythokppghpmkbaaa.Ed
