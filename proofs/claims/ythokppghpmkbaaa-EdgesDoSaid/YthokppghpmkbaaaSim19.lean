/- The document's list of equations and the graph's: they hold the same. -/
import Derived.Test.YthokppghpmkbaaaRef19
import Derived.Test.YthokppghpmkbaaaGraphA
import Derived.Test.YthokppghpmkbaaaGraphD
namespace Go.Proofs.Ythokppghpmkbaaa.Pl
open Go Go.RowKit Go.Proofs.Ythokppghpmkbaaa.Mi Go.Proofs.Ythokppghpmkbaaa.Ed
set_option linter.unusedVariables false
set_option linter.unusedSimpArgs false

def pr (q : Eqn) : Int × List Int := (q.f0, q.f1)
/-- One list holds the other's equations. -/
def Sim (l : List Eqn) (R : Eqs) : Prop := (l.map pr).Perm R ∧ Srt R
section
variable {l : List Eqn} {R : Eqs}
theorem Sim.nil : Sim [] [] := ⟨List.Perm.refl _, by simp [Srt]⟩
theorem Sim.srt (h : Sim l R) : Srt R := h.2
theorem Sim.length (h : Sim l R) : R.length = l.length := by rw [← h.1.length_eq, List.length_map]
theorem Sim.nodup (h : Sim l R) : (keysOf l).Nodup := by
  have h1 : (keysOf l).Perm (R.map (·.1)) := by
    have := h.1.map (·.1)
    rw [List.map_map] at this
    exact this
  refine h1.symm.nodup ?_
  have := h.2
  unfold Srt at this
  rw [← List.pairwise_map (f := fun p : Int × List Int => p.1) (R := (· < ·))] at this
  exact this.imp (fun h => by omega)
theorem Sim.mem (h : Sim l R) {q : Eqn} (hq : q ∈ l) : lkp q.f0 R = some q.f1 := get_of_mem h.2 (h.1.mem_iff.1 (List.mem_map.2 ⟨q, hq, rfl⟩))
theorem Sim.mem' (h : Sim l R) {n : Int} {s : List Int} (hq : lkp n R = some s) : ∃ q ∈ l, q.f0 = n ∧ q.f1 = s := by
  obtain ⟨q, hq, e⟩ := List.mem_map.1 (h.1.mem_iff.2 (get_mem hq))
  exact ⟨q, hq, congrArg Prod.fst e, congrArg Prod.snd e⟩
theorem findI_iff {n : Int} : 0 ≤ findI l n ↔ ∃ q ∈ l, q.f0 = n := by
  unfold findI
  cases h : l.findIdx? (fun q => q.f0 == n) with
  | none =>
    rw [List.findIdx?_eq_none_iff] at h
    simp only [Option.map_none, Option.getD_none]
    constructor
    · intro h; omega
    · rintro ⟨q, hq, e⟩
      have := h q hq
      simp [e] at this
  | some i =>
    simp only [Option.map_some, Option.getD_some]
    constructor
    · intro _
      rw [List.findIdx?_eq_some_iff_getElem] at h
      obtain ⟨hi, h1, _⟩ := h
      exact ⟨l[i], List.getElem_mem _, by simpa using h1⟩
    · intro _; omega
theorem Sim.find (h : Sim l R) (n : Int) : 0 ≤ findI l n ↔ (lkp n R).isSome = true := by
  rw [findI_iff]
  constructor
  · rintro ⟨q, hq, rfl⟩; rw [h.mem hq]; rfl
  · intro h1
    obtain ⟨s, hs⟩ := Option.isSome_iff_exists.1 h1
    obtain ⟨q, hq, e, _⟩ := h.mem' hs
    exact ⟨q, hq, e⟩
theorem ofL_fold {b : Int} : ∀ (l : List Eqn) (acc : List Int), acc.Pairwise (· < ·) → (l.foldl (fun acc q => if b ∈ q.f1 then insS q.f0 acc else acc) acc).Pairwise (· < ·) ∧ ∀ x, x ∈ l.foldl (fun acc q => if b ∈ q.f1 then insS q.f0 acc else acc) acc ↔ x ∈ acc ∨ ∃ q ∈ l, b ∈ q.f1 ∧ q.f0 = x
  | [], acc, h => ⟨h, by simp⟩
  | q :: r, acc, h => by
    rw [List.foldl_cons]
    by_cases hb : b ∈ q.f1
    · rw [if_pos hb]
      obtain ⟨h1, h2⟩ := ofL_fold r (insS q.f0 acc) (insS_sorted h)
      refine ⟨h1, fun x => ?_⟩
      rw [h2, mem_insS]
      constructor
      · rintro ((rfl | hx) | ⟨p, hp, hx⟩)
        · exact .inr ⟨q, List.mem_cons_self, hb, rfl⟩
        · exact .inl hx
        · exact .inr ⟨p, List.mem_cons_of_mem _ hp, hx⟩
      · rintro (hx | ⟨p, hp, hx⟩)
        · exact .inl (.inr hx)
        · rcases List.mem_cons.1 hp with rfl | hp
          · exact .inl (.inl hx.2.symm)
          · exact .inr ⟨p, hp, hx⟩
    · rw [if_neg hb]
      obtain ⟨h1, h2⟩ := ofL_fold r acc h
      refine ⟨h1, fun x => ?_⟩
      rw [h2]
      constructor
      · rintro (hx | ⟨p, hp, hx⟩)
        · exact .inl hx
        · exact .inr ⟨p, List.mem_cons_of_mem _ hp, hx⟩
      · rintro (hx | ⟨p, hp, hx⟩)
        · exact .inl hx
        · rcases List.mem_cons.1 hp with rfl | hp
          · exact absurd hx.1 hb
          · exact .inr ⟨p, hp, hx⟩
theorem Sim.of (h : Sim l R) (b : Int) : ofL l b = ofR b R := by
  obtain ⟨h1, h2⟩ := ofL_fold (b := b) l [] List.Pairwise.nil
  refine sorted_ext h1 (ofR_sorted h.2) (fun x => ?_)
  show x ∈ ofL l b ↔ _
  unfold ofL
  rw [h2, mem_ofR h.2]
  constructor
  · rintro (hx | ⟨q, hq, hb, rfl⟩)
    · simp at hx
    · exact ⟨q.f1, h.mem hq, hb⟩
  · rintro ⟨s, hs, hb⟩
    obtain ⟨q, hq, e1, e2⟩ := h.mem' hs
    exact .inr ⟨q, hq, by rw [e2]; exact hb, e1⟩
theorem Sim.total (h : Sim l R) : totalL l = total R := by
  unfold totalL Ed.total
  have := h.1.map (fun p : Int × List Int => p.2.length)
  rw [List.map_map] at this
  exact this.sum_nat
theorem Sim.take (h : Sim l R) (b : Int) : Sim (takeL l b) (takeR b R) := by
  refine ⟨?_, srt_mp.2 h.2⟩
  have := h.1.map (fun p : Int × List Int => (p.1, p.2.filter (· != b)))
  rw [List.map_map] at this
  unfold takeL
  rw [List.map_map]
  exact this
theorem Sim.drop (h : Sim l R) (n : Int) : Sim (dropL l n) (del n R) := by
  refine ⟨?_, srt_del h.2⟩
  have := h.1.filter (fun p => p.1 != n)
  rw [List.filter_map] at this
  exact this
theorem ins_perm {α : Type} {x : Int} {v : α} : ∀ {m : List (Int × α)}, lkp x m = none → ((x, v) :: m).Perm (ins x v m)
  | [], _ => List.Perm.refl _
  | p :: r, h => by
    unfold lkp at h
    unfold ins
    split at h
    · cases h
    · rename_i hne
      by_cases hx : x < p.1
      · rw [if_pos hx]
      · rw [if_neg hx, if_neg hne]
        exact (List.Perm.swap _ _ _).trans ((ins_perm h).cons _)
theorem Sim.add (h : Sim l R) {n : Int} (bs : List Int) (hn : lkp n R = none) : Sim (l ++ [⟨n, bs⟩]) (ins n bs R) := by
  refine ⟨?_, srt_ins h.2⟩
  rw [List.map_append]
  exact (List.perm_append_comm.trans ((h.1).cons _)).trans (ins_perm hn)
theorem Sim.addL (h : Sim l R) (n : Int) (bs : List Int) : (addL l n bs).2 = true → lkp n R = none ∧ bs ≠ [] ∧ Sim (addL l n bs).1 (ins n (addS bs) R) := by
  unfold Pl.addL
  by_cases hc : 0 ≤ findI l n ∨ bs = []
  · rw [if_pos hc]; intro h; cases h
  · rw [if_neg hc]
    intro _
    have h1 : lkp n R = none := by
      cases hl : lkp n R with
      | none => rfl
      | some s => exact absurd (.inl ((h.find n).2 (by rw [hl]; rfl))) hc
    exact ⟨h1, fun e => hc (.inr e), h.add _ h1⟩
theorem Sim.addN (h : Sim l R) (n : Int) (bs : List Int) : (Pl.addL l n bs).2 = false → (Pl.addL l n bs).1 = l ∧ ((∃ s, lkp n R = some s) ∨ bs = []) := by
  unfold Pl.addL
  by_cases hc : 0 ≤ findI l n ∨ bs = []
  · rw [if_pos hc]
    intro _
    refine ⟨rfl, ?_⟩
    rcases hc with hc | hc
    · exact .inl (Option.isSome_iff_exists.1 ((h.find n).1 hc))
    · exact .inr hc
  · rw [if_neg hc]; intro h; cases h
theorem take_total_le {b : Int} : ∀ {R : Eqs}, Ed.total (takeR b R) ≤ Ed.total R
  | [] => Nat.le_refl _
  | p :: r => by
    have ih := take_total_le (b := b) (R := r)
    have e1 : Ed.total (takeR b (p :: r)) = (p.2.filter (· != b)).length + Ed.total (takeR b r) := rfl
    have e2 : Ed.total (p :: r) = p.2.length + Ed.total r := rfl
    have := List.length_filter_le (· != b) p.2
    omega
theorem del_total_le {n : Int} : ∀ {R : Eqs}, Ed.total (del n R) ≤ Ed.total R
  | [] => Nat.le_refl _
  | p :: r => by
    have ih := del_total_le (n := n) (R := r)
    have e2 : Ed.total (p :: r) = p.2.length + Ed.total r := rfl
    unfold del at ih ⊢
    rw [List.filter_cons]
    split
    · have e1 : Ed.total (p :: List.filter (fun p => p.1 != n) r) = p.2.length + Ed.total (List.filter (fun p => p.1 != n) r) := rfl
      omega
    · omega
theorem rest_le (h : Sim l R) : ∀ q ∈ l, q.f1.length ≤ Ed.total R := fun q hq => length_le_total (h.mem hq)
end
end Go.Proofs.Ythokppghpmkbaaa.Pl
