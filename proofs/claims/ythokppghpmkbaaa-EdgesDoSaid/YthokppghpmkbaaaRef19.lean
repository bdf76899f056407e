/- The document's lists (layers 9 and 19), plain: what the printed functions tell. -/
import Derived.Test.YthokppghpmkbaaaPRx3
import Derived.Test.YthokppghpmkbaaaPRx4
import Derived.Test.YthokppghpmkbaaaPRx5
import Derived.Test.YthokppghpmkbaaaPRx2
import Derived.Test.YthokppghpmkbaaaGraphP
namespace Go.Proofs.Ythokppghpmkbaaa.Pl
open Go Go.RowKit Go.Proofs.Ythokppghpmkbaaa.Mi Go.Proofs.Ythokppghpmkbaaa.Ed Go.Proofs.Ythokppghpmkbaaa.PR Go.Proofs.YthokppghpmkbaaaW.PrintWords
set_option linter.unusedVariables false
set_option linter.unusedSimpArgs false

abbrev Eqn := S141
abbrev BIG : Nat := 1099511627776

theorem down {P : Nat → Prop} {N : Nat} (h0 : P N) (hs : ∀ n, n < N → P (n + 1) → P n) : ∀ n, n ≤ N → P n := by
  intro n hn
  obtain ⟨d, rfl⟩ : ∃ d, N = n + d := ⟨N - n, by omega⟩
  clear hn
  induction d generalizing n with
  | zero => exact h0
  | succ d ih => exact hs n (by omega) (ih (n + 1) (by rw [show n + 1 + d = n + (d + 1) by omega]; exact h0) (by intro m hm; exact hs m (by omega)))
theorem wrapn {n N : Nat} (h : n < N) (hN : N ≤ BIG) : wrap64 ((n : Int) + 1) = ((n + 1 : Nat) : Int) := by unfold wrap64; unfold BIG at hN; omega
theorem rd_nat {xs : List Int} {n : Nat} (h : n < xs.length) : rd xs (n : Int) = xs[n] := by
  unfold rd; rw [List.getD_eq_getElem?_getD, Int.toNat_natCast, List.getElem?_eq_getElem h]; rfl
theorem rdE_nat {xs : List Eqn} {n : Nat} (h : n < xs.length) : rd_T141 xs (n : Int) = xs[n] := by
  unfold rd_T141; rw [List.getD_eq_getElem?_getD, Int.toNat_natCast, List.getElem?_eq_getElem h]; rfl
theorem drop_cons' {α : Type} {xs : List α} {n : Nat} (h : n < xs.length) : xs.drop n = xs[n] :: xs.drop (n + 1) := List.drop_eq_getElem_cons h

/-! ### Has, Insert -/
theorem has_ev (l : List Int) (a : Int) (hl : l.length ≤ BIG) : Ev (fun k => almonryref09_Has.f k l a) (l.contains a) := by
  have key : ∀ n, n ≤ l.length → Ev (fun k => almonryref09_Has.l0 k l a (n : Int)) ((l.drop n).contains a) := by
    refine down ?_ ?_
    · rw [List.drop_length]
      exact Ev.step (f := fun _ => some false) (fun k => by simp only [almonryref09_Has.l0]; rw [if_neg (by omega)]) (Ev.now _)
    · intro n hn ih
      rw [drop_cons' hn, List.contains_cons]
      by_cases h : l[n] = a
      · refine Ev.step (f := fun _ => some true) (fun k => ?_) ?_
        · simp only [almonryref09_Has.l0]; rw [if_pos (by omega), if_pos (by omega), rd_nat hn, if_pos h]
        · simp only [h, beq_self_eq_true, Bool.true_or]; exact Ev.now _
      · refine Ev.step (f := fun k => almonryref09_Has.l0 k l a ((n + 1 : Nat) : Int)) (fun k => ?_) ?_
        · simp only [almonryref09_Has.l0]; rw [if_pos (by omega), if_pos (by omega), rd_nat hn, if_neg h, wrapn hn hl]
        · have : (a == l[n]) = false := by simpa using Ne.symm h
          rw [this, Bool.false_or]; exact ih
  have := key 0 (Nat.zero_le _)
  rw [List.drop_zero] at this
  exact this
theorem insert_ev (l : List Int) (a : Int) (hl : l.length ≤ BIG) (hs : l.Pairwise (· < ·)) (ha : a ∉ l) : Ev (fun k => almonryref09_Insert.f k l a) (insS a l) := by
  -- behind the place: the rest as it is
  have k1 : ∀ n, n ≤ l.length → ∀ acc : List Int, acc.length ≤ n + 1 → Ev (fun k => almonryref09_Insert.l0 k l a acc true (n : Int)) (acc ++ l.drop n) := by
    refine down ?_ ?_
    · intro acc hac
      rw [List.drop_length, List.append_nil]
      exact Ev.step (f := fun _ => some acc) (fun k => by simp only [almonryref09_Insert.l0]; rw [if_neg (by omega), if_pos trivial]) (Ev.now _)
    · intro n hn ih acc hac
      rw [drop_cons' hn]
      refine Ev.step (f := fun k => almonryref09_Insert.l0 k l a (acc ++ [l[n]]) true ((n + 1 : Nat) : Int)) (fun k => ?_) ?_
      · simp only [almonryref09_Insert.l0]; rw [if_pos (by omega), if_pos trivial, if_pos (by omega), if_pos (by unfold BIG at hl; omega), rd_nat hn, wrapn hn hl]
      · have := ih (acc ++ [l[n]]) (by simp; omega)
        rwa [List.append_assoc, List.singleton_append] at this
  have k2 : ∀ n, n ≤ l.length → ∀ acc : List Int, acc.length ≤ n → Ev (fun k => almonryref09_Insert.l0 k l a acc false (n : Int)) (acc ++ insS a (l.drop n)) := by
    refine down ?_ ?_
    · intro acc hac
      rw [List.drop_length]
      exact Ev.step (f := fun _ => some (acc ++ [a])) (fun k => by simp only [almonryref09_Insert.l0]; rw [if_neg (by omega), if_neg (by simp), if_pos (by unfold BIG at hl; omega)]) (Ev.now _)
    · intro n hn ih acc hac
      rw [drop_cons' hn]
      have hne : l[n] ≠ a := fun e => ha (e ▸ List.getElem_mem _)
      unfold insS
      by_cases h : a < l[n]
      · rw [if_pos h]
        refine Ev.step (f := fun k => almonryref09_Insert.l0 k l a (acc ++ [a] ++ [l[n]]) true ((n + 1 : Nat) : Int)) (fun k => ?_) ?_
        · simp only [almonryref09_Insert.l0]; rw [if_pos (by omega), if_neg (by simp), if_pos (by omega), rd_nat hn, if_pos h, if_pos (by unfold BIG at hl; omega)]; simp only [Option.bind_some]; rw [if_pos (by simp; unfold BIG at hl; omega), wrapn hn hl]
        · have := k1 (n + 1) (by omega) (acc ++ [a] ++ [l[n]]) (by simp; omega)
          simpa using this
      · rw [if_neg h, if_neg hne]
        refine Ev.step (f := fun k => almonryref09_Insert.l0 k l a (acc ++ [l[n]]) false ((n + 1 : Nat) : Int)) (fun k => ?_) ?_
        · simp only [almonryref09_Insert.l0]; rw [if_pos (by omega), if_neg (by simp), if_pos (by omega), rd_nat hn, if_neg h, if_pos (by unfold BIG at hl; omega), wrapn hn hl]
        · have := ih (acc ++ [l[n]]) (by simp; omega)
          rwa [List.append_assoc, List.singleton_append] at this
  have := k2 0 (Nat.zero_le _) [] (Nat.le_refl _)
  rw [List.drop_zero, List.nil_append] at this
  exact this

/-! ### layer 19 -/
/-- Where an equation stands; -1: nowhere. -/
def findI (l : List Eqn) (a : Int) : Int := Option.getD (Option.map (fun n : Nat => (n : Int)) (l.findIdx? (fun q => q.f0 == a))) (-1)
def keysOf (l : List Eqn) : List Int := l.map (·.f0)
theorem find_ev (l : List Eqn) (a : Int) (hl : l.length ≤ BIG) : Ev (fun k => almonryref19_Find.f k l a) (findI l a) := by
  have key : ∀ n, n ≤ l.length → Ev (fun k => almonryref19_Find.l0 k l a (n : Int)) ((((l.drop n).findIdx? (fun q => q.f0 == a)).map (fun m => ((n + m : Nat) : Int))).getD (-1)) := by
    refine down ?_ ?_
    · rw [List.drop_length]
      exact Ev.step (f := fun _ => some (-1)) (fun k => by simp only [almonryref19_Find.l0]; rw [if_neg (by omega)]) (Ev.now _)
    · intro n hn ih
      rw [drop_cons' hn, List.findIdx?_cons]
      by_cases h : l[n].f0 = a
      · refine Ev.step (f := fun _ => some (n : Int)) (fun k => ?_) ?_
        · simp only [almonryref19_Find.l0]; rw [if_pos (by omega), if_pos (by omega), rdE_nat hn, if_pos h]
        · simp only [h, beq_self_eq_true, if_true, Option.map_some, Option.getD_some, Nat.add_zero]; exact Ev.now _
      · refine Ev.step (f := fun k => almonryref19_Find.l0 k l a ((n + 1 : Nat) : Int)) (fun k => ?_) ?_
        · simp only [almonryref19_Find.l0]; rw [if_pos (by omega), if_pos (by omega), rdE_nat hn, if_neg h, wrapn hn hl]
        · have : (l[n].f0 == a) = false := by simpa using h
          rw [this]
          simp only [Bool.false_eq_true, if_false, Option.map_map]
          have e : ((fun m => ((n + m : Nat) : Int)) ∘ fun i => i + 1) = fun m => ((n + 1 + m : Nat) : Int) := by
            funext m
            simp only [Function.comp]
            omega
          rw [e]
          exact ih
  have := key 0 (Nat.zero_le _)
  rw [List.drop_zero, show (fun m : Nat => ((0 + m : Nat) : Int)) = (fun n : Nat => (n : Int)) by funext m; simp] at this
  exact this

def addL (l : List Eqn) (n : Int) (bs : List Int) : List Eqn × Bool := if (0 ≤ findI l n) ∨ bs = [] then (l, false) else (l ++ [⟨n, addS bs⟩], true)
theorem add_ev (l : List Eqn) (n : Int) (bs : List Int) (hl : l.length ≤ BIG) (hb : bs.length ≤ BIG) : Ev (fun k => almonryref19_Add.f k l n bs) (addL l n bs) := by
  have k1 : ∀ i, i ≤ bs.length → Ev (fun k => almonryref19_Add.l0 k l n bs (addS (bs.take i)) (i : Int)) (l ++ [⟨n, addS bs⟩], true) := by
    refine down ?_ ?_
    · rw [List.take_length]
      refine Ev.step (f := fun _ => some (l ++ [⟨n, addS bs⟩], true)) (fun k => ?_) (Ev.now _)
      simp only [almonryref19_Add.l0]; rw [if_neg (by omega)]
      rw [Option.bind_some, if_pos (by simp only [List.length_nil]; unfold BIG at hl; omega), Option.bind_some, List.nil_append, if_pos (by unfold BIG at hl; omega)]
    · intro i hi ih
      have ht : bs.take (i + 1) = bs.take i ++ [bs[i]] := List.take_succ_eq_append_getElem hi
      have hlen : (addS (bs.take i)).length ≤ BIG := by have := addS_length_le (bs.take i); rw [List.length_take] at this; omega
      rw [ht, addS_snoc] at ih
      refine Ev.step (f := fun k => (almonryref09_Has.f k (addS (bs.take i)) (rd bs (i : Int))).bind fun t139 => (if t139 = true then (almonryref19_Add.l0 k l n bs (addS (bs.take i)) (wrap64 ((i : Int) + 1))) else ((almonryref09_Insert.f k (addS (bs.take i)) (rd bs (i : Int))).bind fun t141 => (almonryref19_Add.l0 k l n bs t141 (wrap64 ((i : Int) + 1)))))) (fun k => ?_) ?_
      · simp only [almonryref19_Add.l0]; rw [if_pos (by omega), if_pos (by omega)]
      · rw [rd_nat hi, wrapn hi hb]
        by_cases hm : bs[i] ∈ addS (bs.take i)
        · refine Ev.bind (has_ev _ _ hlen) ?_
          rw [insS_mem (addS_sorted _) hm] at ih
          simp only [List.contains_eq_mem, hm, decide_true, if_true]
          exact ih
        · refine Ev.bind (has_ev _ _ hlen) ?_
          simp only [List.contains_eq_mem, hm, decide_false, Bool.false_eq_true, if_false]
          exact Ev.bind (insert_ev _ _ hlen (addS_sorted _) hm) ih
  unfold almonryref19_Add.f addL
  refine Ev.bind (find_ev l n hl) ?_
  by_cases h0 : 0 ≤ findI l n
  · rw [if_pos (.inl h0)]
    simp only [ge_iff_le, h0, if_true]
    exact Ev.step (f := fun _ => some (l, false)) (fun k => by simp only [almonryref19_Add.j0]; rw [if_pos trivial]) (Ev.now _)
  · simp only [ge_iff_le, h0, if_false, false_or]
    by_cases hb0 : bs = []
    · rw [if_pos hb0]
      subst hb0
      exact Ev.step (f := fun _ => some (l, false)) (fun k => by simp only [almonryref19_Add.j0]; rw [if_pos (by simp)]) (Ev.now _)
    · rw [if_neg hb0]
      have hz : ((bs.length : Int) == 0) = false := beq_eq_false_iff_ne.2 (by have := List.length_pos_iff.2 hb0; omega)
      rw [hz]
      exact Ev.step (f := fun k => almonryref19_Add.l0 k l n bs [] 0) (fun k => by simp only [almonryref19_Add.j0]; rw [if_neg (by simp)]) (k1 0 (Nat.zero_le _))

def withoutL (l : List Int) (b : Int) : List Int := l.filter (· != b)
theorem without_ev (l : List Int) (b : Int) (hl : l.length ≤ BIG) : Ev (fun k => almonryref19_without.f k l b) (l.filter (· != b)) := by
  have k1 : ∀ n, n ≤ l.length → ∀ acc : List Int, acc.length ≤ n → Ev (fun k => almonryref19_without.l0 k l b acc (n : Int)) (acc ++ (l.drop n).filter (· != b)) := by
    refine down ?_ ?_
    · intro acc hac
      rw [List.drop_length, List.filter_nil, List.append_nil]
      exact Ev.step (f := fun _ => some acc) (fun k => by simp only [almonryref19_without.l0]; rw [if_neg (by omega)]) (Ev.now _)
    · intro n hn ih acc hac
      rw [drop_cons' hn]
      by_cases h : l[n] = b
      · rw [List.filter_cons_of_neg (by simp [h])]
        refine Ev.step (f := fun k => almonryref19_without.l0 k l b acc ((n + 1 : Nat) : Int)) (fun k => ?_) (ih acc (by omega))
        simp only [almonryref19_without.l0]; rw [if_pos (by omega), if_pos (by omega), rd_nat hn, if_pos h, wrapn hn hl]
      · rw [List.filter_cons_of_pos (by simpa using h)]
        refine Ev.step (f := fun k => almonryref19_without.l0 k l b (acc ++ [l[n]]) ((n + 1 : Nat) : Int)) (fun k => ?_) ?_
        · simp only [almonryref19_without.l0]; rw [if_pos (by omega), if_pos (by omega), rd_nat hn, if_neg h, if_pos (by unfold BIG at hl; omega), wrapn hn hl]
        · have := ih (acc ++ [l[n]]) (by simp; omega)
          rwa [List.append_assoc, List.singleton_append] at this
  have := k1 0 (Nat.zero_le _) [] (Nat.le_refl _)
  rw [List.drop_zero, List.nil_append] at this
  exact this
def takeL (l : List Eqn) (b : Int) : List Eqn := l.map fun q => ⟨q.f0, q.f1.filter (· != b)⟩
theorem take_ev (l : List Eqn) (b : Int) (hl : l.length ≤ BIG) (hr : ∀ q ∈ l, q.f1.length ≤ BIG) : Ev (fun k => almonryref19_Take.f k l b) (takeL l b) := by
  have k1 : ∀ n, n ≤ l.length → ∀ acc : List Eqn, acc.length ≤ n → Ev (fun k => almonryref19_Take.l0 k l b acc (n : Int)) (acc ++ takeL (l.drop n) b) := by
    refine down ?_ ?_
    · intro acc hac
      rw [List.drop_length]
      show Ev _ (acc ++ [])
      rw [List.append_nil]
      exact Ev.step (f := fun _ => some acc) (fun k => by simp only [almonryref19_Take.l0]; rw [if_neg (by omega)]) (Ev.now _)
    · intro n hn ih acc hac
      rw [drop_cons' hn]
      refine Ev.step (f := fun k => (almonryref19_without.f k l[n].f1 b).bind fun t => almonryref19_Take.l0 k l b (acc ++ [⟨l[n].f0, t⟩]) ((n + 1 : Nat) : Int)) (fun k => ?_) ?_
      · simp only [almonryref19_Take.l0]; rw [if_pos (by omega), if_pos (by omega), rdE_nat hn, wrapn hn hl]
        congr 1
        funext t
        rw [if_pos (by unfold BIG at hl; omega)]
      · refine Ev.bind (without_ev _ b (hr _ (List.getElem_mem _))) ?_
        have := ih (acc ++ [⟨l[n].f0, l[n].f1.filter (· != b)⟩]) (by simp; omega)
        rwa [List.append_assoc, List.singleton_append] at this
  have := k1 0 (Nat.zero_le _) [] (Nat.le_refl _)
  rw [List.drop_zero, List.nil_append] at this
  exact this
def dropL (l : List Eqn) (n : Int) : List Eqn := l.filter (·.f0 != n)
theorem drop_ev (l : List Eqn) (a : Int) (hl : l.length ≤ BIG) : Ev (fun k => almonryref19_Drop.f k l a) (dropL l a) := by
  have k1 : ∀ n, n ≤ l.length → ∀ acc : List Eqn, acc.length ≤ n → Ev (fun k => almonryref19_Drop.l0 k l a acc (n : Int)) (acc ++ dropL (l.drop n) a) := by
    refine down ?_ ?_
    · intro acc hac
      rw [List.drop_length]
      show Ev _ (acc ++ [])
      rw [List.append_nil]
      exact Ev.step (f := fun _ => some acc) (fun k => by simp only [almonryref19_Drop.l0]; rw [if_neg (by omega)]) (Ev.now _)
    · intro n hn ih acc hac
      rw [drop_cons' hn]
      unfold dropL
      by_cases h : l[n].f0 = a
      · rw [List.filter_cons_of_neg (by simp [h])]
        refine Ev.step (f := fun k => almonryref19_Drop.l0 k l a acc ((n + 1 : Nat) : Int)) (fun k => ?_) (ih acc (by omega))
        simp only [almonryref19_Drop.l0]; rw [if_pos (by omega), if_pos (by omega), rdE_nat hn, if_pos h, wrapn hn hl]
      · rw [List.filter_cons_of_pos (by simpa using h)]
        refine Ev.step (f := fun k => almonryref19_Drop.l0 k l a (acc ++ [l[n]]) ((n + 1 : Nat) : Int)) (fun k => ?_) ?_
        · simp only [almonryref19_Drop.l0]; rw [if_pos (by omega), if_pos (by omega), rdE_nat hn, if_neg h, if_pos (by unfold BIG at hl; omega), wrapn hn hl]
        · have := ih (acc ++ [l[n]]) (by simp; omega)
          rwa [List.append_assoc, List.singleton_append] at this
  have := k1 0 (Nat.zero_le _) [] (Nat.le_refl _)
  rw [List.drop_zero, List.nil_append] at this
  exact this
def totalL (l : List Eqn) : Nat := (l.map (·.f1.length)).sum
theorem edges_ev (l : List Eqn) (hl : l.length ≤ BIG) (ht : totalL l ≤ BIG) : Ev (fun k => almonryref19_Edges.f k l) (totalL l : Int) := by
  have k1 : ∀ n, n ≤ l.length → ∀ acc : Nat, acc + totalL (l.drop n) ≤ BIG → Ev (fun k => almonryref19_Edges.l0 k l (acc : Int) (n : Int)) ((acc + totalL (l.drop n) : Nat) : Int) := by
    refine down ?_ ?_
    · intro acc hac
      rw [List.drop_length]
      exact Ev.step (f := fun _ => some (acc : Int)) (fun k => by simp only [almonryref19_Edges.l0]; rw [if_neg (by omega)]) (Ev.now _)
    · intro n hn ih acc hac
      rw [drop_cons' hn] at hac ⊢
      unfold totalL at hac ih ⊢
      rw [List.map_cons, List.sum_cons] at hac ⊢
      have h1 : wrap64 ((acc : Int) + (l[n].f1.length : Int)) = ((acc + l[n].f1.length : Nat) : Int) := by unfold wrap64; unfold BIG at hac; omega
      refine Ev.step (f := fun k => almonryref19_Edges.l0 k l ((acc + l[n].f1.length : Nat) : Int) ((n + 1 : Nat) : Int)) (fun k => ?_) ?_
      · simp only [almonryref19_Edges.l0]; rw [if_pos (by omega), if_pos (by omega), rdE_nat hn, h1, wrapn hn hl]
      · have := ih (acc + l[n].f1.length) (by omega)
        rw [Nat.add_assoc] at this
        exact this
  have := k1 0 (Nat.zero_le _) 0 (by simpa using ht)
  rw [List.drop_zero, Nat.zero_add] at this
  exact this
def ofL (l : List Eqn) (b : Int) : List Int := l.foldl (fun acc q => if b ∈ q.f1 then insS q.f0 acc else acc) []
theorem of_ev (l : List Eqn) (b : Int) (hl : l.length ≤ BIG) (hr : ∀ q ∈ l, q.f1.length ≤ BIG) (hn : (keysOf l).Nodup) : Ev (fun k => almonryref19_Of.f k l b) (ofL l b) := by
  have k1 : ∀ n, n ≤ l.length → ∀ acc : List Int, acc.length ≤ n → acc.Pairwise (· < ·) → (∀ x ∈ acc, x ∈ keysOf (l.take n)) → Ev (fun k => almonryref19_Of.l0 k l b acc (n : Int)) ((l.drop n).foldl (fun acc q => if b ∈ q.f1 then insS q.f0 acc else acc) acc) := by
    refine down ?_ ?_
    · intro acc hac _ _
      rw [List.drop_length]
      exact Ev.step (f := fun _ => some acc) (fun k => by simp only [almonryref19_Of.l0]; rw [if_neg (by omega)]) (Ev.now _)
    · intro n hlt ih acc hac hs hm
      rw [drop_cons' hlt, List.foldl_cons]
      have hk : keysOf (l.take (n + 1)) = keysOf (l.take n) ++ [l[n].f0] := by unfold keysOf; rw [List.take_succ_eq_append_getElem hlt, List.map_append]; rfl
      refine Ev.step (f := fun k => (almonryref09_Has.f k l[n].f1 b).bind fun t148 => (if t148 = true then ((almonryref09_Insert.f k acc l[n].f0).bind fun t150 => (almonryref19_Of.l0 k l b t150 ((n + 1 : Nat) : Int))) else (almonryref19_Of.l0 k l b acc ((n + 1 : Nat) : Int)))) (fun k => ?_) ?_
      · simp only [almonryref19_Of.l0]; rw [if_pos (by omega), if_pos (by omega), rdE_nat hlt, wrapn hlt hl]
      · refine Ev.bind (has_ev _ _ (hr _ (List.getElem_mem _))) ?_
        by_cases hb : b ∈ l[n].f1
        · simp only [List.contains_eq_mem, hb, decide_true, if_true]
          have hni : l[n].f0 ∉ acc := by
            intro hin
            have h1 := hm _ hin
            have h2 : (keysOf (l.take (n + 1))).Nodup := hn.sublist (List.Sublist.map _ (List.take_sublist _ _))
            rw [hk] at h2
            exact (List.nodup_append.1 h2).2.2 _ h1 _ (List.mem_singleton.2 rfl) rfl
          refine Ev.bind (insert_ev acc l[n].f0 (by omega) hs hni) ?_
          refine ih _ (by rw [insS_length hni]; omega) (insS_sorted hs) (fun x hx => ?_)
          rw [hk, List.mem_append]
          rcases mem_insS.1 hx with rfl | hx
          · exact .inr (List.mem_singleton.2 rfl)
          · exact .inl (hm x hx)
        · simp only [List.contains_eq_mem, hb, decide_false, Bool.false_eq_true, if_false]
          refine ih _ (by omega) hs (fun x hx => ?_)
          rw [hk, List.mem_append]
          exact .inl (hm x hx)
  have := k1 0 (Nat.zero_le _) [] (Nat.le_refl _) List.Pairwise.nil (by simp)
  rw [List.drop_zero] at this
  exact this
theorem same_ev (a b : List Int) (hl : a.length ≤ BIG) : Ev (fun k => almonrylaw09_Same.f k a b) (if a = b then 1 else 0) := by
  have k1 : a.length = b.length → ∀ n, n ≤ a.length → Ev (fun k => almonrylaw09_Same.l0 k a b (a.length : Int) (n : Int)) (if a.drop n = b.drop n then 1 else 0) := by
    intro he
    refine down ?_ ?_
    · rw [List.drop_length, List.drop_eq_nil_of_le (by omega), if_pos rfl]
      exact Ev.step (f := fun _ => some 1) (fun k => by simp only [almonrylaw09_Same.l0]; rw [if_neg (by omega)]) (Ev.now _)
    · intro n hn ih
      rw [drop_cons' hn, drop_cons' (show n < b.length by omega)]
      by_cases h : a[n] = b[n]'(by omega)
      · refine Ev.step (f := fun k => almonrylaw09_Same.l0 k a b (a.length : Int) ((n + 1 : Nat) : Int)) (fun k => ?_) ?_
        · simp only [almonrylaw09_Same.l0]; rw [if_pos (by omega), if_pos (by omega), if_pos (by omega), if_pos (by omega), rd_nat hn, rd_nat (show n < b.length by omega), if_pos h, wrapn hn hl]
        · simp only [List.cons.injEq, h, true_and]; exact ih
      · refine Ev.step (f := fun _ => some 0) (fun k => ?_) ?_
        · simp only [almonrylaw09_Same.l0]; rw [if_pos (by omega), if_pos (by omega), if_pos (by omega), if_pos (by omega), rd_nat hn, rd_nat (show n < b.length by omega), if_neg h]
        · rw [if_neg (fun e => h (List.cons.inj e).1)]; exact Ev.now _
  by_cases he : a.length = b.length
  · have := k1 he 0 (Nat.zero_le _)
    rw [List.drop_zero, List.drop_zero] at this
    exact Ev.congr (fun k => by unfold almonrylaw09_Same.f; exact if_pos (by omega)) this
  · have hne : ¬ a = b := by rintro rfl; exact he rfl
    rw [if_neg hne]
    exact Ev.congr (fun k => by unfold almonrylaw09_Same.f; exact if_neg (by omega)) (Ev.now _)
end Go.Proofs.Ythokppghpmkbaaa.Pl
