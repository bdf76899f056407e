/- edges.Graph: Take, Drop. -/
import Derived.Test.YthokppghpmkbaaaGraphC
namespace Go.Proofs.Ythokppghpmkbaaa.Ed
open Go Go.RowKit Go.Proofs.Ythokppghpmkbaaa.Mi Go.Proofs.YthokppghpmkbaaaW.PrintWords Go.Proofs.YthokppghpmkbaaaW.PrintLast
set_option linter.unusedVariables false
set_option linter.unusedSimpArgs false

theorem keysS (v : Value) (s : List Int) (w : World) (h : SetV w v s) (hl : s.length ≤ 1099511627776) :
    Calls Try.prog 92 #[v] w fun e w' => ∃ (A : Option Addr) (c : Nat), e = .returned (.slice A s.length c) ∧ (Kd.int .i64).R 3 w' w.heap.size (fun _ => True) (.slice A s.length c) s ∧ Below w.heap.size w w' := by
  refine (keys_any v s w h hl).mono ?_
  rintro e w' ⟨v', rfl, hR, hB⟩
  obtain ⟨A, c, rfl⟩ := Kd.R_slice hR
  exact ⟨A, c, rfl, hR, hB⟩
/-- A row of numbers lives on where other blocks are turned. -/
theorem R_fr {k : IntKind} {w w1 : World} {e base : Nat} {ok : Nat → Prop} {v : Value} {xs : List Int} {S : Nat → Prop} (h : (Kd.int k).R e w base ok v xs) (hf : Fr w w1 S) (hn : ∀ b, v.ownBlock = some b → ¬ S b) : (Kd.int k).R e w1 base ok v xs :=
  Kd.R_of_own (own_move (Kd.own_of_R h) (fun b hb => hf.block b (Kd.R_lt h b hb) (hn b hb))) h.1
theorem IsGr.bound {w : World} {g : Nat} {F : Nat → Prop} {R : Eqs} {peak : Int} (h : IsGr w g F R peak) : IsGr w g (fun k => F k ∧ k < w.heap.size) R peak := by
  obtain ⟨O, ⟨hg, h⟩, h2⟩ := h
  refine ⟨O, ⟨⟨hg, ?_⟩, ?_⟩, h2⟩
  · rcases h with ⟨_, _, h5⟩ | ⟨r, o, RB, OB, _, _, h5, _⟩
    · exact blk_lt h5
    · exact blk_lt h5.cells
  · rcases h with h | ⟨r, o, RB, OB, h3, h4, h5, h6⟩
    · exact .inl h
    · exact .inr ⟨r, o, RB, OB, h3, h4, h5, fun k hk => ⟨h6 k hk, h5.lt k (List.mem_cons_of_mem _ hk)⟩⟩

/-- A block goes from some equations. -/
def cutAll (l : List Int) (b : Int) (R : Eqs) : Eqs := l.foldl (fun R e => cutR e b R) R
theorem cutAll_snoc (l : List Int) (e b : Int) (R : Eqs) : cutAll (l ++ [e]) b R = cutR e b (cutAll l b R) := by simp [cutAll]
theorem lkp_cutR {e b y : Int} {R : Eqs} : lkp y (cutR e b R) = if y = e then (lkp y R).map (·.filter (· != b)) else lkp y R := get_alter
theorem cutR_srt {e b : Int} {R : Eqs} (h : Srt R) : Srt (cutR e b R) := srt_alter h
theorem cutAll_srt {b : Int} : ∀ (l : List Int) {R : Eqs}, Srt R → Srt (cutAll l b R)
  | [], _, h => h
  | e :: l, _, h => cutAll_srt l (cutR_srt h)
theorem lkp_cutAll_not {b y : Int} : ∀ (l : List Int) {R : Eqs}, y ∉ l → lkp y (cutAll l b R) = lkp y R
  | [], _, _ => rfl
  | e :: l, R, h => by
    simp only [List.mem_cons, not_or] at h
    show lkp y (cutAll l b (cutR e b R)) = _
    rw [lkp_cutAll_not l h.2, lkp_cutR, if_neg h.1]
theorem lkp_cutAll_mem {b y : Int} : ∀ (l : List Int) {R : Eqs}, y ∈ l → lkp y (cutAll l b R) = (lkp y R).map (·.filter (· != b))
  | [], _, h => by simp at h
  | e :: l, R, h => by
    show lkp y (cutAll l b (cutR e b R)) = _
    by_cases h1 : y ∈ l
    · rw [lkp_cutAll_mem l h1, lkp_cutR]
      split
      · cases lkp y R <;> simp [List.filter_filter]
      · rfl
    · have : y = e := by
        rcases List.mem_cons.1 h with h | h
        · exact h
        · exact absurd h h1
      rw [lkp_cutAll_not l h1, lkp_cutR, if_pos this]
theorem srt_lkp_ext {α : Type} {m m' : List (Int × α)} (h : Srt m) (h' : Srt m') (he : ∀ x, lkp x m = lkp x m') : m = m' :=
  srt_ext h h' (fun q => by
    constructor
    · intro hq
      have := get_of_mem h (x := q.1) (v := q.2) hq
      rw [he] at this
      exact get_mem this
    · intro hq
      have := get_of_mem h' (x := q.1) (v := q.2) hq
      rw [← he] at this
      exact get_mem this)
theorem cutAll_all {b : Int} {R : Eqs} (hs : Srt R) : cutAll (ofR b R) b R = takeR b R := by
  refine srt_lkp_ext (cutAll_srt _ hs) (srt_mp.2 hs) (fun x => ?_)
  unfold takeR
  rw [get_mp]
  by_cases h : x ∈ ofR b R
  · exact lkp_cutAll_mem _ h
  · rw [lkp_cutAll_not _ h]
    cases hq : lkp x R with
    | none => rfl
    | some s =>
      have : b ∉ s := fun hb => h ((mem_ofR hs).2 ⟨s, hq, hb⟩)
      rw [Option.map_some, List.filter_eq_self.2 (fun y hy => by simp; rintro rfl; exact this hy)]
theorem total_cutAll_le {b : Int} : ∀ (l : List Int) (R : Eqs), total (cutAll l b R) ≤ total R
  | [], R => Nat.le_refl _
  | e :: l, R => by
    refine Nat.le_trans (total_cutAll_le l (cutR e b R)) ?_
    unfold total cutR alter
    induction R with
    | nil => simp
    | cons p r ih =>
      simp only [List.map_cons, List.sum_cons]
      have : (if p.1 = e then (p.1, p.2.filter (· != b)) else p).2.length ≤ p.2.length := by
        split
        · exact List.length_filter_le _ _
        · exact Nat.le_refl _
      simp only at this ih ⊢
      omega

theorem wrap_i {x : Int} {n : Nat} (h0 : 0 ≤ x) (h : x < (n : Int)) (hn : n ≤ 1099511627776) : wrap64 (x + 1) = x + 1 := by unfold wrap64; omega

section
variable (g : Nat) (F : Nat → Prop) (R : Eqs) (peak : Int) (w : World) (h : IsGr w g F R peak) (hsm : Sm R)
include h hsm
set_option maxHeartbeats 1000000
set_option maxRecDepth 100000
theorem take_gr (b : Int) : Calls Try.prog 26 #[.pointer (some ⟨g, 0, none⟩), .int .i64 b] w fun en w' => ∃ v : Value, en = .returned v ∧ (Kd.int .i64).R 3 w' w.heap.size (fun _ => True) v (ofR b R) ∧ IsGr w' g F (takeR b R) peak ∧ Fr w w' F := by
  obtain ⟨rq, oq, V⟩ := h.view
  have c0 := V.c1
  obtain ⟨q, l, hS⟩ := V.lookO b
  have HL := Aside0.mk (ofR_sm hsm b)
  have HK := Aside0.mk (keysS _ _ w hS HL.out)
  have HG := Aside0.mk h.bound
  have HSM := Aside0.mk hsm
  have HI := Aside0.mk h
  obtain ⟨ll, hll⟩ : ∃ ll, ll = ofR b R := ⟨_, rfl⟩
  rw [← hll] at HK HL ⊢
  have HLL := Aside0.mk hll
  clear V h hS hsm hll
  go_enter Try.func26, Try.ntmps26
  go_wp2_with (go_at_call 92; refine HK.out.mono ?_; rintro e1 w1 ⟨A, c, rfl, hR1, hB1⟩; have HR1 := Aside0.mk hR1; have HB1 := Aside0.mk hB1; clear hR1 hB1)
  go_loopg [17] ll.length (fun kq v wr => ∃ x : Int, v = .int .i64 x ∧ Aside0 (0 ≤ x) ∧ Aside0 (x ≤ ll.length) ∧ Aside0 ((kq : Int) = ll.length - x) ∧ Aside0 (IsGr wr g (fun k => F k ∧ k < w.heap.size) (cutAll (ll.take x.toNat) b R) peak) ∧ Aside0 ((Kd.int .i64).R 3 wr w.heap.size (fun _ => True) (.slice A ll.length c) ll) ∧ Aside0 (Fr w wr (fun k => F k ∧ k < w.heap.size)))
  case atStart => exact ⟨0, rfl, ⟨by omega⟩, ⟨by omega⟩, ⟨by omega⟩, ⟨HG.out.fr (Fr.of_below HB1.out) (fun k hk => by have := hk.2; omega)⟩, HR1, ⟨(Fr.refl w _).below HB1.out⟩⟩
  case round =>
    obtain ⟨x, rfl, H0, H1, HQ, HIx, HRx, HFx⟩ := hrel
    clear HR1 HB1
    by_cases hx : x < (ll.length : Int)
    · have HX := Aside0.mk hx
      obtain ⟨_, _, hC⟩ := Kd.R_reads' HRx.out
      obtain ⟨ad, he, hcell⟩ := Kd.at_int hC x H0.out hx
      subst he
      clear hC
      have p0 : (0 ≤ x) = True := eq_true H0.out
      have p1 := eq_true hx
      have HM := Aside0.mk (show rd ll x ∈ ll by unfold rd; rw [List.getD_eq_getElem?_getD, List.getElem?_eq_getElem (by have := H0.out; omega)]; exact List.getElem_mem _)
      have HN := Aside0.mk (show rd ll x ∉ ll.take x.toNat by
        have hs := ofR_sorted (b := b) HI.out.srt
        rw [← HLL.out] at hs
        have hlt : x.toNat < ll.length := by have := H0.out; omega
        unfold rd
        rw [List.getD_eq_getElem?_getD, List.getElem?_eq_getElem hlt]
        intro hm
        obtain ⟨j, hj, e⟩ := List.getElem_of_mem hm
        rw [List.getElem_take] at e
        have hj2 : j < x.toNat := by rw [List.length_take] at hj; omega
        have := List.pairwise_iff_getElem.1 hs j x.toNat (by omega) hlt hj2
        simp only [Option.getD_some] at e
        omega)
      have HT := Aside0.mk (show ll.take (x + 1).toNat = ll.take x.toNat ++ [rd ll x] by
        have hlt : x.toNat < ll.length := by have := H0.out; omega
        rw [show (x + 1).toNat = x.toNat + 1 by have := H0.out; omega, List.take_succ_eq_append_getElem hlt]
        unfold rd
        rw [List.getD_eq_getElem?_getD, List.getElem?_eq_getElem hlt]; rfl)
      obtain ⟨s, hs⟩ : ∃ s, lkp (rd ll x) R = some s ∧ b ∈ s := (mem_ofR HI.out.srt).1 (by rw [← HLL.out]; exact HM.out)
      have HC := Aside0.mk (cut_gr g _ _ peak wr HIx.out (rd ll x) b s (by rw [lkp_cutAll_not _ HN.out]; exact hs.1) hs.2 (by have := total_cutAll_le (ll.take x.toNat) R (b := b); have := HSM.out.1; omega))
      clear hs hx
      go_wp2_with (go_at_call 93; refine HC.out.mono ?_; rintro e2 w2 ⟨rfl, hG2, hF2⟩; have HG2 := Aside0.mk hG2; have HF2 := Aside0.mk hF2; clear hG2 hF2)
      go_roundg (ll.length - (x + 1)).toNat
      case measure => have := HQ.out; have := HX.out; have := H0.out; omega
      case rel =>
        refine ⟨x + 1, ?_, ⟨by have := H0.out; omega⟩, ⟨by have := HX.out; omega⟩, ⟨by have := HX.out; have := H0.out; omega⟩, ⟨by rw [HT.out, cutAll_snoc]; exact HG2.out⟩, ⟨R_fr HRx.out HF2.out (fun k hk hS => ?_)⟩, ⟨HFx.out.trans HF2.out (fun k hk => .inl hk)⟩⟩
        · exact congrArg (Value.int .i64) (wrap_i H0.out HX.out HL.out)
        · have := Kd.R_base HRx.out k hk
          have := hS.2
          omega
    · have hx2 : x = ll.length := by have := H1.out; omega
      have HX2 := Aside0.mk hx2
      clear hx2
      go_wp2
      go_ret
      refine ⟨_, rfl, HRx.out, ?_, HFx.out.mono (fun k hk => hk.1)⟩
      have h3 := HIx.out
      rw [HX2.out, show ((ll.length : Int)).toNat = ll.length by omega, List.take_length, HLL.out, cutAll_all HI.out.srt] at h3
      exact h3.mono (fun k hk => hk.1)
end
end Go.Proofs.Ythokppghpmkbaaa.Ed
