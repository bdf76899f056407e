/- edges.Graph: Drop. -/
import Derived.Test.YthokppghpmkbaaaGraphT
namespace Go.Proofs.Ythokppghpmkbaaa.Ed
open Go Go.RowKit Go.Proofs.Ythokppghpmkbaaa.Mi Go.Proofs.YthokppghpmkbaaaW.PrintWords Go.Proofs.YthokppghpmkbaaaW.PrintLast
set_option linter.unusedVariables false
set_option linter.unusedSimpArgs false

/-- Some blocks go from one equation. -/
def cutE (e : Int) (l : List Int) (R : Eqs) : Eqs := l.foldl (fun R b => cutR e b R) R
theorem cutE_snoc (e : Int) (l : List Int) (b : Int) (R : Eqs) : cutE e (l ++ [b]) R = cutR e b (cutE e l R) := by simp [cutE]
theorem lkp_cutE {e : Int} : ∀ (l : List Int) {R : Eqs} {s : List Int}, lkp e R = some s → lkp e (cutE e l R) = some (s.filter fun x => !l.contains x)
  | [], R, s, h => by rw [List.filter_eq_self.2 (fun x _ => by simp)]; exact h
  | b :: l, R, s, h => by
    show lkp e (cutE e l (cutR e b R)) = _
    rw [lkp_cutE l (s := s.filter (· != b)) (by rw [lkp_cutR, if_pos rfl, h]; rfl), List.filter_filter]
    congr 1
    refine List.filter_congr (fun x _ => ?_)
    by_cases h1 : x = b <;> simp [h1]
theorem cutE_srt {e : Int} : ∀ (l : List Int) {R : Eqs}, Srt R → Srt (cutE e l R)
  | [], _, h => h
  | b :: l, _, h => cutE_srt l (cutR_srt h)
theorem del_cutE {e : Int} : ∀ (l : List Int) {R : Eqs}, del e (cutE e l R) = del e R
  | [], _ => rfl
  | b :: l, R => by
    show del e (cutE e l (cutR e b R)) = _
    rw [del_cutE l]; exact del_alter
theorem total_cutE_le {e : Int} : ∀ (l : List Int) (R : Eqs), total (cutE e l R) ≤ total R
  | [], R => Nat.le_refl _
  | b :: l, R => Nat.le_trans (total_cutE_le l (cutR e b R)) (total_cutAll_le [e] R (b := b))
theorem total_del {e : Int} : ∀ {R : Eqs}, Srt R → lkp e R = some [] → total (del e R) = total R
  | [], _, h => by simp [lkp] at h
  | p :: r, hs, h => by
    obtain ⟨h1, h2⟩ := List.pairwise_cons.1 hs
    unfold lkp at h
    by_cases hp : p.1 = e
    · rw [if_pos hp] at h
      have hd : del e (p :: r) = r := by
        unfold del
        rw [List.filter_cons_of_neg (by simp [hp]), List.filter_eq_self]
        intro q hq
        have := h1 _ hq
        simp; omega
      rw [hd]
      unfold total
      rw [List.map_cons, List.sum_cons, Option.some.inj h]
      simp
    · rw [if_neg hp] at h
      have hd : del e (p :: r) = p :: del e r := by
        unfold del
        rw [List.filter_cons_of_pos (by simpa using hp)]
      have := total_del h2 h
      rw [hd]
      unfold total at this ⊢
      rw [List.map_cons, List.map_cons, List.sum_cons, List.sum_cons, this]
theorem ofR_del {e b : Int} {R : Eqs} (hs : Srt R) (h : lkp e R = some []) : ofR b (del e R) = ofR b R := by
  unfold ofR del
  rw [List.filter_filter]
  congr 1
  refine List.filter_congr (fun p hp => ?_)
  by_cases h1 : p.1 = e
  · have := get_of_mem hs (show (e, p.2) ∈ R by rw [← h1]; exact hp)
    rw [h] at this
    have h2 : p.2 = [] := (Option.some.inj this).symm
    rw [h2]; simp
  · simp [h1]

section
variable (g : Nat) (F : Nat → Prop) (R : Eqs) (peak : Int) (w : World) (h : IsGr w g F R peak)
include h
theorem drop_open {e : Int} (he : lkp e R = some []) : ∃ r m, w.cell? ⟨g, 0, none⟩ = some (.map (some r)) ∧ IMap w r m ∧ F r ∧ ∀ w1, w.grownBy w1 (some r) → IMap w1 r (del e m) → IsGr w1 g F (del e R) peak := by
  have hs := h.srt
  obtain ⟨r, o, RB, OB, rfl, h1, hF, hO⟩ := h.open_ (by rintro rfl; simp [lkp] at he)
  refine ⟨r, ptrs RB, (blk_cell h1.cells 0).trans rfl, h1.rmap, hF r (by simp), fun w1 hg hm => ?_⟩
  have h2 := h1.dropR hg hm
  rw [← sets_del]
  refine IsGr.mk_ (r := r) (o := o) (RB := del e RB) (OB := OB) ?_ ?_ ?_
  · rw [sets_del, total_del hs he]; exact h2
  · intro k hk
    refine hF k ?_
    simp only [List.mem_cons, List.mem_append] at hk ⊢
    rcases hk with hk | hk | hk | hk | hk
    · exact .inl hk
    · exact .inr (.inl hk)
    · exact .inr (.inr (.inl hk))
    · exact .inr (.inr (.inr (.inl (blks_del.subset hk))))
    · exact .inr (.inr (.inr (.inr hk)))
  · intro b
    rw [sets_del, ofR_del hs he]
    exact hO b
set_option maxHeartbeats 1000000
set_option maxRecDepth 100000
theorem drop_no (e : Int) (he : lkp e R = none) : Calls Try.prog 29 #[.pointer (some ⟨g, 0, none⟩), .int .i64 e] w fun en w' => en = .returned (.bool false) ∧ w = w' := by
  obtain ⟨rq, oq, V⟩ := h.view
  have c0 := V.c0
  obtain ⟨q, _, l, _⟩ := V.look e
  rw [he] at l
  simp only [Option.isSome_none] at l
  clear V h
  go_enter Try.func29, Try.ntmps29
  go_wp2
  go_ret
  exact ⟨rfl, rfl⟩
theorem drop_gr (hsm : Sm R) (e : Int) (s : List Int) (he : lkp e R = some s) : Calls Try.prog 29 #[.pointer (some ⟨g, 0, none⟩), .int .i64 e] w fun en w' => en = .returned (.bool true) ∧ IsGr w' g F (del e R) peak ∧ Fr w w' F := by
  obtain ⟨rq, oq, V⟩ := h.view
  have c0 := V.c0
  obtain ⟨q, l0, l, hS⟩ := V.look e
  have hr := rest_sm hsm e
  rw [he] at l hS hr
  simp only [Option.isSome_some, Option.getD_some] at l hS hr
  have HL := Aside0.mk hr
  have HK := Aside0.mk (keysS _ _ w hS hr)
  have HG := Aside0.mk h.bound
  have HSM := Aside0.mk hsm
  have HI := Aside0.mk h
  have HE := Aside0.mk he
  have HSS := Aside0.mk (show s.Pairwise (· < ·) from h.inner _ (get_mem he))
  clear V h hS hsm he hr
  go_enter Try.func29, Try.ntmps29
  go_wp2_with (go_at_call 92; refine HK.out.mono ?_; rintro e1 w1 ⟨A, c, rfl, hR1, hB1⟩; have HR1 := Aside0.mk hR1; have HB1 := Aside0.mk hB1; clear hR1 hB1)
  go_loopg [28] s.length (fun kq v wr => ∃ x : Int, v = .int .i64 x ∧ Aside0 (0 ≤ x) ∧ Aside0 (x ≤ s.length) ∧ Aside0 ((kq : Int) = s.length - x) ∧ Aside0 (IsGr wr g (fun k => F k ∧ k < w.heap.size) (cutE e (s.take x.toNat) R) peak) ∧ Aside0 ((Kd.int .i64).R 3 wr w.heap.size (fun _ => True) (.slice A s.length c) s) ∧ Aside0 (Fr w wr (fun k => F k ∧ k < w.heap.size)))
  case atStart => exact ⟨0, rfl, ⟨by omega⟩, ⟨by omega⟩, ⟨by omega⟩, ⟨HG.out.fr (Fr.of_below HB1.out) (fun k hk => by have := hk.2; omega)⟩, HR1, ⟨(Fr.refl w _).below HB1.out⟩⟩
  case round =>
    obtain ⟨x, rfl, H0, H1, HQ, HIx, HRx, HFx⟩ := hrel
    clear HR1 HB1
    by_cases hx : x < (s.length : Int)
    · have HX := Aside0.mk hx
      obtain ⟨_, _, hC⟩ := Kd.R_reads' HRx.out
      obtain ⟨ad, he, hcell⟩ := Kd.at_int hC x H0.out hx
      subst he
      clear hC
      have p0 : (0 ≤ x) = True := eq_true H0.out
      have p1 := eq_true hx
      have hlt : x.toNat < s.length := by have := H0.out; omega
      have HT := Aside0.mk (show s.take (x + 1).toNat = s.take x.toNat ++ [rd s x] by
        rw [show (x + 1).toNat = x.toNat + 1 by have := H0.out; omega, List.take_succ_eq_append_getElem hlt]
        unfold rd
        rw [List.getD_eq_getElem?_getD, List.getElem?_eq_getElem hlt]; rfl)
      have hmem : rd s x ∈ s.filter fun y => !(s.take x.toNat).contains y := by
        rw [List.mem_filter]
        refine ⟨by unfold rd; rw [List.getD_eq_getElem?_getD, List.getElem?_eq_getElem hlt]; exact List.getElem_mem _, ?_⟩
        simp only [Bool.not_eq_true', List.contains_eq_mem, decide_eq_false_iff_not]
        intro hm
        obtain ⟨j, hj, e⟩ := List.getElem_of_mem hm
        rw [List.getElem_take] at e
        have hj2 : j < x.toNat := by rw [List.length_take] at hj; omega
        have := List.pairwise_iff_getElem.1 HSS.out j x.toNat (by omega) hlt hj2
        unfold rd at e
        rw [List.getD_eq_getElem?_getD, List.getElem?_eq_getElem hlt] at e
        simp only [Option.getD_some] at e
        omega
      have HC := Aside0.mk (cut_gr g _ _ peak wr HIx.out e (rd s x) _ (lkp_cutE (s.take x.toNat) HE.out) hmem (by have := total_cutE_le (s.take x.toNat) R (e := e); have := HSM.out.1; omega))
      clear hx hmem hlt
      go_wp2_with (go_at_call 93; refine HC.out.mono ?_; rintro e2 w2 ⟨rfl, hG2, hF2⟩; have HG2 := Aside0.mk hG2; have HF2 := Aside0.mk hF2; clear hG2 hF2)
      go_roundg (s.length - (x + 1)).toNat
      case measure => have := HQ.out; have := HX.out; have := H0.out; omega
      case rel =>
        refine ⟨x + 1, ?_, ⟨by have := H0.out; omega⟩, ⟨by have := HX.out; omega⟩, ⟨by have := HX.out; have := H0.out; omega⟩, ⟨by rw [HT.out, cutE_snoc]; exact HG2.out⟩, ⟨R_fr HRx.out HF2.out (fun k hk hS => ?_)⟩, ⟨HFx.out.trans HF2.out (fun k hk => .inl hk)⟩⟩
        · exact congrArg (Value.int .i64) (wrap_i H0.out HX.out HL.out)
        · have := Kd.R_base HRx.out k hk
          have := hS.2
          omega
    · have hx2 : x = s.length := by have := H1.out; omega
      have h3 := HIx.out
      rw [hx2, show ((s.length : Int)).toNat = s.length by omega, List.take_length] at h3
      have he3 := lkp_cutE s HE.out
      rw [List.filter_eq_nil_iff.2 (by intro y hy; simp [hy])] at he3
      obtain ⟨r, m, d0, hm, hr, hD⟩ := drop_open g _ _ peak wr h3 he3
      have HM := Aside0.mk hm
      have HRr := Aside0.mk hr
      have HD := Aside0.mk hD
      clear hx2 h3 he3 hm hr hD c0
      go_wp2_with (at_delete; refine wpList_drop_I rfl (.tmp 40) (.tmp 41) rfl Try.underlying24 Try.underlying3 rfl HM.out e rfl ?_; intro w4 h4 hg4 hs4; have H4 := Aside0.mk (HD.out w4 hg4 h4); have HF4 := Aside0.mk (HFx.out.grown hg4 (fun k hk => by cases hk; exact .inl HRr.out)); clear h4 hg4 hs4)
      go_ret
      refine ⟨rfl, ?_, HF4.out.mono (fun k hk => hk.1)⟩
      have h5 := H4.out
      rw [del_cutE] at h5
      exact h5.mono (fun k hk => hk.1)
end
end Go.Proofs.Ythokppghpmkbaaa.Ed
