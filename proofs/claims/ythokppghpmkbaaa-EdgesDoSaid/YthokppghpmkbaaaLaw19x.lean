/- Layer 19's laws: whatever equations come and go (EdgesDo): the walk. -/
import Derived.Test.YthokppghpmkbaaaLaw19w
import Derived.Deep.DeepCutAuto
import Derived.Deep.DeepMust
import Derived.BigRegion
namespace Go.Proofs.Ythokppghpmkbaaa.Pl
open Go Go.RowKit Go.Proofs.Ythokppghpmkbaaa.Mi Go.Proofs.Ythokppghpmkbaaa.Ed Go.Proofs.Ythokppghpmkbaaa.PR Go.Proofs.YthokppghpmkbaaaW.PrintWords Go.Proofs.YthokppghpmkbaaaW.PrintLast
open Go.Proofs.YthokppghpmkbaaaW.PrintMore
set_option linter.unusedVariables false
set_option linter.unusedSimpArgs false
attribute [local go_sem] max2_int min2_int max_two min_two
set_option maxHeartbeats 4000000
set_option maxRecDepth 100000
theorem edgesDo_calls (w : World) (A0 : Option Addr) (c0 : Nat) (acts : List ActS) (b : Int) (h0 : Kd.C kAct w A0 acts.length acts) (hc0 : acts.length ≤ c0) :
    Calls Try.prog 3 #[.slice A0 acts.length c0, .int .i64 b] w fun e w' => e = .returned (.bool true) ∧ Below w.heap.size w w' := by
  have HR := Aside0.mk h0
  clear h0 hc0
  by_cases hlen : (acts.length : Int) > 150
  · go_enter Try.func3, Try.ntmps3
    go_wp2_with (go_at_call 20; refine (speaks_calls _).mono ?_; rintro e1 w1 ⟨rfl, hb1⟩)
    go_ret
    exact ⟨rfl, hb1⟩
  · have HN := Aside0.mk (show acts.length ≤ 150 by omega)
    go_enter Try.func3, Try.ntmps3
    go_wp2_with (go_at_call 20; refine (speaks_calls _).mono ?_; rintro e1 w1 ⟨rfl, hb1⟩; have HB1 := Aside0.mk hb1; clear hb1)
    have H1 : St w (w1.alloc gZero) w1.heap.size (fun k => k = w1.heap.size) (fun _ => False) [] [] 0 none 0 0 :=
      ⟨gr_new w1, Kd.F_nil _ _ _, Nat.le_refl _, Sim.nil, fun _ h => h.elim, fun k hk => by rw [hk]; exact HB1.out.size, below_alloc HB1.out _, by decide, by decide, by decide⟩
    have HS1 := Aside0.mk H1
    clear H1 hlen
    go_loopg [6, 7, 21] acts.length (fun kq v6 v7 v21 wr => ∃ (x : Int) (l : List Eqn) (R : Eqs) (peak : Int) (A : Option Addr) (c : Nat) (G P : Nat → Prop), v21 = .int .i64 x ∧ v6 = .slice A l.length c ∧ v7 = .int .i64 peak ∧ Aside0 (0 ≤ x) ∧ Aside0 (x ≤ acts.length) ∧ Aside0 ((kq : Int) = acts.length - x) ∧ Aside0 (St w wr w1.heap.size G P l R peak A c x.toNat))
    case atStart => exact ⟨0, [], [], 0, none, 0, _, _, rfl, rfl, rfl, ⟨by omega⟩, ⟨by omega⟩, ⟨by omega⟩, HS1⟩
    case round =>
      obtain ⟨x, l, R, peak, A, c, G, P, rfl, rfl, rfl, H0, HL, HQ, HS⟩ := hrel
      clear HS1
      by_cases hx : x < (acts.length : Int)
      · have HX := Aside0.mk hx
        have p0 : (0 ≤ x) = True := eq_true H0.out
        have p1 := eq_true hx
        obtain ⟨ad, A2, c2, hA, hx0, hx1, hx2, hl2, hi2⟩ := atAct HR.out x H0.out hx
        subst hA
        replace hx0 := (HS.out.bel.cell (World.block_lt_of_cell? w _ hx0)).trans hx0
        replace hx1 := (HS.out.bel.cell (World.block_lt_of_cell? w _ hx1)).trans hx1
        replace hx2 := (HS.out.bel.cell (World.block_lt_of_cell? w _ hx2)).trans hx2
        have HF := Aside0.mk (Kd.C_F (Kd.heap_int .i64) hi2)
        have HL2 := Aside0.mk hl2
        clear hi2 hl2
        go_upto_region 11 with fail
        generalize hE : rdAct acts x = E at *
        clear hx0 hx1 hx2 hE
        have k1 : (wr.alloc (Obj.cells #[Value.int IntKind.i64 E.f0, Value.int IntKind.i64 E.f1, Value.slice A2 E.f2.length c2] 30)).cell? ⟨wr.heap.size, 1, none⟩ = some (.int .i64 E.f1) := by go_simp
        have k0 : (wr.alloc (Obj.cells #[Value.int IntKind.i64 E.f0, Value.int IntKind.i64 E.f1, Value.slice A2 E.f2.length c2] 30)).cell? ⟨wr.heap.size, 0, none⟩ = some (.int .i64 E.f0) := by go_simp
        have k2 : (wr.alloc (Obj.cells #[Value.int IntKind.i64 E.f0, Value.int IntKind.i64 E.f1, Value.slice A2 E.f2.length c2] 30)).cell? ⟨wr.heap.size, 2, none⟩ = some (.slice A2 E.f2.length c2) := by go_simp
        obtain ⟨G', hG', P', hT'⟩ : ∃ G' : Nat → Prop, (∀ k, G' k → k < wr.heap.size) ∧ ∃ P' : Nat → Prop, St w (wr.alloc (Obj.cells #[Value.int IntKind.i64 E.f0, Value.int IntKind.i64 E.f1, Value.slice A2 E.f2.length c2] 30)) w1.heap.size G' P' l R peak A c x.toNat :=
          ⟨_, fun k hk => hk.2, _, HS.out.bnd.to (below_alloc (Below.refl _ _) _)⟩
        have HT := Aside0.mk hT'
        have HGb := Aside0.mk hG'
        clear hT' hG'
        have HZ := Aside0.mk (show wr.heap.size < (wr.alloc (Obj.cells #[Value.int IntKind.i64 E.f0, Value.int IntKind.i64 E.f1, Value.slice A2 E.f2.length c2] 30)).heap.size by simp)
        generalize (wr.alloc (Obj.cells #[Value.int IntKind.i64 E.f0, Value.int IntKind.i64 E.f1, Value.slice A2 E.f2.length c2] 30)) = W1 at *
        have HXn := Aside0.mk (show x.toNat ≤ 150 by have := HN.out; have := HX.out; have := H0.out; omega)
        have hsm := HT.out.sm HXn.out
        have HLB := Aside0.mk (HT.out.big HXn.out)
        by_cases h30 : (30 : Int) < (E.f2.length : Int)
        · go_wp2_with fail
          go_ret
          exact ⟨rfl, HT.out.bel⟩
        · have H30 := Aside0.mk (show E.f2.length ≤ 30 by omega)
          go_upto_block 2 with fail
          go_cut [6, 10, 11, 12, 13, 30] (fun v6 v10 v11 v12 v13 v30 w' => ∃ (l1 : List Eqn) (R1 : Eqs) (A1 : Option Addr) (c1 : Nat) (G1 P1 : Nat → Prop), v6 = .slice A1 l1.length c1 ∧ w'.cell? ⟨wr.heap.size, 1, none⟩ = some (.int .i64 E.f1) ∧ Aside0 (St w w' w1.heap.size G1 P1 l1 R1 (max peak (total R1)) A1 c1 (x.toNat + 1)))
          case first =>
            have HLe := Aside0.mk (fun (W : World) (hb : Below W1.heap.size W1 W) => (show W.cell? ⟨wr.heap.size, 1, none⟩ = some (.int .i64 E.f1) from (hb.cell (World.block_lt_of_cell? W1 _ k1)).trans k1))
            have HLf := Aside0.mk (fun (W : World) (hb : Below W1.heap.size W1 W) => (show W.cell? ⟨wr.heap.size, 2, none⟩ = some (.slice A2 E.f2.length c2) from (hb.cell (World.block_lt_of_cell? W1 _ k2)).trans k2))
            have HFr := Aside0.mk (fun (w2 w3 : World) (u : Value) (h : w2.cell? ⟨wr.heap.size, 1, none⟩ = some u) (hf : Fr w2 w3 G') => (show w3.cell? ⟨wr.heap.size, 1, none⟩ = some u from (World.cell?_of_block (hf.block wr.heap.size (World.block_lt_of_cell? w2 _ h) (fun hg => Nat.lt_irrefl _ (HGb.out _ hg)))).trans h))
            by_cases e0 : E.f0 = 0
            · have HC2 := Aside0.mk (fun (W : World) (hb : Below W1.heap.size W1 W) => Kd.F_below HF.out (below_step HT.out.bel hb))
              have h2b : E.f2.length ≤ BIG := by have := H30.out; unfold BIG; omega
              have HA := add_c W1 A c l P' HT.out.fp HT.out.le HLB.out E.f1 A2 c2 E.f2 (Kd.F_now (HC2.out W1 (Below.refl _ _))) HL2.out h2b
              cases hok : (addL l E.f1 E.f2).2 with
              | true =>
                obtain ⟨hn, hne, hsim⟩ := HT.out.sim.addL E.f1 E.f2 hok
                rw [hok] at HA
                have HA' := Aside0.mk HA
                have HAg := Aside0.mk (fun (W : World) (hb : Below W1.heap.size W1 W) => add_gr w1.heap.size G' R peak W (IsGr.bel HT.out.gr hb) E.f1 A2 c2 E.f2 hn hne (fun k => k < w.heap.size) (HC2.out W hb) (fun k hk hg => by have := HT.out.gG k hg; omega) h2b hsm.1)
                have HSi := Aside0.mk hsim
                have htot := total_ins (s := addS E.f2) HT.out.sim.srt hn
                have hal := addS_length_le E.f2
                have HTo := Aside0.mk htot
                have HAl := Aside0.mk hal
                have HNe := Aside0.mk (show (addL l E.f1 E.f2).1.length ≤ l.length + 1 by unfold Pl.addL; split <;> simp)
                clear HA hok hn hne hsim htot hal h2b
                go_wp2_with (first
                  | (go_at_call 21; refine HA'.out.mono ?_; rintro e2 w2 ⟨v2, rfl, hV2, hb2⟩; have HV2 := Aside0.mk hV2; have HB2 := Aside0.mk hb2; have d1 := HLe.out w2 hb2; have d2 := HLf.out w2 hb2; clear hV2 hb2)
                  | (go_at_call 22; refine (HAg.out _ HB2.out).mono ?_; rintro e3 w3 ⟨rfl, hI3, hF3⟩; have HI3 := Aside0.mk hI3; have HF3 := Aside0.mk hF3; have d3 := HFr.out _ _ _ d1 hF3; clear hI3 hF3))
                go_meet
                case rel =>
                  obtain ⟨A4, c4, G4, P4, rfl, hSt⟩ := HT.out.turn HV2.out HB2.out HI3.out HF3.out (fun k hk => .inl hk)
                    (fun k hk hlt hg => by
                      rcases hg with hg | hg
                      · rcases hk with hk | hk
                        · exact HT.out.dis k hk hg
                        · have := HGb.out k hg; have := HZ.out; omega
                      · omega)
                    (fun k hk => by
                      rcases hk with hk | hk
                      · exact HT.out.gG k hk
                      · exact Nat.le_trans HT.out.bel.size (Nat.le_trans HB2.out.size hk))
                    HSi.out (by rw [HTo.out]; push_cast; rfl)
                    (by rw [HTo.out]; have := HT.out.tot; have := HAl.out; have := H30.out; omega) (by have := HT.out.cnt; have := HNe.out; omega)
                  exact ⟨_, _, A4, c4, G4, P4, rfl, d3, ⟨hSt⟩⟩
              | false =>
                obtain ⟨hl1, hw⟩ := HT.out.sim.addN E.f1 E.f2 hok
                rw [hok, hl1] at HA
                have HA' := Aside0.mk HA
                have HAg : Aside0 (∀ (W : World) (hb : Below W1.heap.size W1 W), Calls Try.prog 22 #[.pointer (some ⟨w1.heap.size, 0, none⟩), .int .i64 E.f1, .slice A2 E.f2.length c2] W fun en w' => en = .returned (.bool false) ∧ W = w') := by
                  rcases hw with ⟨s, hs⟩ | hs
                  · exact ⟨fun W hb => add_there w1.heap.size G' R peak W (IsGr.bel HT.out.gr hb) E.f1 A2 c2 E.f2 s hs⟩
                  · rw [hs]
                    exact ⟨fun W hb => add_none w1.heap.size G' R peak W (IsGr.bel HT.out.gr hb) E.f1 A2 c2⟩
                clear HA hok hw hl1 h2b
                go_wp2_with (first
                  | (go_at_call 21; refine HA'.out.mono ?_; rintro e2 w2 ⟨v2, rfl, hV2, hb2⟩; have HV2 := Aside0.mk hV2; have HB2 := Aside0.mk hb2; have d1 := HLe.out w2 hb2; have d2 := HLf.out w2 hb2; clear hV2 hb2)
                  | (go_at_call 22; refine (HAg.out _ HB2.out).mono ?_; rintro e3 w3 ⟨rfl, rfl⟩))
                go_meet
                case rel =>
                  obtain ⟨A4, c4, G4, P4, rfl, hSt⟩ := HT.out.turn (G2 := G') HV2.out HB2.out (IsGr.bel HT.out.gr HB2.out) (Fr.refl _ G') (fun k hk => hk)
                    (fun k hk hlt hg => by
                      rcases hk with hk | hk
                      · exact HT.out.dis k hk hg
                      · have := HGb.out k hg; have := HZ.out; omega)
                    HT.out.gG HT.out.sim (by have := HT.out.pk; omega) (by have := HT.out.tot; omega) (by have := HT.out.cnt; omega)
                  exact ⟨_, _, A4, c4, G4, P4, rfl, d1, ⟨hSt⟩⟩
            by_cases e1 : E.f0 = 1
            · have HO := of_c W1 A c l (Kd.F_now HT.out.fp) HT.out.le HLB.out E.f1 (HT.out.rows HXn.out) HT.out.sim.nodup
              rw [HT.out.sim.of] at HO
              have HO' := Aside0.mk HO
              have HTk := Aside0.mk (fun (W : World) (hb : Below W1.heap.size W1 W) => take_c W A c l (Kd.F_now (Kd.F_below HT.out.fp hb)) HT.out.le HLB.out E.f1 (HT.out.rows HXn.out))
              have HTg := Aside0.mk (fun (W : World) (hb : Below W1.heap.size W1 W) => take_gr w1.heap.size G' R peak W (IsGr.bel HT.out.gr hb) hsm E.f1)
              have HOl := Aside0.mk (show (ofR E.f1 R).length ≤ BIG from ofR_sm hsm E.f1)
              clear HO
              go_wp2_with (first
                | (go_at_call 23; refine HO'.out.mono ?_; rintro e2 w2 ⟨v2, rfl, hR2, hb2⟩; have HR2 := Aside0.mk hR2; have HB2 := Aside0.mk hb2; have d2 := HLe.out w2 hb2; clear hR2 hb2)
                | (go_at_call 24; refine (HTk.out _ HB2.out).mono ?_; rintro e3 w3 ⟨v3, rfl, hV3, hb3⟩; have HV3 := Aside0.mk hV3; have HB3 := Aside0.mk (below_step HB2.out hb3); have HR3 := Aside0.mk (Kd.R_below HR2.out hb3); have d3 := HLe.out w3 HB3.out; clear hV3 hb3)
                | (go_at_call 26; refine (HTg.out _ HB3.out).mono ?_; rintro e4 w4 ⟨v4, rfl, hR4, hI4, hF4⟩; have HI4 := Aside0.mk hI4; have HF4 := Aside0.mk hF4; have d4 := HFr.out _ _ _ d3 hF4; have hR5 := R_fr HR3.out hF4 (fun k hk hg => by have h1 := Kd.R_base HR2.out k hk; have h2 := HGb.out k hg; have h3 := HZ.out; omega); obtain ⟨A6, c6, rfl, hl6, hc6⟩ := Kd.R_reads hR4; obtain ⟨A7, c7, hv7, hl7, hc7⟩ := Kd.R_reads hR5; subst hv7; have HL6 := Aside0.mk hl6; have HC6 := Aside0.mk hc6; have HL7 := Aside0.mk hl7; have HC7 := Aside0.mk hc7; clear hR4 hI4 hF4 hR5 hl6 hl7 hc6 hc7)
                | (go_at_call 25; refine (same_yes HC6.out HL6.out HC7.out HL7.out HOl.out rfl).mono ?_; rintro e5 w5 ⟨rfl, hb5⟩; have HB5 := Aside0.mk hb5; have d5 := (hb5.cell (World.block_lt_of_cell? w4 _ d4)).trans d4; clear hb5))
              go_meet
              case rel =>
                have hle := take_total_le (b := E.f1) (R := R)
                obtain ⟨A8, c8, G8, P8, rfl, hSt⟩ := HT.out.turn (P2 := fun k => W1.heap.size ≤ k) (Kd.V_mono HV3.out (fun k hk => Nat.le_trans HB2.out.size hk.1)) HB3.out HI4.out HF4.out (fun k hk => hk)
                  (fun k hk hlt hg => by have := HGb.out k hg; have := HZ.out; omega)
                  HT.out.gG (HT.out.sim.take E.f1) (by have := HT.out.pk; omega) (by have := HT.out.tot; omega) (by have := HT.out.cnt; unfold takeL; rw [List.length_map]; omega)
                exact ⟨_, _, A8, c8, G8, P8, rfl, d5, ⟨hSt.to HB5.out⟩⟩
            by_cases e2 : E.f0 = 2
            · have HFi := Aside0.mk (find_c W1 A c l (Kd.F_now HT.out.fp) HT.out.le HLB.out E.f1)
              have HDr := Aside0.mk (fun (W : World) (hb : Below W1.heap.size W1 W) => drop_c W A c l P' (Kd.F_below HT.out.fp hb) HT.out.le HLB.out E.f1)
              have hsi := HT.out.sim.find E.f1
              have hdl : (dropL l E.f1).length ≤ l.length := List.length_filter_le _ _
              have HDl := Aside0.mk hdl
              clear hdl
              cases hlk : lkp E.f1 R with
              | none =>
                rw [hlk] at hsi
                have hneg : ¬ (0 ≤ findI l E.f1) := fun h => by simpa using hsi.1 h
                have HDg := Aside0.mk (fun (W : World) (hb : Below W1.heap.size W1 W) => drop_no w1.heap.size G' R peak W (IsGr.bel HT.out.gr hb) E.f1 hlk)
                have HLk := Aside0.mk hlk
                clear hsi hlk
                go_wp2_with (first
                  | (go_at_call 27; refine HFi.out.mono ?_; rintro e2 w2 ⟨rfl, hb2⟩; have HB2 := Aside0.mk hb2; have d2 := HLe.out w2 hb2; clear hb2)
                  | (go_at_call 28; refine (HDr.out _ HB2.out).mono ?_; rintro e3 w3 ⟨v3, rfl, hV3, hb3⟩; have HV3 := Aside0.mk hV3; have HB3 := Aside0.mk (below_step HB2.out hb3); have d3 := HLe.out w3 HB3.out; clear hV3 hb3)
                  | (go_at_call 29; refine (HDg.out _ HB3.out).mono ?_; rintro e4 w4 ⟨rfl, rfl⟩))
                go_meet
                case rel =>
                  have hdel : del E.f1 R = R := List.filter_eq_self.2 (fun p hp => by simpa using get_none.1 HLk.out p hp)
                  obtain ⟨A8, c8, G8, P8, rfl, hSt⟩ := HT.out.turn (G2 := G') HV3.out HB3.out (IsGr.bel HT.out.gr HB3.out) (Fr.refl _ G') (fun k hk => hk)
                    (fun k hk hlt hg => by
                      rcases hk with hk | hk
                      · exact HT.out.dis k hk hg
                      · have := HGb.out k hg; have := HZ.out; have := HB2.out.size; omega)
                    HT.out.gG (hdel ▸ HT.out.sim.drop E.f1) (by have := HT.out.pk; omega) (by have := HT.out.tot; omega) (by have := HT.out.cnt; have := HDl.out; omega)
                  exact ⟨_, _, A8, c8, G8, P8, rfl, d3, ⟨hSt⟩⟩
              | some s =>
                rw [hlk] at hsi
                have hpos : 0 ≤ findI l E.f1 := hsi.2 rfl
                have HDg := Aside0.mk (fun (W : World) (hb : Below W1.heap.size W1 W) => drop_gr w1.heap.size G' R peak W (IsGr.bel HT.out.gr hb) hsm E.f1 s hlk)
                clear hsi hlk
                go_wp2_with (first
                  | (go_at_call 27; refine HFi.out.mono ?_; rintro e2 w2 ⟨rfl, hb2⟩; have HB2 := Aside0.mk hb2; have d2 := HLe.out w2 hb2; clear hb2)
                  | (go_at_call 28; refine (HDr.out _ HB2.out).mono ?_; rintro e3 w3 ⟨v3, rfl, hV3, hb3⟩; have HV3 := Aside0.mk hV3; have HB3 := Aside0.mk (below_step HB2.out hb3); have d3 := HLe.out w3 HB3.out; clear hV3 hb3)
                  | (go_at_call 29; refine (HDg.out _ HB3.out).mono ?_; rintro e4 w4 ⟨rfl, hI4, hF4⟩; have HI4 := Aside0.mk hI4; have HF4 := Aside0.mk hF4; have d4 := HFr.out _ _ _ d3 hF4; clear hI4 hF4))
                go_meet
                case rel =>
                  have hle := del_total_le (n := E.f1) (R := R)
                  obtain ⟨A8, c8, G8, P8, rfl, hSt⟩ := HT.out.turn HV3.out HB3.out HI4.out HF4.out (fun k hk => hk)
                    (fun k hk hlt hg => by
                      rcases hk with hk | hk
                      · exact HT.out.dis k hk hg
                      · have := HGb.out k hg; have := HZ.out; have := HB2.out.size; omega)
                    HT.out.gG (HT.out.sim.drop E.f1) (by have := HT.out.pk; omega) (by have := HT.out.tot; omega) (by have := HT.out.cnt; have := HDl.out; omega)
                  exact ⟨_, _, A8, c8, G8, P8, rfl, d4, ⟨hSt⟩⟩
            · go_wp2_with fail
              go_meet
              case rel => exact ⟨l, R, A, c, G', P', rfl, k1, ⟨HT.out.next⟩⟩
          case rest =>
            obtain ⟨l1, R1, A1, c1, G1, P1, rfl, k9, HS1⟩ := hcut
            have hS1 := HS1.out
            rw [max_if] at hS1
            replace HS1 := Aside0.mk hS1
            clear hS1
            have HXm := Aside0.mk (show x.toNat + 1 ≤ 150 by have := HN.out; have := HX.out; have := H0.out; omega)
            have hsm1 := HS1.out.sm HXm.out
            have hbig := HS1.out.big HXm.out
            have htot := HS1.out.sim.total
            clear HT HZ HGb k0 k1 k2 hsm HS
            have HEd := Aside0.mk (edges_c wc A1 c1 l1 (Kd.F_now HS1.out.fp) HS1.out.le hbig (by rw [htot]; exact hsm1.1))
            go_upto_region 30 with (go_at_call 30; refine HEd.out.mono ?_; rintro e2 w2 ⟨rfl, hb2⟩; rw [htot]; have HS2 := Aside0.mk (HS1.out.to hb2); have d2 := (hb2.cell (World.block_lt_of_cell? wc _ k9)).trans k9; clear hb2 k9)
            generalize (if peak < (total R1 : Int) then (total R1 : Int) else peak) = pk at *
            have HSm := Aside0.mk (fun (W : World) (h : One w2 ⟨wr.heap.size, 1, none⟩ (.int .i64 E.f1) W) => same_calls W w1.heap.size G1 R1 _ (IsGr.bel HS2.out.gr h.2) hsm1 A1 c1 l1 (Kd.F_now (Kd.F_below HS2.out.fp h.2)) HS2.out.le HS2.out.sim)
            have HHa := Aside0.mk (fun (W : World) (h : One w2 ⟨wr.heap.size, 1, none⟩ (.int .i64 E.f1) W) => has_gr w1.heap.size G1 R1 _ W (IsGr.bel HS2.out.gr h.2) E.f1)
            have HFi := Aside0.mk (fun (W : World) (h : One w2 ⟨wr.heap.size, 1, none⟩ (.int .i64 E.f1) W) => find_c W A1 c1 l1 (Kd.F_now (Kd.F_below HS2.out.fp h.2)) HS2.out.le hbig E.f1)
            have HOg := Aside0.mk (fun (W : World) (h : One w2 ⟨wr.heap.size, 1, none⟩ (.int .i64 E.f1) W) => of_gr w1.heap.size G1 R1 _ W (IsGr.bel HS2.out.gr h.2) hsm1 b)
            have hOl := fun (W : World) (h : One w2 ⟨wr.heap.size, 1, none⟩ (.int .i64 E.f1) W) => of_c W A1 c1 l1 (Kd.F_now (Kd.F_below HS2.out.fp h.2)) HS2.out.le hbig b (HS2.out.rows HXm.out) HS2.out.sim.nodup
            rw [HS2.out.sim.of] at hOl
            have HOl := Aside0.mk hOl
            have HLn := Aside0.mk (show (ofR b R1).length ≤ BIG from ofR_sm hsm1 b)
            have HSt := Aside0.mk (fun (wa wb : World) (h : One w2 ⟨wr.heap.size, 1, none⟩ (.int .i64 E.f1) wa) (hb : Below wa.heap.size wa wb) => h.step hb)
            have hsi := HS2.out.sim.find E.f1
            have q2 : Below w2.heap.size w2 w2.drew := below_drew (Below.refl _ _)
            clear hOl hbig htot HEd HS1 hsm1
            cases hlk : (lkp E.f1 R1).isSome
            all_goals
              rw [hlk] at hsi HHa
              first
                | have hpos : 0 ≤ findI l1 E.f1 := hsi.2 rfl
                | have hneg : decide (0 ≤ findI l1 E.f1) = false := decide_eq_false (fun h => by simpa using hsi.1 h)
              clear hsi
              go_region_held3 (fun w' => w'.cell? ⟨wr.heap.size, 1, none⟩ = some (.int .i64 E.f1) ∧ Below w2.heap.size w2 w')
                (first | exact ⟨d2, q2⟩ | assumption | (exact HSt.out _ _ (by assumption) (by assumption)))
                (first
                  | (go_at_call 31; refine (HSm.out _ (by assumption)).mono ?_; rintro e w3 ⟨rfl, hb3⟩)
                  | (go_at_call 32; refine (HHa.out _ (by assumption)).mono ?_; rintro e w' ⟨rfl, rfl⟩)
                  | (go_at_call 27; refine (HFi.out _ (by assumption)).mono ?_; rintro e w4 ⟨rfl, hb4⟩)
                  | (go_at_call 33; refine (HOg.out _ (by assumption)).mono ?_; rintro e w5 ⟨v5, rfl, hr5, hb5⟩; obtain ⟨A5, c5, rfl, hl5, hc5⟩ := Kd.R_reads hr5)
                  | (go_at_call 23; refine (HOl.out _ (by assumption)).mono ?_; rintro e w6 ⟨v6, rfl, hr6, hb6⟩; obtain ⟨A6, c6, rfl, hl6, hc6⟩ := Kd.R_reads hr6; have hc7 := Kd.C_below hc5 hb6)
                  | (go_at_call 25; refine (same_yes hc7 hl5 hc6 hl6 HLn.out rfl).mono ?_; rintro e w7 ⟨rfl, hb7⟩))
              have HBe := Aside0.mk (show Below w2.heap.size w2 w7 from And.right (by assumption))
              go_wp2_with fail
              go_roundg (acts.length - (x + 1)).toNat
              case measure => have := HQ.out; have := HX.out; have := H0.out; omega
              case rel => exact ⟨x + 1, l1, R1, _, A1, c1, G1, P1, congrArg (Value.int .i64) (wrap_i H0.out HX.out (by have := HN.out; omega)), rfl, rfl, ⟨by have := H0.out; omega⟩, ⟨by have := HX.out; omega⟩, ⟨by have := HX.out; have := H0.out; omega⟩, ⟨by rw [show (x + 1).toNat = x.toNat + 1 by have := H0.out; omega]; exact HS2.out.to HBe.out⟩⟩
      · go_wp2
        go_ret
        exact ⟨rfl, HS.out.bel⟩
end Go.Proofs.Ythokppghpmkbaaa.Pl
