/- The row of EdgesDo: for every input the law answers true, and its arguments read as they did; no condition. -/
import Derived.Test.YthokppghpmkbaaaRows
import Derived.Test.YthokppghpmkbaaaLaw19o
import Derived.Test.YthokppghpmkbaaaOpen
import Derived.Test.YthokppghpmkbaaaJA
import Derived.Test.YthokppghpmkbaaaJB
import Derived.Test.YthokppghpmkbaaaJC
import Derived.Test.YthokppghpmkbaaaJD
import Derived.WalkKit
import Derived.ProofKit
import Derived.OpenShut
import Derived.ShutString
import Derived.ChangeOld
import Derived.Below
import Derived.SizedLaws
namespace Go.Proofs.Ythokppghpmkbaaa.edgesDo
open Go.ChangeShapes Go.WideShapes Go.ChangeAt Go.RowKit
open Go.ChangeMaps (open_string shut_string)
set_option linter.unusedVariables false
theorem own : ownKnob Try.prog.godebug = none := by kernel_rfl
set_option maxRecDepth 100000 in
theorem lifted (os : Os) (started : os.Started) (H : Type) (enc : TypeId × Value → H) :
    ReturnsInHanded {} Try.checked os 3 .any (Rows.edgesDoSpec.pre6 enc Try.prog Try.f3 Rows.edgesDoRow.domain false) (Rows.edgesDoSpec.post enc Try.prog Try.f3 false true false false) := by
  refine returnsInHanded_of_change_sized (C := Try.checked) own started (by kernel_rfl) Try.func3
    (ChangeSpec.witness6 (enc := enc) (C := Try.checked) false ⟨#[], #[.slice none 0 0, .int .i64 0], []⟩ 8 (by kernel_rfl) (by kernel_rfl) (by kernel_rfl) (by kernel_rfl)) ?_
  intro W base args ds gs before hval0 hW hcnd hsz0 _
  have hsz : (DataW.weightsEach Try.prog (Try.f3.params.toList ++ Rows.edgesDoSpec.plain.varTypes Try.prog) (ds ++ gs)).all (· ≤ reachBytes) = true := hsz0
  have hval : ∀ (j : Nat) t v, Try.f3.params[j]? = some t → args[j]? = some v → Value.okWide Try.prog W .any base t v := hval0
  have hW' := hW
  obtain ⟨p, q, hA0, hV, rfl, hfz, hnd⟩ := hW
  have hA : DataW.TrodAll enc Try.prog W 0 (fun _ => true) true Try.f3.params.toList args.toList ds p := hA0
  rw [Try.params3] at hA hval hsz
  obtain ⟨v0, vs0, d0, ds0, p0, q0, hargs, rfl, rfl, h0, r0⟩ := trodAll_cons hA
  obtain ⟨v1, vs1, d1, ds1, p1, q1, rfl, rfl, rfl, h1, r1⟩ := trodAll_cons r0
  obtain ⟨rfl, rfl, rfl⟩ := trodAll_nil r1
  obtain rfl : args = #[v0, v1] := by cases args; simp_all
  obtain ⟨rfl, rfl⟩ := trodVars_none hV
  obtain ⟨a0, len0, cap0, rfl⟩ := okWide_slice Try.underlying22 (hval 0 22 v0 rfl rfl)
  have k0 := h0
  have lt0 : ∀ x ∈ p0, x.block < W.heap.size := by obtain ⟨m, hm⟩ := k0; exact DataW.trod_lt m _ _ _ hm
  obtain ⟨l0, rfl, le0, C0, g0⟩ := Op.Opn.arg Try.underlying22 Pl.openActs h0
  obtain ⟨a1, rfl, rfl, rfl, w1⟩ := open_int Try.underlying3 (hval 1 3 v1 rfl rfl) h1
  clear hA0 hval0 hsz0 hsz
  refine (Pl.edgesDo_walk W a0 cap0 l0 C0 le0 g0 a1 w1).mono fun e W' ⟨he, bel⟩ => ?_
  subst he
  exact ⟨_, rfl, _, _, _, [], _, [], hW', trodAll_mk1 (shut_bool Try.underlying4 _), (trodAll_cons_mk (Below.trod Jn.laidOut (by kernel_rfl) (of_decide_eq_true (by kernel_rfl)) k0 bel lt0) (trodAll_cons_mk (shut_int Try.underlying3 w1) trodAll_mk0)), rfl, bel.frame _, fun h => by cases h⟩
theorem fact0 : (Rows.edgesDoRow.wf (OpenSpec.ofChange Rows.edgesDoSpec)) = true := by kernel_rfl
theorem fact3 : (Try.f3.params.all (Try.pinned.checked.prog.readableRec ·)) = true := by kernel_rfl
theorem fact4 : (namedTie Try.pinned.checked.prog Rows.edgesDoRow.named Rows.edgesDoSpec.vars) = true := by kernel_rfl
theorem fact5 : ((Rows.edgesDoRow.stops == [])) = true := by kernel_rfl
theorem fact7 : ((Rows.edgesDoRow.knobs == [])) = true := by kernel_rfl
theorem fact9 : ((Rows.edgesDoRow.inPlace == Try.pinned.checked.prog.inPlace 3)) = true := by kernel_rfl
theorem fact10 : ((Rows.edgesDoRow.unfollowed == Try.pinned.checked.prog.unfollowed 3)) = true := by kernel_rfl
theorem fact11 : ((Rows.edgesDoRow.recurses == Try.pinned.checked.prog.recurses 3)) = true := by kernel_rfl
theorem fact12 : ((Rows.edgesDoRow.named == Try.pinned.checked.prog.varsNamed 3)) = true := by kernel_rfl
theorem fact13 : ((Rows.edgesDoRow.maps == (Try.f3.params.toList ++ Rows.edgesDoSpec.plain.varTypes Try.pinned.checked.prog).any (Try.pinned.checked.prog.mapsRec ·))) = true := by kernel_rfl
theorem fact14 : ((Rows.edgesDoRow.ifaces == (Try.f3.params.toList ++ Rows.edgesDoSpec.plain.varTypes Try.pinned.checked.prog).any (Try.pinned.checked.prog.ifacesRec ·))) = true := by kernel_rfl
theorem fact15 : ((Rows.edgesDoRow.mapsOut == Try.pinned.checked.prog.mapsAmong Try.f3.resultTypes.toList)) = true := by kernel_rfl
theorem fact16 : ((Rows.edgesDoRow.loops == (Try.f3.params.toList ++ Rows.edgesDoSpec.plain.varTypes Try.pinned.checked.prog).any (Try.pinned.checked.prog.loopsFrom ·))) = true := by kernel_rfl
theorem fact17 : ((Rows.edgesDoRow.wideKeys == (Try.f3.params.toList ++ Rows.edgesDoSpec.plain.varTypes Try.pinned.checked.prog ++ Try.f3.resultTypes.toList).any (Try.pinned.checked.prog.wideKeysFrom ·))) = true := by kernel_rfl
theorem fact18 : (Rows.edgesDoSpec.vars.all (Try.pinned.checked.prog.varReadable ·)) = true := by kernel_rfl
theorem fact19 : (Try.f3.resultTypes.all (fun t => Try.pinned.checked.prog.readableRec t && decide (t < Try.pinned.checked.prog.types.size))) = true := by kernel_rfl
theorem fact20 : ((Rows.edgesDoRow.ifacesOut == Try.f3.resultTypes.toList.any (Try.pinned.checked.prog.ifacesRec ·))) = true := by kernel_rfl
theorem fact21 : ((Rows.edgesDoRow.loopsOut == Try.f3.resultTypes.toList.any (Try.pinned.checked.prog.loopsFrom ·))) = true := by kernel_rfl
theorem fact23 : (Rows.edgesDoRow.shortTexts.isNone) = true := by kernel_rfl
theorem fact28 : ((Rows.edgesDoRow.kinds == (if Rows.edgesDoRow.domain.isEmpty then [] else Try.f3.params.toList.map fun t => match Try.pinned.checked.prog.underlying t with | some (.int k) => some k | _ => none))) = true := by kernel_rfl
theorem fact29 : ((Rows.edgesDoRow.pinned == Rows.edgesDoRow.pinnedBy)) = true := by kernel_rfl
theorem fact30 : ((Rows.edgesDoRow.veiled == (Try.f3.params.toList ++ Rows.edgesDoSpec.plain.varTypes Try.pinned.checked.prog ++ Try.f3.resultTypes.toList).any (Try.pinned.checked.prog.veiledRec ·))) = true := by kernel_rfl
theorem fact31 : (Rows.edgesDoRow.veiledFits Try.pinned.checked.prog Try.f3.params.toList (Try.f3.params.toList ++ Rows.edgesDoSpec.plain.varTypes Try.pinned.checked.prog ++ Try.f3.resultTypes.toList)) = true := by kernel_rfl
theorem named_ : Try.pinned.checked.prog.funcNamed Rows.edgesDoRow.func = some 3 := by kernel_rfl
set_option maxRecDepth 100000 in
theorem joined : joinedFacts Try.pinned.checked.prog 3 Try.f3 Rows.edgesDoSpec Rows.edgesDoRow = true := (Jn.andT (Jn.andT (Jn.andT (Jn.andT (Jn.andT (Jn.andT (Jn.andT (Jn.andT (Jn.andT (Jn.andT (Jn.andT (Jn.andT (Jn.andT (Jn.andT (Jn.andT (Jn.andT (Jn.andT (Jn.andT (Jn.andT (Jn.andT (Jn.andT (Jn.andT (Jn.andT (Jn.andT (Jn.andT (Jn.andT (Jn.andT (Jn.andT (Jn.andT (Jn.andT (Jn.andT fact0 Jn.laidOut) Jn.mapsRowed_) fact3) fact4) fact5) Jn.stops) fact7) Jn.stopKnobs) fact9) fact10) fact11) fact12) fact13) fact14) fact15) fact16) fact17) fact18) fact19) fact20) fact21) Jn.plainKeys) fact23) Jn.stopsHeard) Jn.mayEnter) Jn.lifted) Jn.make) fact28) fact29) fact30) fact31)
theorem inst : Try.f3.isInstance Try.pinned.checked.prog Rows.edgesDoRow.origin Rows.edgesDoRow.targs := of_decide_eq_true (by kernel_rfl)
theorem wrap : Try.f3.isWrapper Try.pinned.checked.prog Rows.edgesDoRow.wrapper Rows.edgesDoRow.mainSum := by unfold Func.isWrapper; first | (rw [if_pos (by decide +kernel)]; kernel_rfl) | (rw [if_neg (by decide +kernel)]; exact ⟨rfl, rfl⟩)
theorem over : Rows.edgesDoRow.holds Try.pinned (OpenSpec.ofChange Rows.edgesDoSpec) :=
  OpenClaim.holds_of_wide 3 Try.f3 rfl rfl rfl rfl rfl rfl rfl ⟨rfl, rfl, rfl, rfl, rfl⟩ rfl rfl rfl rfl rfl named_ Try.func3 joined inst wrap
    (fun os started H enc _ => lifted os started H enc)
theorem proved : Rows.EdgesDoSaid := over
#print axioms proved
end Go.Proofs.Ythokppghpmkbaaa.edgesDo
namespace Go.Proofs.Ythokppghpmkbaaa
/-- The row, under a short name, for the claim. -/
theorem edgesDo_holds : Rows.EdgesDoSaid := edgesDo.proved
end Go.Proofs.Ythokppghpmkbaaa
