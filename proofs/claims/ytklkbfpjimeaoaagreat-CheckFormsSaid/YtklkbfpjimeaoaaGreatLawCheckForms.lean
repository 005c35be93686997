import Derived.Test.YtklkbfpjimeaoaaGreatRows
import Derived.Test.YtklkbfpjimeaoaaGreatM8
import Derived.Test.YtklkbfpjimeaoaaGreatM17
import Derived.Test.YtklkbfpjimeaoaaGreatM24
import Derived.Test.YtklkbfpjimeaoaaGreatM28
import Derived.WalkKit
import Derived.ProofKit
import Derived.OpenShut
import Derived.ShutString
import Derived.ChangeOld
import Derived.Below
import Derived.Carry
import Derived.SizedLaws
/- Contracts of functions. Conditions: none. -/
set_option linter.unusedSimpArgs false
set_option linter.unusedVariables false
namespace Go.Proofs.YtklkbfpjimeaoaaGreat.checkForms
open Go.ChangeShapes Go.WideShapes Go.ChangeAt Go.RowKit Go.Proofs.YtklkbfpjimeaoaaGreat.E
open Go.ChangeMaps (open_string shut_string)
theorem own : ownKnob Tryz.prog.godebug = none := by kernel_rfl
theorem laidOut : laidOutB Tryz.prog = true := by kernel_rfl
def types : List TypeId := [25, 22, 23, 27, 3, 9, 81, 79, 102, 4]
theorem closed : closedT Tryz.prog types = true := by kernel_rfl
set_option maxRecDepth 100000 in
theorem lifted (os : Os) (started : os.Started) (H : Type) (enc : TypeId × Value → H) :
 ReturnsInHanded {} Tryz.checked os 4 .any (Rows.checkFormsSpec.pre6 enc Tryz.prog Tryz.f4 Rows.checkFormsRow.domain false) (Rows.checkFormsSpec.post enc Tryz.prog Tryz.f4 false true false false) := by
 refine returnsInHanded_of_change_sized (C := Tryz.checked) own started (by kernel_rfl) Tryz.func4
  (ChangeSpec.witness6 (enc := enc) (C := Tryz.checked) false ⟨#[], #[.agg #[.slice none 0 0, .slice none 0 0], .agg #[.int .i64 0, .string ByteArray.empty, .int .i64 0, .slice none 0 0]], []⟩ 8 (by kernel_rfl) (by kernel_rfl) (by kernel_rfl) (by kernel_rfl)) ?_
 intro W base args ds gs before hval0 hW hcnd hsz0 _
 have hsz : (DataW.weightsEach Tryz.prog (Tryz.f4.params.toList ++ Rows.checkFormsSpec.plain.varTypes Tryz.prog) (ds ++ gs)).all (· ≤ reachBytes) = true := hsz0
 have hval : ∀ (j : Nat) t v, Tryz.f4.params[j]? = some t → args[j]? = some v → Value.okWide Tryz.prog W .any base t v := hval0
 have hW' := hW
 obtain ⟨p, q, hA0, hV, rfl, hfz, hnd⟩ := hW
 have hA : DataW.TrodAll enc Tryz.prog W 0 (fun _ => true) true Tryz.f4.params.toList args.toList ds p := hA0
 rw [Tryz.params4] at hA hval hsz
 obtain ⟨v0, vs0, d0, ds0, p0, q0, hargs, rfl, rfl, h0, r0⟩ := trodAll_cons hA
 obtain ⟨v1, vs1, d1, ds1, p1, q1, rfl, rfl, rfl, h1, r1⟩ := trodAll_cons r0
 obtain ⟨rfl, rfl, rfl⟩ := trodAll_nil r1
 obtain rfl : args = #[v0, v1] := by cases args; simp_all
 obtain ⟨rfl, rfl⟩ := trodVars_none hV
 obtain ⟨a0, rfl, sz0⟩ := okWide_struct u25 (hval 0 25 v0 rfl rfl)
 have k0 := h0
 have lt0 : ∀ x ∈ p0, x.block < W.heap.size := by obtain ⟨m, hm⟩ := k0; exact DataW.trod_lt m _ _ _ hm
 have w0 : ∀ n ∈ d0.weights Tryz.prog 25, n ≤ reachBytes := fun n hn => oR (List.all_eq_true.1 hsz n (DataW.weights_mem_each (j := 0) (t := 25) rfl rfl n hn))
 obtain ⟨a1, rfl, sz1⟩ := okWide_struct u27 (hval 1 27 v1 rfl rfl)
 have k1 := h1
 have lt1 : ∀ x ∈ p1, x.block < W.heap.size := by obtain ⟨m, hm⟩ := k1; exact DataW.trod_lt m _ _ _ hm
 have w1 : ∀ n ∈ d1.weights Tryz.prog 27, n ≤ reachBytes := fun n hn => oR (List.all_eq_true.1 hsz n (DataW.weights_mem_each (j := 1) (t := 27) rfl rfl n hn))
 clear hA0 hval0 hsz0 hsz
 obtain ⟨ns0, nd0, rd0⟩ := arg_agg closed (by decide) k0 w0
 obtain ⟨p0p, hok0, ht0⟩ := prog_of nd0
 rw [ht0] at rd0
 obtain ⟨ns1, nd1, rd1⟩ := arg_agg closed (by decide) k1 w1
 obtain ⟨t, hok, ht1⟩ := node_of nd1
 rw [ht1] at rd1
 have hwalk := E.Pure.row (c4 p0p t hok0 hok).2 W #[.agg a0, .agg a1] rfl (fun i d v hd hv => by
  match i with
  | 0 => simp at hd hv; subst hd; subst hv; exact rd0
  | 1 => simp at hd hv; subst hd; subst hv; exact rd1
  | i + 2 => simp at hd)
 refine hwalk.mono fun e W' ⟨he, bel⟩ => ?_
 subst he
 exact ⟨_, rfl, _, _, _, [], _, [], hW', trodAll_mk1 (shut_bool u4 _), (trodAll_cons_mk (Below.trod laidOut (by kernel_rfl) (oR (by kernel_rfl)) k0 bel lt0) (trodAll_cons_mk (Below.trod laidOut (by kernel_rfl) (oR (by kernel_rfl)) k1 bel lt1) trodAll_mk0)), rfl, bel.frame _, fun h => by cases h⟩
theorem band {a b : Bool} (h : a = true) (h' : b = true) : (a && b) = true := by rw [h, h']; rfl
theorem k0 : (Rows.checkFormsRow.wf (OpenSpec.ofChange Rows.checkFormsSpec)) = true := by kernel_rfl
theorem k1 : (laidOutB Tryz.prog) = true := by kernel_rfl
theorem k2 : (mapsRowed Tryz.prog) = true := by kernel_rfl
theorem k3 : (Tryz.f4.params.all (Tryz.prog.readableRec ·)) = true := by kernel_rfl
theorem k4 : (namedTie Tryz.prog Rows.checkFormsRow.named Rows.checkFormsSpec.vars) = true := by kernel_rfl
theorem k5 : ((Rows.checkFormsRow.stops == [])) = true := by kernel_rfl
theorem k6 : ((Tryz.prog.stops == [])) = true := by kernel_rfl
theorem k7 : ((Rows.checkFormsRow.knobs == [])) = true := by kernel_rfl
theorem k8 : ((Tryz.prog.stopKnobs == [])) = true := by kernel_rfl
theorem k9 : ((Rows.checkFormsRow.inPlace == Tryz.prog.inPlace (4 : FuncId))) = true := by kernel_rfl
theorem k10 : ((Rows.checkFormsRow.unfollowed == Tryz.prog.unfollowed (4 : FuncId))) = true := by kernel_rfl
theorem k11 : ((Rows.checkFormsRow.recurses == Tryz.prog.recurses (4 : FuncId))) = true := by kernel_rfl
theorem k12 : ((Rows.checkFormsRow.named == Tryz.prog.varsNamed (4 : FuncId))) = true := by kernel_rfl
theorem k13 : ((Rows.checkFormsRow.maps == (Tryz.f4.params.toList ++ Rows.checkFormsSpec.plain.varTypes Tryz.prog).any (Tryz.prog.mapsRec ·))) = true := by kernel_rfl
theorem k14 : ((Rows.checkFormsRow.ifaces == (Tryz.f4.params.toList ++ Rows.checkFormsSpec.plain.varTypes Tryz.prog).any (Tryz.prog.ifacesRec ·))) = true := by kernel_rfl
theorem k15 : ((Rows.checkFormsRow.mapsOut == Tryz.prog.mapsAmong Tryz.f4.resultTypes.toList)) = true := by kernel_rfl
theorem k16 : ((Rows.checkFormsRow.loops == (Tryz.f4.params.toList ++ Rows.checkFormsSpec.plain.varTypes Tryz.prog).any (Tryz.prog.loopsFrom ·))) = true := by kernel_rfl
theorem k17 : ((Rows.checkFormsRow.wideKeys == (Tryz.f4.params.toList ++ Rows.checkFormsSpec.plain.varTypes Tryz.prog ++ Tryz.f4.resultTypes.toList).any (Tryz.prog.wideKeysFrom ·))) = true := by kernel_rfl
theorem k18 : (Rows.checkFormsSpec.vars.all (Tryz.prog.varReadable ·)) = true := by kernel_rfl
theorem k19 : (Tryz.f4.resultTypes.all (fun t => Tryz.prog.readableRec t && decide (t < Tryz.prog.types.size))) = true := by kernel_rfl
theorem k20 : ((Rows.checkFormsRow.ifacesOut == Tryz.f4.resultTypes.toList.any (Tryz.prog.ifacesRec ·))) = true := by kernel_rfl
theorem k21 : ((Rows.checkFormsRow.loopsOut == Tryz.f4.resultTypes.toList.any (Tryz.prog.loopsFrom ·))) = true := by kernel_rfl
theorem k22 : ((Rows.checkFormsRow.plainKeys == Tryz.prog.plainKeys)) = true := by kernel_rfl
theorem k23 : (Rows.checkFormsRow.shortTexts.isNone) = true := by kernel_rfl
theorem k24 : (Tryz.prog.stopsHeard) = true := by kernel_rfl
theorem k25 : (Tryz.prog.mayEnter) = true := by kernel_rfl
theorem k26 : ((Rows.checkFormsRow.lifted == Tryz.prog.liftsFinal)) = true := by kernel_rfl
theorem k27 : ((Tryz.prog.make == some Rows.checkFormsRow.make)) = true := by kernel_rfl
theorem k28 : ((Rows.checkFormsRow.kinds == (if Rows.checkFormsRow.domain.isEmpty then [] else Tryz.f4.params.toList.map fun t => match Tryz.prog.underlying t with | some (.int k) => some k | _ => none))) = true := by kernel_rfl
theorem k29 : ((Rows.checkFormsRow.pinned == Rows.checkFormsRow.pinnedBy)) = true := by kernel_rfl
theorem k30 : ((Rows.checkFormsRow.veiled == (Tryz.f4.params.toList ++ Rows.checkFormsSpec.plain.varTypes Tryz.prog ++ Tryz.f4.resultTypes.toList).any (Tryz.prog.veiledRec ·))) = true := by kernel_rfl
theorem k31 : (Rows.checkFormsRow.veiledFits Tryz.prog Tryz.f4.params.toList (Tryz.f4.params.toList ++ Rows.checkFormsSpec.plain.varTypes Tryz.prog ++ Tryz.f4.resultTypes.toList)) = true := by kernel_rfl
set_option maxRecDepth 100000 in
theorem facts : joinedFacts Tryz.prog 4 Tryz.f4 Rows.checkFormsSpec Rows.checkFormsRow = true := band (band (band (band (band (band (band (band (band (band (band (band (band (band (band (band (band (band (band (band (band (band (band (band (band (band (band (band (band (band (band (k0) k1) k2) k3) k4) k5) k6) k7) k8) k9) k10) k11) k12) k13) k14) k15) k16) k17) k18) k19) k20) k21) k22) k23) k24) k25) k26) k27) k28) k29) k30) k31
theorem over : Rows.checkFormsRow.holds Tryz.pinned (OpenSpec.ofChange Rows.checkFormsSpec) :=
 OpenClaim.holds_of_wide 4 Tryz.f4 rfl rfl rfl rfl rfl rfl rfl ⟨rfl, rfl, rfl, rfl, rfl⟩ rfl rfl rfl rfl rfl (by kernel_rfl) Tryz.func4 facts
  (oR (by kernel_rfl)) (by unfold Func.isWrapper; first | (rw [if_pos (by decide +kernel)]; kernel_rfl) | (rw [if_neg (by decide +kernel)]; exact ⟨rfl, rfl⟩))
  (fun os started H enc _ => lifted os started H enc)
theorem proved : Rows.CheckFormsSaid := over
#print axioms proved
end Go.Proofs.YtklkbfpjimeaoaaGreat.checkForms
namespace Go.Proofs.YtklkbfpjimeaoaaGreat
theorem checkForms_holds : Rows.CheckFormsSaid := checkForms.proved
end Go.Proofs.YtklkbfpjimeaoaaGreat
