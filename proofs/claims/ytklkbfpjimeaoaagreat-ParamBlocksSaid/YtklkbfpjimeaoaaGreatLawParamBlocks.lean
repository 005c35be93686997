import Derived.Test.YtklkbfpjimeaoaaGreatRows
import Derived.Test.YtklkbfpjimeaoaaGreatM8
import Derived.Test.YtklkbfpjimeaoaaGreatM32
import Derived.WalkKit
import Derived.ProofKit
import Derived.OpenShut
import Derived.ShutString
import Derived.ChangeOld
import Derived.Below
import Derived.Carry
import Derived.SizedLaws
/- Contracts of functions. Conditions: none. -/
set_option linter.unusedSimpArgs false
set_option linter.unusedVariables false
namespace Go.Proofs.YtklkbfpjimeaoaaGreat.paramBlocks
open Go.ChangeShapes Go.WideShapes Go.ChangeAt Go.RowKit Go.Proofs.YtklkbfpjimeaoaaGreat.E
open Go.ChangeMaps (open_string shut_string)
theorem own : ownKnob Tryz.prog.godebug = none := by kernel_rfl
theorem laidOut : laidOutB Tryz.prog = true := by kernel_rfl
def types : List TypeId := [27, 22, 3, 9, 49, 59]
theorem closed : closedT Tryz.prog types = true := by kernel_rfl
theorem c72 : Tryz.prog.bytesOf 59 = 72 := by kernel_rfl
theorem mknode_of {ds : List D} (h : DT Tryz.prog 27 ds) : ∃ t : Tr, t.Ok ∧ D.mk Tryz.prog 27 ds = t.d := by
 obtain ⟨t, h1, h2⟩ := node_of h
 exact ⟨t, h1, by rw [← h2]; simp [D.mk, u27]⟩
set_option maxRecDepth 100000 in
theorem lifted (os : Os) (started : os.Started) (H : Type) (enc : TypeId × Value → H) :
 ReturnsInHanded {} Tryz.checked os 8 .any (Rows.paramBlocksSpec.pre6 enc Tryz.prog Tryz.f8 Rows.paramBlocksRow.domain false) (Rows.paramBlocksSpec.post enc Tryz.prog Tryz.f8 false true false false) := by
 refine returnsInHanded_of_change_sized (C := Tryz.checked) own started (by kernel_rfl) Tryz.func8
  (ChangeSpec.witness6 (enc := enc) (C := Tryz.checked) false ⟨#[], #[.slice none 0 0, .slice none 0 0], []⟩ 8 (by kernel_rfl) (by kernel_rfl) (by kernel_rfl) (by kernel_rfl)) ?_
 intro W base args ds gs before hval0 hW hcnd hsz0 _
 have hsz : (DataW.weightsEach Tryz.prog (Tryz.f8.params.toList ++ Rows.paramBlocksSpec.plain.varTypes Tryz.prog) (ds ++ gs)).all (· ≤ reachBytes) = true := hsz0
 have hval : ∀ (j : Nat) t v, Tryz.f8.params[j]? = some t → args[j]? = some v → Value.okWide Tryz.prog W .any base t v := hval0
 have hW' := hW
 obtain ⟨p, q, hA0, hV, rfl, hfz, hnd⟩ := hW
 have hA : DataW.TrodAll enc Tryz.prog W 0 (fun _ => true) true Tryz.f8.params.toList args.toList ds p := hA0
 rw [Tryz.params8] at hA hval hsz
 obtain ⟨v0, vs0, d0, ds0, p0, q0, hargs, rfl, rfl, h0, r0⟩ := trodAll_cons hA
 obtain ⟨v1, vs1, d1, ds1, p1, q1, rfl, rfl, rfl, h1, r1⟩ := trodAll_cons r0
 obtain ⟨rfl, rfl, rfl⟩ := trodAll_nil r1
 obtain rfl : args = #[v0, v1] := by cases args; simp_all
 obtain ⟨rfl, rfl⟩ := trodVars_none hV
 obtain ⟨a0, len0, cap0, rfl⟩ := okWide_slice u22 (hval 0 22 v0 rfl rfl)
 have k0 := h0
 have lt0 : ∀ x ∈ p0, x.block < W.heap.size := by obtain ⟨m, hm⟩ := k0; exact DataW.trod_lt m _ _ _ hm
 have w0 : ∀ n ∈ d0.weights Tryz.prog 22, n ≤ reachBytes := fun n hn => of_decide_eq_true (List.all_eq_true.1 hsz n (DataW.weights_mem_each (j := 0) (t := 22) rfl rfl n hn))
 obtain ⟨a1, len1, cap1, rfl⟩ := okWide_slice u49 (hval 1 49 v1 rfl rfl)
 have k1 := h1
 have lt1 : ∀ x ∈ p1, x.block < W.heap.size := by obtain ⟨m, hm⟩ := k1; exact DataW.trod_lt m _ _ _ hm
 have w1 : ∀ n ∈ d1.weights Tryz.prog 49, n ≤ reachBytes := fun n hn => of_decide_eq_true (List.all_eq_true.1 hsz n (DataW.weights_mem_each (j := 1) (t := 49) rfl rfl n hn))
 clear hA0 hval0 hsz0 hsz
 obtain ⟨ss0, rd0, sl0, sd0⟩ := arg_sl closed (by decide) u22 k0 w0
 obtain ⟨xs0, sx0, sq0, sn0⟩ := list_of (f := Tr.d) (fun ds h => mknode_of h) ss0 sd0
 rw [sx0] at rd0
 obtain ⟨ss1, rd1, sl1, sd1⟩ := arg_sl closed (by decide) u49 k1 w1
 have bb1 := arg_bytes u49 k1 w1
 obtain ⟨xs1, sx1, sq1, sn1⟩ := list_of (f := cD) (fun ds h => mkconst_of h) ss1 sd1
 rw [sx1] at rd1
 have ln1 := rd_len rd1
 rw [List.length_map] at ln1
 rw [← ln1, c72] at bb1
 have hwalk := E.Pure.row (c8 xs0 ⟨by unfold reachBytes at sl0; rw [sn0]; omega, sq0⟩ xs1 (fun c hc => (sq1 c hc).2) (by unfold reachBytes at bb1; omega)).2 W #[.slice a0 len0 cap0, .slice a1 len1 cap1] rfl (fun i d v hd hv => by
  match i with
  | 0 => simp at hd hv; subst hd; subst hv; exact rd0
  | 1 => simp at hd hv; subst hd; subst hv; exact rd1
  | i + 2 => simp at hd)
 refine hwalk.mono fun e W' ⟨he, bel⟩ => ?_
 subst he
 exact ⟨_, rfl, _, _, _, [], _, [], hW', trodAll_mk1 (shut_bool u4 _), (trodAll_cons_mk (Below.trod laidOut (by kernel_rfl) (of_decide_eq_true (by kernel_rfl)) k0 bel lt0) (trodAll_cons_mk (Below.trod laidOut (by kernel_rfl) (of_decide_eq_true (by kernel_rfl)) k1 bel lt1) trodAll_mk0)), rfl, bel.frame _, fun h => by cases h⟩
theorem band {a b : Bool} (h : a = true) (h' : b = true) : (a && b) = true := by rw [h, h']; rfl
theorem k0 : (Rows.paramBlocksRow.wf (OpenSpec.ofChange Rows.paramBlocksSpec)) = true := by kernel_rfl
theorem k1 : (laidOutB Tryz.prog) = true := by kernel_rfl
theorem k2 : (mapsRowed Tryz.prog) = true := by kernel_rfl
theorem k3 : (Tryz.f8.params.all (Tryz.prog.readableRec ·)) = true := by kernel_rfl
theorem k4 : (namedTie Tryz.prog Rows.paramBlocksRow.named Rows.paramBlocksSpec.vars) = true := by kernel_rfl
theorem k5 : ((Rows.paramBlocksRow.stops == [])) = true := by kernel_rfl
theorem k6 : ((Tryz.prog.stops == [])) = true := by kernel_rfl
theorem k7 : ((Rows.paramBlocksRow.knobs == [])) = true := by kernel_rfl
theorem k8 : ((Tryz.prog.stopKnobs == [])) = true := by kernel_rfl
theorem k9 : ((Rows.paramBlocksRow.inPlace == Tryz.prog.inPlace (8 : FuncId))) = true := by kernel_rfl
theorem k10 : ((Rows.paramBlocksRow.unfollowed == Tryz.prog.unfollowed (8 : FuncId))) = true := by kernel_rfl
theorem k11 : ((Rows.paramBlocksRow.recurses == Tryz.prog.recurses (8 : FuncId))) = true := by kernel_rfl
theorem k12 : ((Rows.paramBlocksRow.named == Tryz.prog.varsNamed (8 : FuncId))) = true := by kernel_rfl
theorem k13 : ((Rows.paramBlocksRow.maps == (Tryz.f8.params.toList ++ Rows.paramBlocksSpec.plain.varTypes Tryz.prog).any (Tryz.prog.mapsRec ·))) = true := by kernel_rfl
theorem k14 : ((Rows.paramBlocksRow.ifaces == (Tryz.f8.params.toList ++ Rows.paramBlocksSpec.plain.varTypes Tryz.prog).any (Tryz.prog.ifacesRec ·))) = true := by kernel_rfl
theorem k15 : ((Rows.paramBlocksRow.mapsOut == Tryz.prog.mapsAmong Tryz.f8.resultTypes.toList)) = true := by kernel_rfl
theorem k16 : ((Rows.paramBlocksRow.loops == (Tryz.f8.params.toList ++ Rows.paramBlocksSpec.plain.varTypes Tryz.prog).any (Tryz.prog.loopsFrom ·))) = true := by kernel_rfl
theorem k17 : ((Rows.paramBlocksRow.wideKeys == (Tryz.f8.params.toList ++ Rows.paramBlocksSpec.plain.varTypes Tryz.prog ++ Tryz.f8.resultTypes.toList).any (Tryz.prog.wideKeysFrom ·))) = true := by kernel_rfl
theorem k18 : (Rows.paramBlocksSpec.vars.all (Tryz.prog.varReadable ·)) = true := by kernel_rfl
theorem k19 : (Tryz.f8.resultTypes.all (fun t => Tryz.prog.readableRec t && decide (t < Tryz.prog.types.size))) = true := by kernel_rfl
theorem k20 : ((Rows.paramBlocksRow.ifacesOut == Tryz.f8.resultTypes.toList.any (Tryz.prog.ifacesRec ·))) = true := by kernel_rfl
theorem k21 : ((Rows.paramBlocksRow.loopsOut == Tryz.f8.resultTypes.toList.any (Tryz.prog.loopsFrom ·))) = true := by kernel_rfl
theorem k22 : ((Rows.paramBlocksRow.plainKeys == Tryz.prog.plainKeys)) = true := by kernel_rfl
theorem k23 : (Rows.paramBlocksRow.shortTexts.isNone) = true := by kernel_rfl
theorem k24 : (Tryz.prog.stopsHeard) = true := by kernel_rfl
theorem k25 : (Tryz.prog.mayEnter) = true := by kernel_rfl
theorem k26 : ((Rows.paramBlocksRow.lifted == Tryz.prog.liftsFinal)) = true := by kernel_rfl
theorem k27 : ((Tryz.prog.make == some Rows.paramBlocksRow.make)) = true := by kernel_rfl
theorem k28 : ((Rows.paramBlocksRow.kinds == (if Rows.paramBlocksRow.domain.isEmpty then [] else Tryz.f8.params.toList.map fun t => match Tryz.prog.underlying t with | some (.int k) => some k | _ => none))) = true := by kernel_rfl
theorem k29 : ((Rows.paramBlocksRow.pinned == Rows.paramBlocksRow.pinnedBy)) = true := by kernel_rfl
theorem k30 : ((Rows.paramBlocksRow.veiled == (Tryz.f8.params.toList ++ Rows.paramBlocksSpec.plain.varTypes Tryz.prog ++ Tryz.f8.resultTypes.toList).any (Tryz.prog.veiledRec ·))) = true := by kernel_rfl
theorem k31 : (Rows.paramBlocksRow.veiledFits Tryz.prog Tryz.f8.params.toList (Tryz.f8.params.toList ++ Rows.paramBlocksSpec.plain.varTypes Tryz.prog ++ Tryz.f8.resultTypes.toList)) = true := by kernel_rfl
set_option maxRecDepth 100000 in
theorem facts : joinedFacts Tryz.prog 8 Tryz.f8 Rows.paramBlocksSpec Rows.paramBlocksRow = true := band (band (band (band (band (band (band (band (band (band (band (band (band (band (band (band (band (band (band (band (band (band (band (band (band (band (band (band (band (band (band (k0) k1) k2) k3) k4) k5) k6) k7) k8) k9) k10) k11) k12) k13) k14) k15) k16) k17) k18) k19) k20) k21) k22) k23) k24) k25) k26) k27) k28) k29) k30) k31
theorem over : Rows.paramBlocksRow.holds Tryz.pinned (OpenSpec.ofChange Rows.paramBlocksSpec) :=
 OpenClaim.holds_of_wide 8 Tryz.f8 rfl rfl rfl rfl rfl rfl rfl ⟨rfl, rfl, rfl, rfl, rfl⟩ rfl rfl rfl rfl rfl (by kernel_rfl) Tryz.func8 facts
  (of_decide_eq_true (by kernel_rfl)) (by unfold Func.isWrapper; first | (rw [if_pos (by decide +kernel)]; kernel_rfl) | (rw [if_neg (by decide +kernel)]; exact ⟨rfl, rfl⟩))
  (fun os started H enc _ => lifted os started H enc)
theorem proved : Rows.ParamBlocksSaid := over
#print axioms proved
end Go.Proofs.YtklkbfpjimeaoaaGreat.paramBlocks
namespace Go.Proofs.YtklkbfpjimeaoaaGreat
theorem paramBlocks_holds : Rows.ParamBlocksSaid := paramBlocks.proved
end Go.Proofs.YtklkbfpjimeaoaaGreat
