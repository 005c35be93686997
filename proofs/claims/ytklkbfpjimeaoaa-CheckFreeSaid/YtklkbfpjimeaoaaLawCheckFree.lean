import Derived.Test.YtklkbfpjimeaoaaRows
import Derived.Test.YtklkbfpjimeaoaaM8
import Derived.Test.YtklkbfpjimeaoaaM17
import Derived.Test.YtklkbfpjimeaoaaM20
import Derived.Test.YtklkbfpjimeaoaaM24
import Derived.WalkKit
import Derived.ProofKit
import Derived.OpenShut
import Derived.ShutString
import Derived.ChangeOld
import Derived.Below
import Derived.Carry
import Derived.SizedLaws
/- Contracts of functions. Conditions: none. -/
set_option linter.unusedSimpArgs false
set_option linter.unusedVariables false
namespace Go.Proofs.Ytklkbfpjimeaoaa.checkFree
open Go.ChangeShapes Go.WideShapes Go.ChangeAt Go.RowKit Go.Proofs.Ytklkbfpjimeaoaa.E
open Go.ChangeMaps (open_string shut_string)
theorem own : ownKnob Try.prog.godebug = none := by kernel_rfl
theorem laidOut : laidOutB Try.prog = true := by kernel_rfl
def types : List TypeId := [27, 22, 3, 9, 40]
theorem closed : closedT Try.prog types = true := by kernel_rfl
theorem mkstr_of {ds : List D} (h : DT Try.prog 9 ds) : ∃ s : ByteArray, True ∧ D.mk Try.prog 9 ds = .str s := by
 obtain ⟨s, rfl, _⟩ := h.str_of u9
 exact ⟨s, trivial, by simp [D.mk, u9]⟩
set_option maxRecDepth 100000 in
theorem lifted (os : Os) (started : os.Started) (H : Type) (enc : TypeId × Value → H) :
 ReturnsInHanded {} Try.checked os 4 .any (Rows.checkFreeSpec.pre6 enc Try.prog Try.f4 Rows.checkFreeRow.domain false) (Rows.checkFreeSpec.post enc Try.prog Try.f4 false true false false) := by
 refine returnsInHanded_of_change_sized (C := Try.checked) own started (by kernel_rfl) Try.func4
  (ChangeSpec.witness6 (enc := enc) (C := Try.checked) false ⟨#[], #[.agg #[.int .i64 0, .string ByteArray.empty, .int .i64 0, .slice none 0 0], .slice none 0 0], []⟩ 8 (by kernel_rfl) (by kernel_rfl) (by kernel_rfl) (by kernel_rfl)) ?_
 intro W base args ds gs before hval0 hW hcnd hsz0 _
 have hsz : (DataW.weightsEach Try.prog (Try.f4.params.toList ++ Rows.checkFreeSpec.plain.varTypes Try.prog) (ds ++ gs)).all (· ≤ reachBytes) = true := hsz0
 have hval : ∀ (j : Nat) t v, Try.f4.params[j]? = some t → args[j]? = some v → Value.okWide Try.prog W .any base t v := hval0
 have hW' := hW
 obtain ⟨p, q, hA0, hV, rfl, hfz, hnd⟩ := hW
 have hA : DataW.TrodAll enc Try.prog W 0 (fun _ => true) true Try.f4.params.toList args.toList ds p := hA0
 rw [Try.params4] at hA hval hsz
 obtain ⟨v0, vs0, d0, ds0, p0, q0, hargs, rfl, rfl, h0, r0⟩ := trodAll_cons hA
 obtain ⟨v1, vs1, d1, ds1, p1, q1, rfl, rfl, rfl, h1, r1⟩ := trodAll_cons r0
 obtain ⟨rfl, rfl, rfl⟩ := trodAll_nil r1
 obtain rfl : args = #[v0, v1] := by cases args; simp_all
 obtain ⟨rfl, rfl⟩ := trodVars_none hV
 obtain ⟨a0, rfl, sz0⟩ := okWide_struct u27 (hval 0 27 v0 rfl rfl)
 have k0 := h0
 have lt0 : ∀ x ∈ p0, x.block < W.heap.size := by obtain ⟨m, hm⟩ := k0; exact DataW.trod_lt m _ _ _ hm
 have w0 : ∀ n ∈ d0.weights Try.prog 27, n ≤ reachBytes := fun n hn => oR (List.all_eq_true.1 hsz n (DataW.weights_mem_each (j := 0) (t := 27) rfl rfl n hn))
 obtain ⟨a1, len1, cap1, rfl⟩ := okWide_slice u40 (hval 1 40 v1 rfl rfl)
 have k1 := h1
 have lt1 : ∀ x ∈ p1, x.block < W.heap.size := by obtain ⟨m, hm⟩ := k1; exact DataW.trod_lt m _ _ _ hm
 have w1 : ∀ n ∈ d1.weights Try.prog 40, n ≤ reachBytes := fun n hn => oR (List.all_eq_true.1 hsz n (DataW.weights_mem_each (j := 1) (t := 40) rfl rfl n hn))
 clear hA0 hval0 hsz0 hsz
 obtain ⟨ns0, nd0, rd0⟩ := arg_agg closed (by decide) k0 w0
 obtain ⟨t, hok, ht0⟩ := node_of nd0
 rw [ht0] at rd0
 obtain ⟨ss1, rd1, sl1, sd1⟩ := arg_sl closed (by decide) u40 k1 w1
 obtain ⟨xs1, sx1, sq1, sn1⟩ := list_of (f := D.str) (fun ds h => mkstr_of h) ss1 sd1
 rw [sx1] at rd1
 have hwalk := E.Pure.row (c4 t hok xs1 (by unfold reachBytes at sl1; rw [sn1]; omega)).2 W #[.agg a0, .slice a1 len1 cap1] rfl (fun i d v hd hv => by
  match i with
  | 0 => simp at hd hv; subst hd; subst hv; exact rd0
  | 1 => simp at hd hv; subst hd; subst hv; exact rd1
  | i + 2 => simp at hd)
 refine hwalk.mono fun e W' ⟨he, bel⟩ => ?_
 subst he
 exact ⟨_, rfl, _, _, _, [], _, [], hW', trodAll_mk1 (shut_bool u4 _), (trodAll_cons_mk (Below.trod laidOut (by kernel_rfl) (oR (by kernel_rfl)) k0 bel lt0) (trodAll_cons_mk (Below.trod laidOut (by kernel_rfl) (oR (by kernel_rfl)) k1 bel lt1) trodAll_mk0)), rfl, bel.frame _, fun h => by cases h⟩
theorem band {a b : Bool} (h : a = true) (h' : b = true) : (a && b) = true := by rw [h, h']; rfl
theorem k0 : (Rows.checkFreeRow.wf (OpenSpec.ofChange Rows.checkFreeSpec)) = true := by kernel_rfl
theorem k1 : (laidOutB Try.prog) = true := by kernel_rfl
theorem k2 : (mapsRowed Try.prog) = true := by kernel_rfl
theorem k3 : (Try.f4.params.all (Try.prog.readableRec ·)) = true := by kernel_rfl
theorem k4 : (namedTie Try.prog Rows.checkFreeRow.named Rows.checkFreeSpec.vars) = true := by kernel_rfl
theorem k5 : ((Rows.checkFreeRow.stops == [])) = true := by kernel_rfl
theorem k6 : ((Try.prog.stops == [])) = true := by kernel_rfl
theorem k7 : ((Rows.checkFreeRow.knobs == [])) = true := by kernel_rfl
theorem k8 : ((Try.prog.stopKnobs == [])) = true := by kernel_rfl
theorem k9 : ((Rows.checkFreeRow.inPlace == Try.prog.inPlace (4 : FuncId))) = true := by kernel_rfl
theorem k10 : ((Rows.checkFreeRow.unfollowed == Try.prog.unfollowed (4 : FuncId))) = true := by kernel_rfl
theorem k11 : ((Rows.checkFreeRow.recurses == Try.prog.recurses (4 : FuncId))) = true := by kernel_rfl
theorem k12 : ((Rows.checkFreeRow.named == Try.prog.varsNamed (4 : FuncId))) = true := by kernel_rfl
theorem k13 : ((Rows.checkFreeRow.maps == (Try.f4.params.toList ++ Rows.checkFreeSpec.plain.varTypes Try.prog).any (Try.prog.mapsRec ·))) = true := by kernel_rfl
theorem k14 : ((Rows.checkFreeRow.ifaces == (Try.f4.params.toList ++ Rows.checkFreeSpec.plain.varTypes Try.prog).any (Try.prog.ifacesRec ·))) = true := by kernel_rfl
theorem k15 : ((Rows.checkFreeRow.mapsOut == Try.prog.mapsAmong Try.f4.resultTypes.toList)) = true := by kernel_rfl
theorem k16 : ((Rows.checkFreeRow.loops == (Try.f4.params.toList ++ Rows.checkFreeSpec.plain.varTypes Try.prog).any (Try.prog.loopsFrom ·))) = true := by kernel_rfl
theorem k17 : ((Rows.checkFreeRow.wideKeys == (Try.f4.params.toList ++ Rows.checkFreeSpec.plain.varTypes Try.prog ++ Try.f4.resultTypes.toList).any (Try.prog.wideKeysFrom ·))) = true := by kernel_rfl
theorem k18 : (Rows.checkFreeSpec.vars.all (Try.prog.varReadable ·)) = true := by kernel_rfl
theorem k19 : (Try.f4.resultTypes.all (fun t => Try.prog.readableRec t && decide (t < Try.prog.types.size))) = true := by kernel_rfl
theorem k20 : ((Rows.checkFreeRow.ifacesOut == Try.f4.resultTypes.toList.any (Try.prog.ifacesRec ·))) = true := by kernel_rfl
theorem k21 : ((Rows.checkFreeRow.loopsOut == Try.f4.resultTypes.toList.any (Try.prog.loopsFrom ·))) = true := by kernel_rfl
theorem k22 : ((Rows.checkFreeRow.plainKeys == Try.prog.plainKeys)) = true := by kernel_rfl
theorem k23 : (Rows.checkFreeRow.shortTexts.isNone) = true := by kernel_rfl
theorem k24 : (Try.prog.stopsHeard) = true := by kernel_rfl
theorem k25 : (Try.prog.mayEnter) = true := by kernel_rfl
theorem k26 : ((Rows.checkFreeRow.lifted == Try.prog.liftsFinal)) = true := by kernel_rfl
theorem k27 : ((Try.prog.make == some Rows.checkFreeRow.make)) = true := by kernel_rfl
theorem k28 : ((Rows.checkFreeRow.kinds == (if Rows.checkFreeRow.domain.isEmpty then [] else Try.f4.params.toList.map fun t => match Try.prog.underlying t with | some (.int k) => some k | _ => none))) = true := by kernel_rfl
theorem k29 : ((Rows.checkFreeRow.pinned == Rows.checkFreeRow.pinnedBy)) = true := by kernel_rfl
theorem k30 : ((Rows.checkFreeRow.veiled == (Try.f4.params.toList ++ Rows.checkFreeSpec.plain.varTypes Try.prog ++ Try.f4.resultTypes.toList).any (Try.prog.veiledRec ·))) = true := by kernel_rfl
theorem k31 : (Rows.checkFreeRow.veiledFits Try.prog Try.f4.params.toList (Try.f4.params.toList ++ Rows.checkFreeSpec.plain.varTypes Try.prog ++ Try.f4.resultTypes.toList)) = true := by kernel_rfl
set_option maxRecDepth 100000 in
theorem facts : joinedFacts Try.prog 4 Try.f4 Rows.checkFreeSpec Rows.checkFreeRow = true := band (band (band (band (band (band (band (band (band (band (band (band (band (band (band (band (band (band (band (band (band (band (band (band (band (band (band (band (band (band (band (k0) k1) k2) k3) k4) k5) k6) k7) k8) k9) k10) k11) k12) k13) k14) k15) k16) k17) k18) k19) k20) k21) k22) k23) k24) k25) k26) k27) k28) k29) k30) k31
theorem over : Rows.checkFreeRow.holds Try.pinned (OpenSpec.ofChange Rows.checkFreeSpec) :=
 OpenClaim.holds_of_wide 4 Try.f4 rfl rfl rfl rfl rfl rfl rfl ⟨rfl, rfl, rfl, rfl, rfl⟩ rfl rfl rfl rfl rfl (by kernel_rfl) Try.func4 facts
  (oR (by kernel_rfl)) (by unfold Func.isWrapper; first | (rw [if_pos (by decide +kernel)]; kernel_rfl) | (rw [if_neg (by decide +kernel)]; exact ⟨rfl, rfl⟩))
  (fun os started H enc _ => lifted os started H enc)
theorem proved : Rows.CheckFreeSaid := over
#print axioms proved
end Go.Proofs.Ytklkbfpjimeaoaa.checkFree
namespace Go.Proofs.Ytklkbfpjimeaoaa
theorem checkFree_holds : Rows.CheckFreeSaid := checkFree.proved
end Go.Proofs.Ytklkbfpjimeaoaa
