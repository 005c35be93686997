import Derived.Test.YtklkbfpjimeaoaaRows
import Derived.Test.YtklkbfpjimeaoaaM8
import Derived.Test.YtklkbfpjimeaoaaM18
import Derived.Test.YtklkbfpjimeaoaaM23
import Derived.Test.YtklkbfpjimeaoaaM30
import Derived.WalkKit
import Derived.ProofKit
import Derived.OpenShut
import Derived.ShutString
import Derived.ChangeOld
import Derived.Below
import Derived.Carry
import Derived.SizedLaws
/- Contracts of functions. Conditions: none. -/
set_option linter.unusedSimpArgs false
set_option linter.unusedVariables false
namespace Go.Proofs.Ytklkbfpjimeaoaa.checkLocals
open Go.ChangeShapes Go.WideShapes Go.ChangeAt Go.RowKit Go.Proofs.Ytklkbfpjimeaoaa.E
open Go.ChangeMaps (open_string shut_string)
theorem own : ownKnob Try.prog.godebug = none := by kernel_rfl
theorem laidOut : laidOutB Try.prog = true := by kernel_rfl
def types : List TypeId := [25, 22, 23, 27, 3, 9, 57, 55, 60, 4, 28, 30]
theorem closed : closedT Try.prog types = true := by kernel_rfl
theorem c1_30 : Try.prog.cellsOf 30 = 3 := by kernel_rfl
theorem list3d30 : ∀ (ds : List D), ds.length = 3 → ∃ d0 d1 d2, ds = [d0, d1, d2]
 | [d0, d1, d2], _ => ⟨d0, d1, d2, rfl⟩
theorem mkgv_of {ds : List D} (h : DT Try.prog 30 ds) : ∃ x : Gv, x.nm.size ≤ 140737488355328 ∧ D.mk Try.prog 30 ds = x.d := by
 obtain ⟨hl, hf⟩ := h.struct_of u30
 rw [c1_30] at hl
 obtain ⟨d0, d1, d2, rfl⟩ := list3d30 ds hl
 have h0 : DT Try.prog 9 ((List.drop 0 [d0, d1, d2]).take (Try.prog.cellsOf 9)) := hf 0 _ rfl
 have h1 : DT Try.prog 9 ((List.drop 1 [d0, d1, d2]).take (Try.prog.cellsOf 9)) := hf 1 _ rfl
 have h2 : DT Try.prog 4 ((List.drop 2 [d0, d1, d2]).take (Try.prog.cellsOf 4)) := hf 2 _ rfl
 rw [c1_9] at h0 h1
 rw [c1_4] at h2
 obtain ⟨s0, e0, w0⟩ := h0.str_of u9
 obtain ⟨s1, e1, w1⟩ := h1.str_of u9
 obtain ⟨b, e2⟩ := h2.bool_of u4
 obtain rfl := (List.cons.inj e0).1
 obtain rfl := (List.cons.inj e1).1
 obtain rfl := (List.cons.inj e2).1
 exact ⟨⟨s0, s1, b⟩, by unfold reachBytes at w0; show s0.size ≤ _; omega, by simp [D.mk, u30, Gv.d]⟩
set_option maxRecDepth 100000 in
theorem lifted (os : Os) (started : os.Started) (H : Type) (enc : TypeId × Value → H) :
 ReturnsInHanded {} Try.checked os 3 .any (Rows.checkLocalsSpec.pre6 enc Try.prog Try.f3 Rows.checkLocalsRow.domain false) (Rows.checkLocalsSpec.post enc Try.prog Try.f3 false true false false) := by
 refine returnsInHanded_of_change_sized (C := Try.checked) own started (by kernel_rfl) Try.func3
  (ChangeSpec.witness6 (enc := enc) (C := Try.checked) false ⟨#[], #[.agg #[.slice none 0 0, .slice none 0 0], .agg #[.int .i64 0, .string ByteArray.empty, .int .i64 0, .slice none 0 0], .slice none 0 0, .agg #[.string ByteArray.empty, .string ByteArray.empty, .bool false]], []⟩ 8 (by kernel_rfl) (by kernel_rfl) (by kernel_rfl) (by kernel_rfl)) ?_
 intro W base args ds gs before hval0 hW hcnd hsz0 _
 have hsz : (DataW.weightsEach Try.prog (Try.f3.params.toList ++ Rows.checkLocalsSpec.plain.varTypes Try.prog) (ds ++ gs)).all (· ≤ reachBytes) = true := hsz0
 have hval : ∀ (j : Nat) t v, Try.f3.params[j]? = some t → args[j]? = some v → Value.okWide Try.prog W .any base t v := hval0
 have hW' := hW
 obtain ⟨p, q, hA0, hV, rfl, hfz, hnd⟩ := hW
 have hA : DataW.TrodAll enc Try.prog W 0 (fun _ => true) true Try.f3.params.toList args.toList ds p := hA0
 rw [Try.params3] at hA hval hsz
 obtain ⟨v0, vs0, d0, ds0, p0, q0, hargs, rfl, rfl, h0, r0⟩ := trodAll_cons hA
 obtain ⟨v1, vs1, d1, ds1, p1, q1, rfl, rfl, rfl, h1, r1⟩ := trodAll_cons r0
 obtain ⟨v2, vs2, d2, ds2, p2, q2, rfl, rfl, rfl, h2, r2⟩ := trodAll_cons r1
 obtain ⟨v3, vs3, d3, ds3, p3, q3, rfl, rfl, rfl, h3, r3⟩ := trodAll_cons r2
 obtain ⟨rfl, rfl, rfl⟩ := trodAll_nil r3
 obtain rfl : args = #[v0, v1, v2, v3] := by cases args; simp_all
 obtain ⟨rfl, rfl⟩ := trodVars_none hV
 obtain ⟨a0, rfl, sz0⟩ := okWide_struct u25 (hval 0 25 v0 rfl rfl)
 have k0 := h0
 have lt0 : ∀ x ∈ p0, x.block < W.heap.size := by obtain ⟨m, hm⟩ := k0; exact DataW.trod_lt m _ _ _ hm
 have w0 : ∀ n ∈ d0.weights Try.prog 25, n ≤ reachBytes := fun n hn => oR (List.all_eq_true.1 hsz n (DataW.weights_mem_each (j := 0) (t := 25) rfl rfl n hn))
 obtain ⟨a1, rfl, sz1⟩ := okWide_struct u27 (hval 1 27 v1 rfl rfl)
 have k1 := h1
 have lt1 : ∀ x ∈ p1, x.block < W.heap.size := by obtain ⟨m, hm⟩ := k1; exact DataW.trod_lt m _ _ _ hm
 have w1 : ∀ n ∈ d1.weights Try.prog 27, n ≤ reachBytes := fun n hn => oR (List.all_eq_true.1 hsz n (DataW.weights_mem_each (j := 1) (t := 27) rfl rfl n hn))
 obtain ⟨a2, len2, cap2, rfl⟩ := okWide_slice u28 (hval 2 28 v2 rfl rfl)
 have k2 := h2
 have lt2 : ∀ x ∈ p2, x.block < W.heap.size := by obtain ⟨m, hm⟩ := k2; exact DataW.trod_lt m _ _ _ hm
 have w2 : ∀ n ∈ d2.weights Try.prog 28, n ≤ reachBytes := fun n hn => oR (List.all_eq_true.1 hsz n (DataW.weights_mem_each (j := 2) (t := 28) rfl rfl n hn))
 obtain ⟨a3, rfl, sz3⟩ := okWide_struct u30 (hval 3 30 v3 rfl rfl)
 have k3 := h3
 have lt3 : ∀ x ∈ p3, x.block < W.heap.size := by obtain ⟨m, hm⟩ := k3; exact DataW.trod_lt m _ _ _ hm
 have w3 : ∀ n ∈ d3.weights Try.prog 30, n ≤ reachBytes := fun n hn => oR (List.all_eq_true.1 hsz n (DataW.weights_mem_each (j := 3) (t := 30) rfl rfl n hn))
 clear hA0 hval0 hsz0 hsz
 obtain ⟨ns0, nd0, rd0⟩ := arg_agg closed (by decide) k0 w0
 obtain ⟨p0p, hok0, ht0⟩ := prog_of nd0
 rw [ht0] at rd0
 obtain ⟨ns1, nd1, rd1⟩ := arg_agg closed (by decide) k1 w1
 obtain ⟨t, hok, ht1⟩ := node_of nd1
 rw [ht1] at rd1
 obtain ⟨ss2, rd2, sl2, sd2⟩ := arg_sl closed (by decide) u28 k2 w2
 obtain ⟨xs2, sx2, sq2, sn2⟩ := list_of (f := Gv.d) (fun ds h => mkgv_of h) ss2 sd2
 rw [sx2] at rd2
 obtain ⟨ns3, nd3, rd3⟩ := arg_agg closed (by decide) k3 w3
 obtain ⟨o, _, ho3⟩ := mkgv_of nd3
 rw [show D.agg ns3 = D.mk Try.prog 30 ns3 by simp [D.mk, u30], ho3] at rd3
 have hwalk := E.Pure.row (c3l p0p hok0 t hok xs2 (by unfold reachBytes at sl2; rw [sn2]; omega) o).2 W #[.agg a0, .agg a1, .slice a2 len2 cap2, .agg a3] rfl (fun i d v hd hv => by
  match i with
  | 0 => simp at hd hv; subst hd; subst hv; exact rd0
  | 1 => simp at hd hv; subst hd; subst hv; exact rd1
  | 2 => simp at hd hv; subst hd; subst hv; exact rd2
  | 3 => simp at hd hv; subst hd; subst hv; exact rd3
  | i + 4 => simp at hd)
 refine hwalk.mono fun e W' ⟨he, bel⟩ => ?_
 subst he
 exact ⟨_, rfl, _, _, _, [], _, [], hW', trodAll_mk1 (shut_bool u4 _), (trodAll_cons_mk (Below.trod laidOut (by kernel_rfl) (oR (by kernel_rfl)) k0 bel lt0) (trodAll_cons_mk (Below.trod laidOut (by kernel_rfl) (oR (by kernel_rfl)) k1 bel lt1) (trodAll_cons_mk (Below.trod laidOut (by kernel_rfl) (oR (by kernel_rfl)) k2 bel lt2) (trodAll_cons_mk (Below.trod laidOut (by kernel_rfl) (oR (by kernel_rfl)) k3 bel lt3) trodAll_mk0)))), rfl, bel.frame _, fun h => by cases h⟩
theorem band {a b : Bool} (h : a = true) (h' : b = true) : (a && b) = true := by rw [h, h']; rfl
theorem k0 : (Rows.checkLocalsRow.wf (OpenSpec.ofChange Rows.checkLocalsSpec)) = true := by kernel_rfl
theorem k1 : (laidOutB Try.prog) = true := by kernel_rfl
theorem k2 : (mapsRowed Try.prog) = true := by kernel_rfl
theorem k3 : (Try.f3.params.all (Try.prog.readableRec ·)) = true := by kernel_rfl
theorem k4 : (namedTie Try.prog Rows.checkLocalsRow.named Rows.checkLocalsSpec.vars) = true := by kernel_rfl
theorem k5 : ((Rows.checkLocalsRow.stops == [])) = true := by kernel_rfl
theorem k6 : ((Try.prog.stops == [])) = true := by kernel_rfl
theorem k7 : ((Rows.checkLocalsRow.knobs == [])) = true := by kernel_rfl
theorem k8 : ((Try.prog.stopKnobs == [])) = true := by kernel_rfl
theorem k9 : ((Rows.checkLocalsRow.inPlace == Try.prog.inPlace (3 : FuncId))) = true := by kernel_rfl
theorem k10 : ((Rows.checkLocalsRow.unfollowed == Try.prog.unfollowed (3 : FuncId))) = true := by kernel_rfl
theorem k11 : ((Rows.checkLocalsRow.recurses == Try.prog.recurses (3 : FuncId))) = true := by kernel_rfl
theorem k12 : ((Rows.checkLocalsRow.named == Try.prog.varsNamed (3 : FuncId))) = true := by kernel_rfl
theorem k13 : ((Rows.checkLocalsRow.maps == (Try.f3.params.toList ++ Rows.checkLocalsSpec.plain.varTypes Try.prog).any (Try.prog.mapsRec ·))) = true := by kernel_rfl
theorem k14 : ((Rows.checkLocalsRow.ifaces == (Try.f3.params.toList ++ Rows.checkLocalsSpec.plain.varTypes Try.prog).any (Try.prog.ifacesRec ·))) = true := by kernel_rfl
theorem k15 : ((Rows.checkLocalsRow.mapsOut == Try.prog.mapsAmong Try.f3.resultTypes.toList)) = true := by kernel_rfl
theorem k16 : ((Rows.checkLocalsRow.loops == (Try.f3.params.toList ++ Rows.checkLocalsSpec.plain.varTypes Try.prog).any (Try.prog.loopsFrom ·))) = true := by kernel_rfl
theorem k17 : ((Rows.checkLocalsRow.wideKeys == (Try.f3.params.toList ++ Rows.checkLocalsSpec.plain.varTypes Try.prog ++ Try.f3.resultTypes.toList).any (Try.prog.wideKeysFrom ·))) = true := by kernel_rfl
theorem k18 : (Rows.checkLocalsSpec.vars.all (Try.prog.varReadable ·)) = true := by kernel_rfl
theorem k19 : (Try.f3.resultTypes.all (fun t => Try.prog.readableRec t && decide (t < Try.prog.types.size))) = true := by kernel_rfl
theorem k20 : ((Rows.checkLocalsRow.ifacesOut == Try.f3.resultTypes.toList.any (Try.prog.ifacesRec ·))) = true := by kernel_rfl
theorem k21 : ((Rows.checkLocalsRow.loopsOut == Try.f3.resultTypes.toList.any (Try.prog.loopsFrom ·))) = true := by kernel_rfl
theorem k22 : ((Rows.checkLocalsRow.plainKeys == Try.prog.plainKeys)) = true := by kernel_rfl
theorem k23 : (Rows.checkLocalsRow.shortTexts.isNone) = true := by kernel_rfl
theorem k24 : (Try.prog.stopsHeard) = true := by kernel_rfl
theorem k25 : (Try.prog.mayEnter) = true := by kernel_rfl
theorem k26 : ((Rows.checkLocalsRow.lifted == Try.prog.liftsFinal)) = true := by kernel_rfl
theorem k27 : ((Try.prog.make == some Rows.checkLocalsRow.make)) = true := by kernel_rfl
theorem k28 : ((Rows.checkLocalsRow.kinds == (if Rows.checkLocalsRow.domain.isEmpty then [] else Try.f3.params.toList.map fun t => match Try.prog.underlying t with | some (.int k) => some k | _ => none))) = true := by kernel_rfl
theorem k29 : ((Rows.checkLocalsRow.pinned == Rows.checkLocalsRow.pinnedBy)) = true := by kernel_rfl
theorem k30 : ((Rows.checkLocalsRow.veiled == (Try.f3.params.toList ++ Rows.checkLocalsSpec.plain.varTypes Try.prog ++ Try.f3.resultTypes.toList).any (Try.prog.veiledRec ·))) = true := by kernel_rfl
theorem k31 : (Rows.checkLocalsRow.veiledFits Try.prog Try.f3.params.toList (Try.f3.params.toList ++ Rows.checkLocalsSpec.plain.varTypes Try.prog ++ Try.f3.resultTypes.toList)) = true := by kernel_rfl
set_option maxRecDepth 100000 in
theorem facts : joinedFacts Try.prog 3 Try.f3 Rows.checkLocalsSpec Rows.checkLocalsRow = true := band (band (band (band (band (band (band (band (band (band (band (band (band (band (band (band (band (band (band (band (band (band (band (band (band (band (band (band (band (band (band (k0) k1) k2) k3) k4) k5) k6) k7) k8) k9) k10) k11) k12) k13) k14) k15) k16) k17) k18) k19) k20) k21) k22) k23) k24) k25) k26) k27) k28) k29) k30) k31
theorem over : Rows.checkLocalsRow.holds Try.pinned (OpenSpec.ofChange Rows.checkLocalsSpec) :=
 OpenClaim.holds_of_wide 3 Try.f3 rfl rfl rfl rfl rfl rfl rfl ⟨rfl, rfl, rfl, rfl, rfl⟩ rfl rfl rfl rfl rfl (by kernel_rfl) Try.func3 facts
  (oR (by kernel_rfl)) (by unfold Func.isWrapper; first | (rw [if_pos (by decide +kernel)]; kernel_rfl) | (rw [if_neg (by decide +kernel)]; exact ⟨rfl, rfl⟩))
  (fun os started H enc _ => lifted os started H enc)
theorem proved : Rows.CheckLocalsSaid := over
#print axioms proved
end Go.Proofs.Ytklkbfpjimeaoaa.checkLocals
namespace Go.Proofs.Ytklkbfpjimeaoaa
theorem checkLocals_holds : Rows.CheckLocalsSaid := checkLocals.proved
end Go.Proofs.Ytklkbfpjimeaoaa
