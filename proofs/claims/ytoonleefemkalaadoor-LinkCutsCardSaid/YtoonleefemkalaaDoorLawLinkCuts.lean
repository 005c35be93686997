import Derived.Test.YtoonleefemkalaaDoorRows
import Derived.Test.YtoonleefemkalaaDoorM7
import Derived.Test.YtoonleefemkalaaDoorM16
import Derived.Test.YtoonleefemkalaaDoorM19
import Derived.WalkKit
import Derived.ProofKit
import Derived.OpenShut
import Derived.ShutString
import Derived.ChangeOld
import Derived.Below
import Derived.Carry
import Derived.SizedLaws
import Derived.LaidLaws
import Derived.LaidHandle
import Derived.Test.YtoonleefemkalaaDoorTie
import Derived.Test.YtoonleefemkalaaDoorCards
import Derived.SevenTiedAt
/- Contracts of functions. Conditions: none. -/
set_option linter.unusedSimpArgs false
set_option linter.unusedVariables false
namespace Go.Proofs.YtoonleefemkalaaDoor.linkCuts
open Go.ChangeShapes Go.WideShapes Go.ChangeAt Go.RowKit Go.Proofs.YtoonleefemkalaaDoor.E
open Go.ChangeMaps (open_string shut_string)
theorem own : ownKnob Tryd.prog.godebug = none := by kernel_rfl
theorem laidOut : laidOutB Tryd.prog = true := by kernel_rfl
def types : List TypeId := [23, 3, 9]
theorem closed : closedT Tryd.prog types = true := by kernel_rfl
theorem c1_3 : Tryd.prog.cellsOf 3 = 1 := by kernel_rfl
theorem c1_9 : Tryd.prog.cellsOf 9 = 1 := by kernel_rfl
theorem c1_23 : Tryd.prog.cellsOf 23 = 3 := by kernel_rfl
theorem list3d : ∀ (ds : List D), ds.length = 3 → ∃ d0 d1 d2, ds = [d0, d1, d2]
 | [d0, d1, d2], _ => ⟨d0, d1, d2, rfl⟩
theorem pk_of {ds : List D} (h : DT Tryd.prog 23 ds) : ∃ p : Pk, D.agg ds = p.d := by
 obtain ⟨hl, hf⟩ := h.struct_of u23
 rw [c1_23] at hl
 obtain ⟨d0, d1, d2, rfl⟩ := list3d ds hl
 have h0 : DT Tryd.prog 3 ((List.drop 0 [d0, d1, d2]).take (Tryd.prog.cellsOf 3)) := hf 0 _ rfl
 have h1 : DT Tryd.prog 3 ((List.drop 1 [d0, d1, d2]).take (Tryd.prog.cellsOf 3)) := hf 1 _ rfl
 have h2 : DT Tryd.prog 9 ((List.drop 2 [d0, d1, d2]).take (Tryd.prog.cellsOf 9)) := hf 2 _ rfl
 rw [c1_3] at h0 h1
 rw [c1_9] at h2
 obtain ⟨n0, e0, _⟩ := h0.int_of u3
 obtain ⟨n1, e1, _⟩ := h1.int_of u3
 obtain ⟨s2, e2, _⟩ := h2.str_of u9
 obtain rfl := (List.cons.inj e0).1
 obtain rfl := (List.cons.inj e1).1
 obtain rfl := (List.cons.inj e2).1
 exact ⟨⟨n0, n1, s2⟩, rfl⟩
theorem et : Tryd.prog.globalNamed "errors.errorType" = some 0 := by kernel_rfl
noncomputable def laidWorld (os : Os) : World :=
 let w0 := World.holding Tryd.prog os ⟨#[], #[], []⟩
 { w0 with heap := w0.heap.modify 0 fun
  | .cells _ t frozen => .cells #[.iface 138 (.agg #[.pointer (some ⟨1, 117, none⟩)])] t frozen
  | o => o }
theorem laidWorld_met (os : Os) (args : Array Value) : laidMetH Tryd.prog [("errors.errorType", Rows.laid_errors_errorType)] ((laidWorld os).forCall (fun _ _ => 0) ⟨#[], args, []⟩).memory :=
 laidMetH_of_parts (laidMet_nil _ _) (by kernel_rfl)
theorem u8_bd {n : Int} (h : (Lit.int .u8 n).wf = true) : 0 ≤ n ∧ n < 256 := by
 have : 0 ≤ n ∧ n ≤ 255 := by simpa [Lit.wf, IntKind.min, IntKind.max, IntKind.signed, IntKind.bits] using h
 omega
set_option maxRecDepth 100000 in
theorem lifted (os : Os) (started : os.Started) (H : Type) (enc : TypeId × Value → H) :
 ReturnsInHanded {} Tryd.checked os 5 .any (fun w args => (Rows.linkCutsSpec.pre enc Tryd.prog Tryd.f5 [] false w args ∧ laidMetH Tryd.prog [("errors.errorType", Rows.laid_errors_errorType)] w) ∧ sizedMet enc Tryd.prog Tryd.f5 (OpenSpec.ofChange Rows.linkCutsSpec) false w args) (Rows.linkCutsSpec.post enc Tryd.prog Tryd.f5 false true false false) := by
 refine returnsInHanded_of_change_and (C := Tryd.checked) (X := fun w _ => laidMetH Tryd.prog [("errors.errorType", Rows.laid_errors_errorType)] w) (fun _ _ _ hh h => h.of_heap hh) own started (by kernel_rfl) Tryd.func5
  (ChangeSpec.witness_at (enc := enc) (C := Tryd.checked) (os := os) (X := fun w _ => laidMetH Tryd.prog [("errors.errorType", Rows.laid_errors_errorType)] w) false (laidWorld os) #[.agg #[.int .i64 0, .int .i64 0, .string ByteArray.empty], .int .u8 0] 8 rfl (by kernel_rfl) (by kernel_rfl) (by kernel_rfl) (by kernel_rfl) (by kernel_rfl) (laidWorld_met os _)) ?_
 intro W base args ds gs before hval0 hW hcnd hsz0 hlaid _
 have hsz : (DataW.weightsEach Tryd.prog (Tryd.f5.params.toList ++ Rows.linkCutsSpec.plain.varTypes Tryd.prog) (ds ++ gs)).all (· ≤ reachBytes) = true := hsz0
 have hval : ∀ (j : Nat) t v, Tryd.f5.params[j]? = some t → args[j]? = some v → Value.okWide Tryd.prog W .any base t v := hval0
 have hW' := hW
 obtain ⟨p, q, hA0, hV, rfl, hfz, hnd⟩ := hW
 have hA : DataW.TrodAll enc Tryd.prog W 0 (fun _ => true) true Tryd.f5.params.toList args.toList ds p := hA0
 rw [Tryd.params5] at hA hval hsz
 obtain ⟨v0, vs0, d0, ds0, p0, q0, hargs, rfl, rfl, h0, r0⟩ := trodAll_cons hA
 obtain ⟨v1, vs1, d1, ds1, p1, q1, rfl, rfl, rfl, h1, r1⟩ := trodAll_cons r0
 obtain ⟨rfl, rfl, rfl⟩ := trodAll_nil r1
 obtain rfl : args = #[v0, v1] := by cases args; simp_all
 obtain ⟨rfl, rfl⟩ := trodVars_none hV
 obtain ⟨a0, rfl, sz0⟩ := okWide_struct u23 (hval 0 23 v0 rfl rfl)
 have k0 := h0
 have lt0 : ∀ x ∈ p0, x.block < W.heap.size := by obtain ⟨m, hm⟩ := k0; exact DataW.trod_lt m _ _ _ hm
 have w0 : ∀ n ∈ d0.weights Tryd.prog 23, n ≤ reachBytes := fun n hn => of_decide_eq_true (List.all_eq_true.1 hsz n (DataW.weights_mem_each (j := 0) (t := 23) rfl rfl n hn))
 obtain ⟨a1, rfl, rfl, rfl, y1⟩ := open_int u5 (hval 1 5 v1 rfl rfl) h1
 clear hA0 hval0 hsz0 hsz
 obtain ⟨ns0, nd0, rd0⟩ := arg_agg closed (by decide) k0 w0
 obtain ⟨pk, hpk⟩ := pk_of nd0
 rw [hpk] at rd0
 have hb := u8_bd y1
 have hwalk := E.Pure.row (c5 pk a1 hb.1 hb.2).2 W #[.agg a0, .int .u8 a1] rfl (fun i d v hd hv => by
  match i with
  | 0 => simp at hd hv; subst hd; subst hv; exact rd0
  | 1 => simp at hd hv; subst hd; subst hv; exact .int _ _
  | i + 2 => simp at hd)
 refine hwalk.mono fun e W' ⟨he, bel⟩ => ?_
 subst he
 exact ⟨_, rfl, _, _, _, [], _, [], hW', trodAll_mk1 (shut_bool u4 _), (trodAll_cons_mk (Below.trod laidOut (by kernel_rfl) (of_decide_eq_true (by kernel_rfl)) k0 bel lt0) (trodAll_cons_mk (shut_int u5 y1) trodAll_mk0)), rfl, bel.frame _, fun h => by cases h⟩
theorem band {a b : Bool} (h : a = true) (h' : b = true) : (a && b) = true := by rw [h, h']; rfl
theorem k0 : (Rows.linkCutsRow.wf (OpenSpec.ofChange Rows.linkCutsSpec)) = true := by kernel_rfl
theorem k1 : (laidOutB Tryd.prog) = true := by kernel_rfl
theorem k2 : (mapsRowed Tryd.prog) = true := by kernel_rfl
theorem k3 : (Tryd.f5.params.all (Tryd.prog.readableRec ·)) = true := by kernel_rfl
theorem k4 : (namedTie Tryd.prog Rows.linkCutsRow.named Rows.linkCutsSpec.vars) = true := by kernel_rfl
theorem k5 : ((Rows.linkCutsRow.stops == [])) = true := by kernel_rfl
theorem k6 : ((Tryd.prog.stops == [])) = true := by kernel_rfl
theorem k7 : ((Rows.linkCutsRow.knobs == [])) = true := by kernel_rfl
theorem k8 : ((Tryd.prog.stopKnobs == [])) = true := by kernel_rfl
theorem k9 : ((Rows.linkCutsRow.inPlace == Tryd.prog.inPlace (5 : FuncId))) = true := by kernel_rfl
theorem k10 : ((Rows.linkCutsRow.unfollowed == Tryd.prog.unfollowed (5 : FuncId))) = true := by kernel_rfl
theorem k11 : ((Rows.linkCutsRow.recurses == Tryd.prog.recurses (5 : FuncId))) = true := by kernel_rfl
theorem k12 : ((Rows.linkCutsRow.named == Tryd.prog.varsNamed (5 : FuncId))) = true := by kernel_rfl
theorem k13 : ((Rows.linkCutsRow.maps == (Tryd.f5.params.toList ++ Rows.linkCutsSpec.plain.varTypes Tryd.prog).any (Tryd.prog.mapsRec ·))) = true := by kernel_rfl
theorem k14 : ((Rows.linkCutsRow.ifaces == (Tryd.f5.params.toList ++ Rows.linkCutsSpec.plain.varTypes Tryd.prog).any (Tryd.prog.ifacesRec ·))) = true := by kernel_rfl
theorem k15 : ((Rows.linkCutsRow.mapsOut == Tryd.prog.mapsAmong Tryd.f5.resultTypes.toList)) = true := by kernel_rfl
theorem k16 : ((Rows.linkCutsRow.loops == (Tryd.f5.params.toList ++ Rows.linkCutsSpec.plain.varTypes Tryd.prog).any (Tryd.prog.loopsFrom ·))) = true := by kernel_rfl
theorem k17 : ((Rows.linkCutsRow.wideKeys == (Tryd.f5.params.toList ++ Rows.linkCutsSpec.plain.varTypes Tryd.prog ++ Tryd.f5.resultTypes.toList).any (Tryd.prog.wideKeysFrom ·))) = true := by kernel_rfl
theorem k18 : (Rows.linkCutsSpec.vars.all (Tryd.prog.varReadable ·)) = true := by kernel_rfl
theorem k19 : (Tryd.f5.resultTypes.all (fun t => Tryd.prog.readableRec t && decide (t < Tryd.prog.types.size))) = true := by kernel_rfl
theorem k20 : ((Rows.linkCutsRow.ifacesOut == Tryd.f5.resultTypes.toList.any (Tryd.prog.ifacesRec ·))) = true := by kernel_rfl
theorem k21 : ((Rows.linkCutsRow.loopsOut == Tryd.f5.resultTypes.toList.any (Tryd.prog.loopsFrom ·))) = true := by kernel_rfl
theorem k22 : ((Rows.linkCutsRow.plainKeys == Tryd.prog.plainKeys)) = true := by kernel_rfl
theorem k23 : (Rows.linkCutsRow.shortTexts.isNone) = true := by kernel_rfl
theorem k24 : (Tryd.prog.stopsHeard) = true := by kernel_rfl
theorem k25 : (Tryd.prog.mayEnter) = true := by kernel_rfl
theorem k26 : ((Rows.linkCutsRow.lifted == Tryd.prog.liftsFinal)) = true := by kernel_rfl
theorem k27 : ((Tryd.prog.make == some Rows.linkCutsRow.make)) = true := by kernel_rfl
theorem k28 : ((Rows.linkCutsRow.kinds == (if Rows.linkCutsRow.domain.isEmpty then [] else Tryd.f5.params.toList.map fun t => match Tryd.prog.underlying t with | some (.int k) => some k | _ => none))) = true := by kernel_rfl
theorem k29 : ((Rows.linkCutsRow.pinned == Rows.linkCutsRow.pinnedBy)) = true := by kernel_rfl
theorem k30 : ((Rows.linkCutsRow.veiled == (Tryd.f5.params.toList ++ Rows.linkCutsSpec.plain.varTypes Tryd.prog ++ Tryd.f5.resultTypes.toList).any (Tryd.prog.veiledRec ·))) = true := by kernel_rfl
theorem k31 : (Rows.linkCutsRow.veiledFits Tryd.prog Tryd.f5.params.toList (Tryd.f5.params.toList ++ Rows.linkCutsSpec.plain.varTypes Tryd.prog ++ Tryd.f5.resultTypes.toList)) = true := by kernel_rfl
set_option maxRecDepth 100000 in
theorem facts : joinedFacts Tryd.prog 5 Tryd.f5 Rows.linkCutsSpec Rows.linkCutsRow = true := band (band (band (band (band (band (band (band (band (band (band (band (band (band (band (band (band (band (band (band (band (band (band (band (band (band (band (band (band (band (band (k0) k1) k2) k3) k4) k5) k6) k7) k8) k9) k10) k11) k12) k13) k14) k15) k16) k17) k18) k19) k20) k21) k22) k23) k24) k25) k26) k27) k28) k29) k30) k31
theorem over : Rows.linkCutsRow.holds Tryd.pinned (OpenSpec.ofChange Rows.linkCutsSpec) :=
 OpenClaim.holds_of_wide 5 Tryd.f5 rfl rfl rfl rfl rfl rfl rfl ⟨rfl, rfl, rfl, rfl, rfl⟩ rfl rfl rfl rfl rfl (by kernel_rfl) Tryd.func5 facts
  (of_decide_eq_true (by kernel_rfl)) (by unfold Func.isWrapper; first | (rw [if_pos (by decide +kernel)]; kernel_rfl) | (rw [if_neg (by decide +kernel)]; exact ⟨rfl, rfl⟩))
  (fun os started H enc _ => lifted os started H enc)
theorem proved : Rows.LinkCutsSaid := over
#print axioms proved
end Go.Proofs.YtoonleefemkalaaDoor.linkCuts
namespace Go.Proofs.YtoonleefemkalaaDoor
theorem linkCuts_holds : Rows.LinkCutsCardSaid :=
 Claim7.holds_tied_plain_at .later [] [.handle] true (true, "2562e351ea5800658569fac3256bc35531d351c5955d68d91874ac7e25d36a23") true
  linkCuts.proved (fun _ h => by cases h) (by kernel_rfl) (fun _ h => by cases h) linkCuts_row_tie rfl ⟨rfl, rfl⟩ (by kernel_rfl) rfl
  (fun f fn hf hfn => by
   obtain rfl : f = 5 := Option.some.inj ((show Tryd.prog.funcNamed "raddle/raddlelaw31.LinkCuts" = some 5 by kernel_rfl).symm.trans hf) |>.symm
   obtain rfl : fn = Tryd.f5 := (Option.some.inj (Tryd.func5.symm.trans hfn)).symm
   exact ⟨by kernel_rfl, fun j t ht => by
    rw [Tryd.params5] at ht
    have hq : ∀ t ∈ [23, 5], Tryd.prog.wantsStandIn t = false := by
     intro t ht
     simp only [List.mem_cons, List.not_mem_nil, or_false] at ht
     rcases ht with rfl | rfl <;> kernel_rfl
    exact hq t (List.mem_of_getElem? (by simpa using ht))⟩)
  (by kernel_rfl)
end Go.Proofs.YtoonleefemkalaaDoor
