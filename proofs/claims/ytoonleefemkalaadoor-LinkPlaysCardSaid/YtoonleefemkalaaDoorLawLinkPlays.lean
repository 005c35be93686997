import Derived.Test.YtoonleefemkalaaDoorRows
import Derived.Test.YtoonleefemkalaaDoorM7
import Derived.Test.YtoonleefemkalaaDoorM19
import Derived.Test.YtoonleefemkalaaDoorM32
import Derived.WalkKit
import Derived.ProofKit
import Derived.OpenShut
import Derived.ShutString
import Derived.ChangeOld
import Derived.Below
import Derived.Carry
import Derived.SizedLaws
import Derived.LaidLaws
import Derived.LaidHandle
import Derived.Test.YtoonleefemkalaaDoorTie
import Derived.Test.YtoonleefemkalaaDoorCards
import Derived.SevenTiedAt
/- Contracts of functions. Conditions: none. -/
set_option linter.unusedSimpArgs false
set_option linter.unusedVariables false
namespace Go.Proofs.YtoonleefemkalaaDoor.linkPlays
open Go.ChangeShapes Go.WideShapes Go.ChangeAt Go.RowKit Go.Proofs.YtoonleefemkalaaDoor.E
open Go.ChangeMaps (open_string shut_string)
theorem own : ownKnob Tryd.prog.godebug = none := by kernel_rfl
theorem laidOut : laidOutB Tryd.prog = true := by kernel_rfl
def types : List TypeId := [38, 3, 35, 9, 36, 23, 57, 40, 4]
theorem closed : closedT Tryd.prog types = true := by kernel_rfl
theorem c1_3 : Tryd.prog.cellsOf 3 = 1 := by kernel_rfl
theorem c1_9 : Tryd.prog.cellsOf 9 = 1 := by kernel_rfl
theorem c1_23 : Tryd.prog.cellsOf 23 = 3 := by kernel_rfl
theorem list3d : ∀ (ds : List D), ds.length = 3 → ∃ d0 d1 d2, ds = [d0, d1, d2]
 | [d0, d1, d2], _ => ⟨d0, d1, d2, rfl⟩
theorem pk_of {ds : List D} (h : DT Tryd.prog 23 ds) : ∃ p : Pk, D.agg ds = p.d := by
 obtain ⟨hl, hf⟩ := h.struct_of u23
 rw [c1_23] at hl
 obtain ⟨d0, d1, d2, rfl⟩ := list3d ds hl
 have h0 : DT Tryd.prog 3 ((List.drop 0 [d0, d1, d2]).take (Tryd.prog.cellsOf 3)) := hf 0 _ rfl
 have h1 : DT Tryd.prog 3 ((List.drop 1 [d0, d1, d2]).take (Tryd.prog.cellsOf 3)) := hf 1 _ rfl
 have h2 : DT Tryd.prog 9 ((List.drop 2 [d0, d1, d2]).take (Tryd.prog.cellsOf 9)) := hf 2 _ rfl
 rw [c1_3] at h0 h1
 rw [c1_9] at h2
 obtain ⟨n0, e0, _⟩ := h0.int_of u3
 obtain ⟨n1, e1, _⟩ := h1.int_of u3
 obtain ⟨s2, e2, _⟩ := h2.str_of u9
 obtain rfl := (List.cons.inj e0).1
 obtain rfl := (List.cons.inj e1).1
 obtain rfl := (List.cons.inj e2).1
 exact ⟨⟨n0, n1, s2⟩, rfl⟩
theorem et : Tryd.prog.globalNamed "errors.errorType" = some 0 := by kernel_rfl
noncomputable def laidWorld (os : Os) : World :=
 let w0 := World.holding Tryd.prog os ⟨#[], #[], []⟩
 { w0 with heap := w0.heap.modify 0 fun
  | .cells _ t frozen => .cells #[.iface 138 (.agg #[.pointer (some ⟨1, 117, none⟩)])] t frozen
  | o => o }
theorem laidWorld_met (os : Os) (args : Array Value) : laidMetH Tryd.prog [("errors.errorType", Rows.laid_errors_errorType)] ((laidWorld os).forCall (fun _ _ => 0) ⟨#[], args, []⟩).memory :=
 laidMetH_of_parts (laidMet_nil _ _) (by kernel_rfl)
theorem hrt : (Tryd.prog.cutTypes.find? (·.1 == "internal/reflectlite.rtype")).map (·.2) = some 138 := by kernel_rfl
theorem oneRow : ((List.range Tryd.prog.types.size).filter fun t => Tryd.prog.rowNamed t [101, 114, 114, 111, 114]) = [117] := by kernel_rfl
theorem handle_of_laid {W : World} (h : laidMetH Tryd.prog [("errors.errorType", Rows.laid_errors_errorType)] W) : W.cell? ⟨0, 0, none⟩ = some gval := by
 have h' : laidMet Tryd.prog [] W ∧ handlesMet Tryd.prog [("errors.errorType", Rows.laid_errors_errorType)] W := h
 obtain ⟨name, u, ty, e1, e2, e3, e4, e5⟩ := h'.2 _ (List.mem_singleton.2 rfl)
 have en : name = [101, 114, 114, 111, 114] := (Option.some.inj e1).symm
 subst en
 obtain rfl := Option.some.inj (hrt.symm.trans e2)
 have hm : ty ∈ (List.range Tryd.prog.types.size).filter fun t => Tryd.prog.rowNamed t [101, 114, 114, 111, 114] := List.mem_filter.2 ⟨List.mem_range.2 e3, e4⟩
 rw [oneRow] at hm
 obtain rfl := List.mem_singleton.1 hm
 have hh : typeHandle Tryd.prog 117 = .pointer (some ⟨1, 117, none⟩) := by kernel_rfl
 rw [hh] at e5
 simpa [gval] using World.var?_cell et e5 0
theorem lad_of {W : World} (h : laidMetH Tryd.prog [("errors.errorType", Rows.laid_errors_errorType)] W) : Lad (allOf W) W := by
 have h1 := handle_of_laid h
 exact ⟨(spot_of h1).2, h1⟩
theorem c1_4 : Tryd.prog.cellsOf 4 = 1 := by kernel_rfl
theorem c1_35 : Tryd.prog.cellsOf 35 = 1 := by kernel_rfl
theorem c1_36 : Tryd.prog.cellsOf 36 = 1 := by kernel_rfl
theorem c1_38 : Tryd.prog.cellsOf 38 = 10 := by kernel_rfl
theorem c1_40 : Tryd.prog.cellsOf 40 = 4 := by kernel_rfl
theorem list10d : ∀ (ds : List D), ds.length = 10 → ∃ d0 d1 d2 d3 d4 d5 d6 d7 d8 d9, ds = [d0, d1, d2, d3, d4, d5, d6, d7, d8, d9]
 | [d0, d1, d2, d3, d4, d5, d6, d7, d8, d9], _ => ⟨d0, d1, d2, d3, d4, d5, d6, d7, d8, d9, rfl⟩
theorem list4d : ∀ (ds : List D), ds.length = 4 → ∃ d0 d1 d2 d3, ds = [d0, d1, d2, d3]
 | [d0, d1, d2, d3], _ => ⟨d0, d1, d2, d3, rfl⟩
theorem strs_of {ds : List D} (h : DT Tryd.prog 35 ds) : ∃ l : List ByteArray, ds = [strs l] ∧ l.length ≤ reachBytes := by
 obtain ⟨dss, rfl, hl, he⟩ := h.sl_of u35
 have key : ∀ dss : List (List D), (∀ (i : Nat) ds, dss[i]? = some ds → DT Tryd.prog 9 ds) → ∃ l : List ByteArray, dss.map (D.mk Tryd.prog 9) = l.map D.str ∧ l.length = dss.length := by
  intro dss
  induction dss with
  | nil => exact fun _ => ⟨[], rfl, rfl⟩
  | cons a r ih =>
   intro h
   obtain ⟨l, h1, h2⟩ := ih (fun i ds hi => h (i + 1) ds hi)
   obtain ⟨s, rfl, _⟩ := (h 0 a rfl).str_of u9
   refine ⟨s :: l, ?_, by simp [h2]⟩
   rw [List.map_cons, List.map_cons, h1]
   simp [D.mk, u9]
 obtain ⟨l, h1, h2⟩ := key dss he
 exact ⟨l, by rw [h1]; rfl, by omega⟩
theorem pks_of {ds : List D} (h : DT Tryd.prog 36 ds) : ∃ l : List Pk, ds = [.sl (l.map Pk.d)] ∧ l.length ≤ reachBytes := by
 obtain ⟨dss, rfl, hl, he⟩ := h.sl_of u36
 have key : ∀ dss : List (List D), (∀ (i : Nat) ds, dss[i]? = some ds → DT Tryd.prog 23 ds) → ∃ l : List Pk, dss.map (D.mk Tryd.prog 23) = l.map Pk.d ∧ l.length = dss.length := by
  intro dss
  induction dss with
  | nil => exact fun _ => ⟨[], rfl, rfl⟩
  | cons a r ih =>
   intro h
   obtain ⟨l, h1, h2⟩ := ih (fun i ds hi => h (i + 1) ds hi)
   obtain ⟨p, hp⟩ := pk_of (h 0 a rfl)
   refine ⟨p :: l, ?_, by simp [h2]⟩
   rw [List.map_cons, List.map_cons, h1]
   simp [D.mk, u23, hp]
 obtain ⟨l, h1, h2⟩ := key dss he
 exact ⟨l, by rw [h1], by omega⟩
theorem ch_of {ds : List D} (h : DT Tryd.prog 38 ds) : ∃ c : Ch, D.agg ds = c.d ∧ c.una.length ≤ reachBytes ∧ c.wai.length ≤ reachBytes ∧ c.ear.length ≤ reachBytes ∧ c.del.length ≤ reachBytes ∧ c.tos.length ≤ reachBytes ∧ c.bak.length ≤ reachBytes := by
 obtain ⟨hl, hf⟩ := h.struct_of u38
 rw [c1_38] at hl
 obtain ⟨d0, d1, d2, d3, d4, d5, d6, d7, d8, d9, rfl⟩ := list10d ds hl
 have h0 : DT Tryd.prog 3 ((List.drop 0 [d0, d1, d2, d3, d4, d5, d6, d7, d8, d9]).take (Tryd.prog.cellsOf 3)) := hf 0 _ rfl
 have h1 : DT Tryd.prog 3 ((List.drop 1 [d0, d1, d2, d3, d4, d5, d6, d7, d8, d9]).take (Tryd.prog.cellsOf 3)) := hf 1 _ rfl
 have h2 : DT Tryd.prog 3 ((List.drop 2 [d0, d1, d2, d3, d4, d5, d6, d7, d8, d9]).take (Tryd.prog.cellsOf 3)) := hf 2 _ rfl
 have h3 : DT Tryd.prog 35 ((List.drop 3 [d0, d1, d2, d3, d4, d5, d6, d7, d8, d9]).take (Tryd.prog.cellsOf 35)) := hf 3 _ rfl
 have h4 : DT Tryd.prog 35 ((List.drop 4 [d0, d1, d2, d3, d4, d5, d6, d7, d8, d9]).take (Tryd.prog.cellsOf 35)) := hf 4 _ rfl
 have h5 : DT Tryd.prog 3 ((List.drop 5 [d0, d1, d2, d3, d4, d5, d6, d7, d8, d9]).take (Tryd.prog.cellsOf 3)) := hf 5 _ rfl
 have h6 : DT Tryd.prog 36 ((List.drop 6 [d0, d1, d2, d3, d4, d5, d6, d7, d8, d9]).take (Tryd.prog.cellsOf 36)) := hf 6 _ rfl
 have h7 : DT Tryd.prog 35 ((List.drop 7 [d0, d1, d2, d3, d4, d5, d6, d7, d8, d9]).take (Tryd.prog.cellsOf 35)) := hf 7 _ rfl
 have h8 : DT Tryd.prog 35 ((List.drop 8 [d0, d1, d2, d3, d4, d5, d6, d7, d8, d9]).take (Tryd.prog.cellsOf 35)) := hf 8 _ rfl
 have h9 : DT Tryd.prog 35 ((List.drop 9 [d0, d1, d2, d3, d4, d5, d6, d7, d8, d9]).take (Tryd.prog.cellsOf 35)) := hf 9 _ rfl
 rw [c1_3] at h0 h1 h2 h5
 rw [c1_35] at h3 h4 h7 h8 h9
 rw [c1_36] at h6
 obtain ⟨n0, e0, _⟩ := h0.int_of u3
 obtain ⟨n1, e1, _⟩ := h1.int_of u3
 obtain ⟨n2, e2, _⟩ := h2.int_of u3
 obtain ⟨n5, e5, _⟩ := h5.int_of u3
 obtain ⟨l3, e3, b3⟩ := strs_of h3
 obtain ⟨l4, e4, b4⟩ := strs_of h4
 obtain ⟨l6, e6, b6⟩ := pks_of h6
 obtain ⟨l7, e7, b7⟩ := strs_of h7
 obtain ⟨l8, e8, b8⟩ := strs_of h8
 obtain ⟨l9, e9, b9⟩ := strs_of h9
 obtain rfl := (List.cons.inj e0).1
 obtain rfl := (List.cons.inj e1).1
 obtain rfl := (List.cons.inj e2).1
 obtain rfl := (List.cons.inj e3).1
 obtain rfl := (List.cons.inj e4).1
 obtain rfl := (List.cons.inj e5).1
 obtain rfl := (List.cons.inj e6).1
 obtain rfl := (List.cons.inj e7).1
 obtain rfl := (List.cons.inj e8).1
 obtain rfl := (List.cons.inj e9).1
 exact ⟨⟨n0, n1, n2, l3, l4, n5, l6, l7, l8, l9⟩, rfl, b3, b4, b6, b7, b8, b9⟩
theorem ac_of {ds : List D} (h : DT Tryd.prog 40 ds) : ∃ a : Ac, D.agg ds = a.d := by
 obtain ⟨hl, hf⟩ := h.struct_of u40
 rw [c1_40] at hl
 obtain ⟨d0, d1, d2, d3, rfl⟩ := list4d ds hl
 have h0 : DT Tryd.prog 3 ((List.drop 0 [d0, d1, d2, d3]).take (Tryd.prog.cellsOf 3)) := hf 0 _ rfl
 have h1 : DT Tryd.prog 4 ((List.drop 1 [d0, d1, d2, d3]).take (Tryd.prog.cellsOf 4)) := hf 1 _ rfl
 have h2 : DT Tryd.prog 3 ((List.drop 2 [d0, d1, d2, d3]).take (Tryd.prog.cellsOf 3)) := hf 2 _ rfl
 have h3 : DT Tryd.prog 3 ((List.drop 3 [d0, d1, d2, d3]).take (Tryd.prog.cellsOf 3)) := hf 3 _ rfl
 rw [c1_3] at h0 h2 h3
 rw [c1_4] at h1
 obtain ⟨n0, e0, _⟩ := h0.int_of u3
 obtain ⟨b1, e1⟩ := h1.bool_of u4
 obtain ⟨n2, e2, _⟩ := h2.int_of u3
 obtain ⟨n3, e3, _⟩ := h3.int_of u3
 obtain rfl := (List.cons.inj e0).1
 obtain rfl := (List.cons.inj e1).1
 obtain rfl := (List.cons.inj e2).1
 obtain rfl := (List.cons.inj e3).1
 exact ⟨⟨n0, b1, n2, n3⟩, rfl⟩
theorem as_of (ds : List D) (h : DT Tryd.prog 40 ds) : ∃ a : Ac, True ∧ D.mk Tryd.prog 40 ds = a.d := by
 obtain ⟨a, ha⟩ := ac_of h
 exact ⟨a, trivial, by simp [D.mk, u40, ha]⟩
set_option maxRecDepth 100000 in
theorem lifted (os : Os) (started : os.Started) (H : Type) (enc : TypeId × Value → H) :
 ReturnsInHanded {} Tryd.checked os 7 .any (fun w args => (Rows.linkPlaysSpec.pre enc Tryd.prog Tryd.f7 [] false w args ∧ laidMetH Tryd.prog [("errors.errorType", Rows.laid_errors_errorType)] w) ∧ sizedMet enc Tryd.prog Tryd.f7 (OpenSpec.ofChange Rows.linkPlaysSpec) false w args) (Rows.linkPlaysSpec.post enc Tryd.prog Tryd.f7 false true false false) := by
 refine returnsInHanded_of_change_and (C := Tryd.checked) (X := fun w _ => laidMetH Tryd.prog [("errors.errorType", Rows.laid_errors_errorType)] w) (fun _ _ _ hh h => h.of_heap hh) own started (by kernel_rfl) Tryd.func7
  (ChangeSpec.witness_at (enc := enc) (C := Tryd.checked) (os := os) (X := fun w _ => laidMetH Tryd.prog [("errors.errorType", Rows.laid_errors_errorType)] w) false (laidWorld os) #[.agg #[.int .i64 0, .int .i64 0, .int .i64 0, .slice none 0 0, .slice none 0 0, .int .i64 0, .slice none 0 0, .slice none 0 0, .slice none 0 0, .slice none 0 0], .slice none 0 0] 8 rfl (by kernel_rfl) (by kernel_rfl) (by kernel_rfl) (by kernel_rfl) (by kernel_rfl) (laidWorld_met os _)) ?_
 intro W base args ds gs before hval0 hW hcnd hsz0 hlaid _
 have hsz : (DataW.weightsEach Tryd.prog (Tryd.f7.params.toList ++ Rows.linkPlaysSpec.plain.varTypes Tryd.prog) (ds ++ gs)).all (· ≤ reachBytes) = true := hsz0
 have hval : ∀ (j : Nat) t v, Tryd.f7.params[j]? = some t → args[j]? = some v → Value.okWide Tryd.prog W .any base t v := hval0
 have hW' := hW
 obtain ⟨p, q, hA0, hV, rfl, hfz, hnd⟩ := hW
 have hA : DataW.TrodAll enc Tryd.prog W 0 (fun _ => true) true Tryd.f7.params.toList args.toList ds p := hA0
 rw [Tryd.params7] at hA hval hsz
 obtain ⟨v0, vs0, d0, ds0, p0, q0, hargs, rfl, rfl, h0, r0⟩ := trodAll_cons hA
 obtain ⟨v1, vs1, d1, ds1, p1, q1, rfl, rfl, rfl, h1, r1⟩ := trodAll_cons r0
 obtain ⟨rfl, rfl, rfl⟩ := trodAll_nil r1
 obtain rfl : args = #[v0, v1] := by cases args; simp_all
 obtain ⟨rfl, rfl⟩ := trodVars_none hV
 obtain ⟨a0, rfl, sz0⟩ := okWide_struct u38 (hval 0 38 v0 rfl rfl)
 have k0 := h0
 have lt0 : ∀ x ∈ p0, x.block < W.heap.size := by obtain ⟨m, hm⟩ := k0; exact DataW.trod_lt m _ _ _ hm
 have w0 : ∀ n ∈ d0.weights Tryd.prog 38, n ≤ reachBytes := fun n hn => oR (List.all_eq_true.1 hsz n (DataW.weights_mem_each (j := 0) (t := 38) rfl rfl n hn))
 obtain ⟨a1, len1, cap1, rfl⟩ := okWide_slice u57 (hval 1 57 v1 rfl rfl)
 have k1 := h1
 have lt1 : ∀ x ∈ p1, x.block < W.heap.size := by obtain ⟨m, hm⟩ := k1; exact DataW.trod_lt m _ _ _ hm
 have w1 : ∀ n ∈ d1.weights Tryd.prog 57, n ≤ reachBytes := fun n hn => oR (List.all_eq_true.1 hsz n (DataW.weights_mem_each (j := 1) (t := 57) rfl rfl n hn))
 clear hA0 hval0 hsz0 hsz
 obtain ⟨ns0, nd0, rd0⟩ := arg_agg closed (by decide) k0 w0
 obtain ⟨ch, hch, b0, b1, b2, b3, b4, b5⟩ := ch_of nd0
 rw [hch] at rd0
 obtain ⟨ss1, rd1, sl1, sd1⟩ := arg_sl closed (by decide) u57 k1 w1
 obtain ⟨acs, sx1, sq1, sn1⟩ := list_of (f := Ac.d) as_of ss1 sd1
 rw [sx1] at rd1
 have hwalk := PL.row (c7 ch acs (by unfold reachBytes at b0; omega) (by unfold reachBytes at b1; omega) (by unfold reachBytes at b2; omega) (by unfold reachBytes at b3; omega) (by unfold reachBytes at b4; omega) (by unfold reachBytes at b5; omega)) W (lad_of hlaid) #[.agg a0, .slice a1 len1 cap1] rfl (fun i d v hd hv => by
  match i with
  | 0 => simp at hd hv; subst hd; subst hv; exact rd0
  | 1 => simp at hd hv; subst hd; subst hv; exact rd1
  | i + 2 => simp at hd)
 refine hwalk.mono fun e W' ⟨he, bel⟩ => ?_
 subst he
 exact ⟨_, rfl, _, _, _, [], _, [], hW', trodAll_mk1 (shut_bool u4 _), (trodAll_cons_mk (Below.trod laidOut (by kernel_rfl) (oR (by kernel_rfl)) k0 bel lt0) (trodAll_cons_mk (Below.trod laidOut (by kernel_rfl) (oR (by kernel_rfl)) k1 bel lt1) trodAll_mk0)), rfl, bel.frame _, fun h => by cases h⟩
theorem band {a b : Bool} (h : a = true) (h' : b = true) : (a && b) = true := by rw [h, h']; rfl
theorem k0 : (Rows.linkPlaysRow.wf (OpenSpec.ofChange Rows.linkPlaysSpec)) = true := by kernel_rfl
theorem k1 : (laidOutB Tryd.prog) = true := by kernel_rfl
theorem k2 : (mapsRowed Tryd.prog) = true := by kernel_rfl
theorem k3 : (Tryd.f7.params.all (Tryd.prog.readableRec ·)) = true := by kernel_rfl
theorem k4 : (namedTie Tryd.prog Rows.linkPlaysRow.named Rows.linkPlaysSpec.vars) = true := by kernel_rfl
theorem k5 : ((Rows.linkPlaysRow.stops == [])) = true := by kernel_rfl
theorem k6 : ((Tryd.prog.stops == [])) = true := by kernel_rfl
theorem k7 : ((Rows.linkPlaysRow.knobs == [])) = true := by kernel_rfl
theorem k8 : ((Tryd.prog.stopKnobs == [])) = true := by kernel_rfl
theorem k9 : ((Rows.linkPlaysRow.inPlace == Tryd.prog.inPlace (7 : FuncId))) = true := by kernel_rfl
theorem k10 : ((Rows.linkPlaysRow.unfollowed == Tryd.prog.unfollowed (7 : FuncId))) = true := by kernel_rfl
theorem k11 : ((Rows.linkPlaysRow.recurses == Tryd.prog.recurses (7 : FuncId))) = true := by kernel_rfl
theorem k12 : ((Rows.linkPlaysRow.named == Tryd.prog.varsNamed (7 : FuncId))) = true := by kernel_rfl
theorem k13 : ((Rows.linkPlaysRow.maps == (Tryd.f7.params.toList ++ Rows.linkPlaysSpec.plain.varTypes Tryd.prog).any (Tryd.prog.mapsRec ·))) = true := by kernel_rfl
theorem k14 : ((Rows.linkPlaysRow.ifaces == (Tryd.f7.params.toList ++ Rows.linkPlaysSpec.plain.varTypes Tryd.prog).any (Tryd.prog.ifacesRec ·))) = true := by kernel_rfl
theorem k15 : ((Rows.linkPlaysRow.mapsOut == Tryd.prog.mapsAmong Tryd.f7.resultTypes.toList)) = true := by kernel_rfl
theorem k16 : ((Rows.linkPlaysRow.loops == (Tryd.f7.params.toList ++ Rows.linkPlaysSpec.plain.varTypes Tryd.prog).any (Tryd.prog.loopsFrom ·))) = true := by kernel_rfl
theorem k17 : ((Rows.linkPlaysRow.wideKeys == (Tryd.f7.params.toList ++ Rows.linkPlaysSpec.plain.varTypes Tryd.prog ++ Tryd.f7.resultTypes.toList).any (Tryd.prog.wideKeysFrom ·))) = true := by kernel_rfl
theorem k18 : (Rows.linkPlaysSpec.vars.all (Tryd.prog.varReadable ·)) = true := by kernel_rfl
theorem k19 : (Tryd.f7.resultTypes.all (fun t => Tryd.prog.readableRec t && decide (t < Tryd.prog.types.size))) = true := by kernel_rfl
theorem k20 : ((Rows.linkPlaysRow.ifacesOut == Tryd.f7.resultTypes.toList.any (Tryd.prog.ifacesRec ·))) = true := by kernel_rfl
theorem k21 : ((Rows.linkPlaysRow.loopsOut == Tryd.f7.resultTypes.toList.any (Tryd.prog.loopsFrom ·))) = true := by kernel_rfl
theorem k22 : ((Rows.linkPlaysRow.plainKeys == Tryd.prog.plainKeys)) = true := by kernel_rfl
theorem k23 : (Rows.linkPlaysRow.shortTexts.isNone) = true := by kernel_rfl
theorem k24 : (Tryd.prog.stopsHeard) = true := by kernel_rfl
theorem k25 : (Tryd.prog.mayEnter) = true := by kernel_rfl
theorem k26 : ((Rows.linkPlaysRow.lifted == Tryd.prog.liftsFinal)) = true := by kernel_rfl
theorem k27 : ((Tryd.prog.make == some Rows.linkPlaysRow.make)) = true := by kernel_rfl
theorem k28 : ((Rows.linkPlaysRow.kinds == (if Rows.linkPlaysRow.domain.isEmpty then [] else Tryd.f7.params.toList.map fun t => match Tryd.prog.underlying t with | some (.int k) => some k | _ => none))) = true := by kernel_rfl
theorem k29 : ((Rows.linkPlaysRow.pinned == Rows.linkPlaysRow.pinnedBy)) = true := by kernel_rfl
theorem k30 : ((Rows.linkPlaysRow.veiled == (Tryd.f7.params.toList ++ Rows.linkPlaysSpec.plain.varTypes Tryd.prog ++ Tryd.f7.resultTypes.toList).any (Tryd.prog.veiledRec ·))) = true := by kernel_rfl
theorem k31 : (Rows.linkPlaysRow.veiledFits Tryd.prog Tryd.f7.params.toList (Tryd.f7.params.toList ++ Rows.linkPlaysSpec.plain.varTypes Tryd.prog ++ Tryd.f7.resultTypes.toList)) = true := by kernel_rfl
set_option maxRecDepth 100000 in
theorem facts : joinedFacts Tryd.prog 7 Tryd.f7 Rows.linkPlaysSpec Rows.linkPlaysRow = true := band (band (band (band (band (band (band (band (band (band (band (band (band (band (band (band (band (band (band (band (band (band (band (band (band (band (band (band (band (band (band (k0) k1) k2) k3) k4) k5) k6) k7) k8) k9) k10) k11) k12) k13) k14) k15) k16) k17) k18) k19) k20) k21) k22) k23) k24) k25) k26) k27) k28) k29) k30) k31
theorem over : Rows.linkPlaysRow.holds Tryd.pinned (OpenSpec.ofChange Rows.linkPlaysSpec) :=
 OpenClaim.holds_of_wide 7 Tryd.f7 rfl rfl rfl rfl rfl rfl rfl ⟨rfl, rfl, rfl, rfl, rfl⟩ rfl rfl rfl rfl rfl (by kernel_rfl) Tryd.func7 facts
  (oR (by kernel_rfl)) (by unfold Func.isWrapper; first | (rw [if_pos (by decide +kernel)]; kernel_rfl) | (rw [if_neg (by decide +kernel)]; exact ⟨rfl, rfl⟩))
  (fun os started H enc _ => lifted os started H enc)
theorem proved : Rows.LinkPlaysSaid := over
#print axioms proved
end Go.Proofs.YtoonleefemkalaaDoor.linkPlays
namespace Go.Proofs.YtoonleefemkalaaDoor
theorem linkPlays_holds : Rows.LinkPlaysCardSaid :=
 Claim7.holds_tied_plain_at .later [] [.handle] true (true, "2562e351ea5800658569fac3256bc35531d351c5955d68d91874ac7e25d36a23") true
  linkPlays.proved (fun _ h => by cases h) (by kernel_rfl) (fun _ h => by cases h) linkPlays_row_tie rfl ⟨rfl, rfl⟩ (by kernel_rfl) rfl
  (fun f fn hf hfn => by
   obtain rfl : f = 7 := Option.some.inj ((show Tryd.prog.funcNamed "raddle/raddlelaw31.LinkPlays" = some 7 by kernel_rfl).symm.trans hf) |>.symm
   obtain rfl : fn = Tryd.f7 := (Option.some.inj (Tryd.func7.symm.trans hfn)).symm
   exact ⟨by kernel_rfl, fun j t ht => by
    rw [Tryd.params7] at ht
    have hq : ∀ t ∈ [38, 57], Tryd.prog.wantsStandIn t = false := by
     intro t ht
     simp only [List.mem_cons, List.not_mem_nil, or_false] at ht
     rcases ht with rfl | rfl <;> kernel_rfl
    exact hq t (E.mG (by simpa using ht))⟩)
  (by kernel_rfl)
end Go.Proofs.YtoonleefemkalaaDoor
