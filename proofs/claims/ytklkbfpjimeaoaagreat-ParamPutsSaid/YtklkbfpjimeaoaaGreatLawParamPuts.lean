/- The row of ParamPuts, out of the walk's contract (c7). Conditions: none. -/
import Derived.Test.YtklkbfpjimeaoaaGreatRows
import Derived.Test.YtklkbfpjimeaoaaGreatE16
import Derived.Test.YtklkbfpjimeaoaaGreatP7
import Derived.Test.YtklkbfpjimeaoaaGreatPzb
import Derived.WalkKit
import Derived.ProofKit
import Derived.OpenShut
import Derived.ShutString
import Derived.ChangeOld
import Derived.Below
import Derived.Carry
import Derived.SizedLaws
namespace Go.Proofs.YtklkbfpjimeaoaaGreat.paramPuts
open Go.ChangeShapes Go.WideShapes Go.ChangeAt Go.RowKit Go.Proofs.YtklkbfpjimeaoaaGreat.E
open Go.ChangeMaps (open_string shut_string)
theorem own : ownKnob Tryz.prog.godebug = none := by kernel_rfl
theorem laidOut : laidOutB Tryz.prog = true := by kernel_rfl
def types : List TypeId := [27, 22, 3, 9, 49, 59]
theorem closed : closedT Tryz.prog types = true := by kernel_rfl
theorem c72 : Tryz.prog.bytesOf 59 = 72 := by kernel_rfl
set_option maxRecDepth 100000 in
theorem lifted (os : Os) (started : os.Started) (H : Type) (enc : TypeId × Value → H) :
    ReturnsInHanded {} Tryz.checked os 7 .any (Rows.paramPutsSpec.pre6 enc Tryz.prog Tryz.f7 Rows.paramPutsRow.domain false) (Rows.paramPutsSpec.post enc Tryz.prog Tryz.f7 false true false false) := by
  refine returnsInHanded_of_change_sized (C := Tryz.checked) own started (by kernel_rfl) Tryz.func7
    (ChangeSpec.witness6 (enc := enc) (C := Tryz.checked) false ⟨#[], #[.agg #[.int .i64 0, .string ByteArray.empty, .int .i64 0, .slice none 0 0], .slice none 0 0, .agg #[.string ByteArray.empty, .int .i64 0, .string ByteArray.empty, .int .i64 0, .slice none 0 0]], []⟩ 8 (by kernel_rfl) (by kernel_rfl) (by kernel_rfl) (by kernel_rfl)) ?_
  intro W base args ds gs before hval0 hW hcnd hsz0 _
  have hsz : (DataW.weightsEach Tryz.prog (Tryz.f7.params.toList ++ Rows.paramPutsSpec.plain.varTypes Tryz.prog) (ds ++ gs)).all (· ≤ reachBytes) = true := hsz0
  have hval : ∀ (j : Nat) t v, Tryz.f7.params[j]? = some t → args[j]? = some v → Value.okWide Tryz.prog W .any base t v := hval0
  have hW' := hW
  obtain ⟨p, q, hA0, hV, rfl, hfz, hnd⟩ := hW
  have hA : DataW.TrodAll enc Tryz.prog W 0 (fun _ => true) true Tryz.f7.params.toList args.toList ds p := hA0
  rw [Tryz.params7] at hA hval hsz
  obtain ⟨v0, vs0, d0, ds0, p0, q0, hargs, rfl, rfl, h0, r0⟩ := trodAll_cons hA
  obtain ⟨v1, vs1, d1, ds1, p1, q1, rfl, rfl, rfl, h1, r1⟩ := trodAll_cons r0
  obtain ⟨v2, vs2, d2, ds2, p2, q2, rfl, rfl, rfl, h2, r2⟩ := trodAll_cons r1
  obtain ⟨rfl, rfl, rfl⟩ := trodAll_nil r2
  obtain rfl : args = #[v0, v1, v2] := by cases args; simp_all
  obtain ⟨rfl, rfl⟩ := trodVars_none hV
  obtain ⟨a0, rfl, sz0⟩ := okWide_struct Tryz.underlying27 (hval 0 27 v0 rfl rfl)
  have k0 := h0
  have lt0 : ∀ x ∈ p0, x.block < W.heap.size := by obtain ⟨m, hm⟩ := k0; exact DataW.trod_lt m _ _ _ hm
  have w0 : ∀ n ∈ d0.weights Tryz.prog 27, n ≤ reachBytes := fun n hn => of_decide_eq_true (List.all_eq_true.1 hsz n (DataW.weights_mem_each (j := 0) (t := 27) rfl rfl n hn))
  obtain ⟨a1, len1, cap1, rfl⟩ := okWide_slice Tryz.underlying49 (hval 1 49 v1 rfl rfl)
  have k1 := h1
  have lt1 : ∀ x ∈ p1, x.block < W.heap.size := by obtain ⟨m, hm⟩ := k1; exact DataW.trod_lt m _ _ _ hm
  have w1 : ∀ n ∈ d1.weights Tryz.prog 49, n ≤ reachBytes := fun n hn => of_decide_eq_true (List.all_eq_true.1 hsz n (DataW.weights_mem_each (j := 1) (t := 49) rfl rfl n hn))
  obtain ⟨a2, rfl, sz2⟩ := okWide_struct Tryz.underlying59 (hval 2 59 v2 rfl rfl)
  have k2 := h2
  have lt2 : ∀ x ∈ p2, x.block < W.heap.size := by obtain ⟨m, hm⟩ := k2; exact DataW.trod_lt m _ _ _ hm
  have w2 : ∀ n ∈ d2.weights Tryz.prog 59, n ≤ reachBytes := fun n hn => of_decide_eq_true (List.all_eq_true.1 hsz n (DataW.weights_mem_each (j := 2) (t := 59) rfl rfl n hn))
  clear hA0 hval0 hsz0 hsz
  obtain ⟨ns0, nd0, rd0⟩ := arg_agg closed (by decide) k0 w0
  obtain ⟨t, hok, ht0⟩ := node_of nd0
  rw [ht0] at rd0
  obtain ⟨ss1, rd1, sl1, sd1⟩ := arg_sl closed (by decide) Tryz.underlying49 k1 w1
  have bb1 := arg_bytes Tryz.underlying49 k1 w1
  obtain ⟨xs1, sx1, sq1, sn1⟩ := list_of (f := cD) (fun ds h => mkconst_of h) ss1 sd1
  rw [sx1] at rd1
  have ln1 := rd_len rd1
  rw [List.length_map] at ln1
  rw [← ln1, c72] at bb1
  obtain ⟨ns2, nd2, rd2⟩ := arg_agg closed (by decide) k2 w2
  obtain ⟨⟨on, oop, onm, onu, oks⟩, hc2, ht2⟩ := const_of nd2
  rw [ht2] at rd2
  unfold cD at rd2
  rw [Tr.d_mk] at rd2
  obtain ⟨op, name, num, ks⟩ := t
  rw [Tr.d_mk] at rd0
  have hwalk := E.Pure.row (c7 op num name ks hok xs1 (fun c hc => (sq1 c hc).2) (by unfold reachBytes at bb1; omega) on onm oop onu oks hc2.2).2 W #[.agg a0, .slice a1 len1 cap1, .agg a2] rfl (fun i d v hd hv => by
    match i with
    | 0 => simp at hd hv; subst hd; subst hv; exact rd0
    | 1 => simp at hd hv; subst hd; subst hv; exact rd1
    | 2 => simp at hd hv; subst hd; subst hv; exact rd2
    | i + 3 => simp at hd)
  refine hwalk.mono fun e W' ⟨he, bel⟩ => ?_
  subst he
  exact ⟨_, rfl, _, _, _, [], _, [], hW', trodAll_mk1 (shut_bool Tryz.underlying4 _), (trodAll_cons_mk (Below.trod laidOut (by kernel_rfl) (of_decide_eq_true (by kernel_rfl)) k0 bel lt0) (trodAll_cons_mk (Below.trod laidOut (by kernel_rfl) (of_decide_eq_true (by kernel_rfl)) k1 bel lt1) (trodAll_cons_mk (Below.trod laidOut (by kernel_rfl) (of_decide_eq_true (by kernel_rfl)) k2 bel lt2) trodAll_mk0))), rfl, bel.frame _, fun h => by cases h⟩
theorem over : Rows.paramPutsRow.holds Tryz.pinned (OpenSpec.ofChange Rows.paramPutsSpec) :=
  OpenClaim.holds_of_wide 7 Tryz.f7 rfl rfl rfl rfl rfl rfl rfl ⟨rfl, rfl, rfl, rfl, rfl⟩ rfl rfl rfl rfl rfl (by kernel_rfl) Tryz.func7 (by kernel_rfl)
    (of_decide_eq_true (by kernel_rfl)) (by unfold Func.isWrapper; first | (rw [if_pos (by decide +kernel)]; kernel_rfl) | (rw [if_neg (by decide +kernel)]; exact ⟨rfl, rfl⟩))
    (fun os started H enc _ => lifted os started H enc)
theorem proved : Rows.ParamPutsSaid := over
#print axioms proved
end Go.Proofs.YtklkbfpjimeaoaaGreat.paramPuts
namespace Go.Proofs.YtklkbfpjimeaoaaGreat
/-- The row, under a short name, for the claim. -/
theorem paramPuts_holds : Rows.ParamPutsSaid := paramPuts.proved
end Go.Proofs.YtklkbfpjimeaoaaGreat
