/- The row of WordWords, out of the walk's contract (c8). Conditions: none. -/
import Derived.Test.YtphfdmagkgpgfaaRows
import Derived.Test.YtphfdmagkgpgfaaE16
import Derived.Test.YtphfdmagkgpgfaaWo
import Derived.WalkKit
import Derived.ProofKit
import Derived.OpenShut
import Derived.ShutString
import Derived.ChangeOld
import Derived.Below
import Derived.Carry
import Derived.SizedLaws
namespace Go.Proofs.Ytphfdmagkgpgfaa.wordWords
open Go.ChangeShapes Go.WideShapes Go.ChangeAt Go.RowKit Go.Proofs.Ytphfdmagkgpgfaa.E
open Go.ChangeMaps (open_string shut_string)
theorem own : ownKnob Try.prog.godebug = none := by kernel_rfl
theorem laidOut : laidOutB Try.prog = true := by kernel_rfl
def types : List TypeId := [44, 45, 48, 61, 3, 9]
theorem closed : closedT Try.prog types = true := by kernel_rfl
theorem wf_u64 {n : Int} (h : (Lit.int .u64 n).wf = true) : 0 ≤ n ∧ n < 18446744073709551616 := by
  have : 0 ≤ n ∧ n ≤ 18446744073709551615 := by simpa [Lit.wf, IntKind.min, IntKind.max, IntKind.signed, IntKind.bits] using h
  omega
theorem wf_i64 {n : Int} (h : (Lit.int .i64 n).wf = true) : -9223372036854775808 ≤ n ∧ n ≤ 9223372036854775807 := by
  simpa [Lit.wf, IntKind.min, IntKind.max, IntKind.signed, IntKind.bits] using h
theorem word_of (ds : List D) (h : DT Try.prog 61 ds) : ∃ n : Int, (0 ≤ n ∧ n < 18446744073709551616) ∧ D.mk Try.prog 61 ds = .int .u64 n := by
  obtain ⟨n, rfl, hw⟩ := h.int_of Try.underlying61
  exact ⟨n, wf_u64 hw, by simp [D.mk, Try.underlying61]⟩
theorem c1_3 : Try.prog.cellsOf 3 = 1 := by kernel_rfl
theorem c1_9 : Try.prog.cellsOf 9 = 1 := by kernel_rfl
theorem c1_48 : Try.prog.cellsOf 48 = 6 := by kernel_rfl
theorem list6 : ∀ (ds : List D), ds.length = 6 → ∃ d0 d1 d2 d3 d4 d5, ds = [d0, d1, d2, d3, d4, d5]
  | [d0, d1, d2, d3, d4, d5], _ => ⟨d0, d1, d2, d3, d4, d5, rfl⟩
theorem ins_of (ds : List D) (h : DT Try.prog 48 ds) : ∃ x : WIns, InsOk x ∧ D.mk Try.prog 48 ds = x.d := by
  obtain ⟨hl, hf⟩ := h.struct_of Try.underlying48
  rw [c1_48] at hl
  obtain ⟨d0, d1, d2, d3, d4, d5, rfl⟩ := list6 ds hl
  have h0 : DT Try.prog 3 ((List.drop 0 [d0, d1, d2, d3, d4, d5]).take (Try.prog.cellsOf 3)) := hf 0 _ rfl
  have h1 : DT Try.prog 3 ((List.drop 1 [d0, d1, d2, d3, d4, d5]).take (Try.prog.cellsOf 3)) := hf 1 _ rfl
  have h2 : DT Try.prog 3 ((List.drop 2 [d0, d1, d2, d3, d4, d5]).take (Try.prog.cellsOf 3)) := hf 2 _ rfl
  have h3 : DT Try.prog 3 ((List.drop 3 [d0, d1, d2, d3, d4, d5]).take (Try.prog.cellsOf 3)) := hf 3 _ rfl
  have h4 : DT Try.prog 3 ((List.drop 4 [d0, d1, d2, d3, d4, d5]).take (Try.prog.cellsOf 3)) := hf 4 _ rfl
  have h5 : DT Try.prog 9 ((List.drop 5 [d0, d1, d2, d3, d4, d5]).take (Try.prog.cellsOf 9)) := hf 5 _ rfl
  simp only [c1_3, c1_9, List.drop_zero, List.drop_succ_cons, List.take_succ_cons, List.take_zero] at h0 h1 h2 h3 h4 h5
  obtain ⟨n0, e0, _⟩ := h0.int_of Try.underlying3
  obtain ⟨n1, e1, _⟩ := h1.int_of Try.underlying3
  obtain ⟨n2, e2, _⟩ := h2.int_of Try.underlying3
  obtain ⟨n3, e3, _⟩ := h3.int_of Try.underlying3
  obtain ⟨n4, e4, hw4⟩ := h4.int_of Try.underlying3
  obtain ⟨s5, e5, _⟩ := h5.str_of Try.underlying9
  obtain rfl := (List.cons.inj e0).1
  obtain rfl := (List.cons.inj e1).1
  obtain rfl := (List.cons.inj e2).1
  obtain rfl := (List.cons.inj e3).1
  obtain rfl := (List.cons.inj e4).1
  obtain rfl := (List.cons.inj e5).1
  exact ⟨⟨n0, n1, n2, n3, n4, s5⟩, wf_i64 hw4, by simp [D.mk, Try.underlying48, WIns.d]⟩

set_option maxRecDepth 100000 in
theorem lifted (os : Os) (started : os.Started) (H : Type) (enc : TypeId × Value → H) :
    ReturnsInHanded {} Try.checked os 8 .any (Rows.wordWordsSpec.pre6 enc Try.prog Try.f8 Rows.wordWordsRow.domain false) (Rows.wordWordsSpec.post enc Try.prog Try.f8 false true false false) := by
  refine returnsInHanded_of_change_sized (C := Try.checked) own started (by kernel_rfl) Try.func8
    (ChangeSpec.witness6 (enc := enc) (C := Try.checked) false ⟨#[], #[.slice none 0 0, .slice none 0 0, .slice none 0 0], []⟩ 8 (by kernel_rfl) (by kernel_rfl) (by kernel_rfl) (by kernel_rfl)) ?_
  intro W base args ds gs before hval0 hW hcnd hsz0 _
  have hsz : (DataW.weightsEach Try.prog (Try.f8.params.toList ++ Rows.wordWordsSpec.plain.varTypes Try.prog) (ds ++ gs)).all (· ≤ reachBytes) = true := hsz0
  have hval : ∀ (j : Nat) t v, Try.f8.params[j]? = some t → args[j]? = some v → Value.okWide Try.prog W .any base t v := hval0
  have hW' := hW
  obtain ⟨p, q, hA0, hV, rfl, hfz, hnd⟩ := hW
  have hA : DataW.TrodAll enc Try.prog W 0 (fun _ => true) true Try.f8.params.toList args.toList ds p := hA0
  rw [Try.params8] at hA hval hsz
  obtain ⟨v0, vs0, d0, ds0, p0, q0, hargs, rfl, rfl, h0, r0⟩ := trodAll_cons hA
  obtain ⟨v1, vs1, d1, ds1, p1, q1, rfl, rfl, rfl, h1, r1⟩ := trodAll_cons r0
  obtain ⟨v2, vs2, d2, ds2, p2, q2, rfl, rfl, rfl, h2, r2⟩ := trodAll_cons r1
  obtain ⟨rfl, rfl, rfl⟩ := trodAll_nil r2
  obtain rfl : args = #[v0, v1, v2] := by cases args; simp_all
  obtain ⟨rfl, rfl⟩ := trodVars_none hV
  obtain ⟨a0, len0, cap0, rfl⟩ := okWide_slice Try.underlying44 (hval 0 44 v0 rfl rfl)
  have k0 := h0
  have lt0 : ∀ x ∈ p0, x.block < W.heap.size := by obtain ⟨m, hm⟩ := k0; exact DataW.trod_lt m _ _ _ hm
  have w0 : ∀ n ∈ d0.weights Try.prog 44, n ≤ reachBytes := fun n hn => of_decide_eq_true (List.all_eq_true.1 hsz n (DataW.weights_mem_each (j := 0) (t := 44) rfl rfl n hn))
  obtain ⟨a1, len1, cap1, rfl⟩ := okWide_slice Try.underlying44 (hval 1 44 v1 rfl rfl)
  have k1 := h1
  have lt1 : ∀ x ∈ p1, x.block < W.heap.size := by obtain ⟨m, hm⟩ := k1; exact DataW.trod_lt m _ _ _ hm
  have w1 : ∀ n ∈ d1.weights Try.prog 44, n ≤ reachBytes := fun n hn => of_decide_eq_true (List.all_eq_true.1 hsz n (DataW.weights_mem_each (j := 1) (t := 44) rfl rfl n hn))
  obtain ⟨a2, len2, cap2, rfl⟩ := okWide_slice Try.underlying45 (hval 2 45 v2 rfl rfl)
  have k2 := h2
  have lt2 : ∀ x ∈ p2, x.block < W.heap.size := by obtain ⟨m, hm⟩ := k2; exact DataW.trod_lt m _ _ _ hm
  have w2 : ∀ n ∈ d2.weights Try.prog 45, n ≤ reachBytes := fun n hn => of_decide_eq_true (List.all_eq_true.1 hsz n (DataW.weights_mem_each (j := 2) (t := 45) rfl rfl n hn))
  clear hA0 hval0 hsz0 hsz
  obtain ⟨ss0, rd0, sl0, sd0⟩ := arg_sl closed (by decide) Try.underlying44 k0 w0
  obtain ⟨xs, sx0, sq0, sn0⟩ := list_of (f := WIns.d) ins_of ss0 sd0
  rw [sx0] at rd0
  obtain ⟨ss1, rd1, sl1, sd1⟩ := arg_sl closed (by decide) Try.underlying44 k1 w1
  obtain ⟨ys, sx1, sq1, sn1⟩ := list_of (f := WIns.d) ins_of ss1 sd1
  rw [sx1] at rd1
  obtain ⟨ss2, rd2, sl2, sd2⟩ := arg_sl closed (by decide) Try.underlying45 k2 w2
  obtain ⟨ws, sx2, sq2, sn2⟩ := list_of (f := (fun n => D.int .u64 n)) word_of ss2 sd2
  rw [sx2] at rd2
  have hwalk := E.Pure.row (c8 xs ys ws (by unfold reachBytes at sl0; omega) (by unfold reachBytes at sl1; omega) (by unfold reachBytes at sl2; omega) sq0 sq2).2 W #[.slice a0 len0 cap0, .slice a1 len1 cap1, .slice a2 len2 cap2] rfl (fun i d v hd hv => by
    match i with
    | 0 => simp at hd hv; subst hd; subst hv; exact rd0
    | 1 => simp at hd hv; subst hd; subst hv; exact rd1
    | 2 => simp at hd hv; subst hd; subst hv; exact rd2
    | i + 3 => simp at hd)
  refine hwalk.mono fun e W' ⟨he, bel⟩ => ?_
  subst he
  exact ⟨_, rfl, _, _, _, [], _, [], hW', trodAll_mk1 (shut_bool Try.underlying4 _), (trodAll_cons_mk (Below.trod laidOut (by kernel_rfl) (of_decide_eq_true (by kernel_rfl)) k0 bel lt0) (trodAll_cons_mk (Below.trod laidOut (by kernel_rfl) (of_decide_eq_true (by kernel_rfl)) k1 bel lt1) (trodAll_cons_mk (Below.trod laidOut (by kernel_rfl) (of_decide_eq_true (by kernel_rfl)) k2 bel lt2) trodAll_mk0))), rfl, bel.frame _, fun h => by cases h⟩
theorem over : Rows.wordWordsRow.holds Try.pinned (OpenSpec.ofChange Rows.wordWordsSpec) :=
  OpenClaim.holds_of_wide 8 Try.f8 rfl rfl rfl rfl rfl rfl rfl ⟨rfl, rfl, rfl, rfl, rfl⟩ rfl rfl rfl rfl rfl (by kernel_rfl) Try.func8 (by kernel_rfl)
    (of_decide_eq_true (by kernel_rfl)) (by unfold Func.isWrapper; first | (rw [if_pos (by decide +kernel)]; kernel_rfl) | (rw [if_neg (by decide +kernel)]; exact ⟨rfl, rfl⟩))
    (fun os started H enc _ => lifted os started H enc)
theorem proved : Rows.WordWordsSaid := over
#print axioms proved
end Go.Proofs.Ytphfdmagkgpgfaa.wordWords
namespace Go.Proofs.Ytphfdmagkgpgfaa
/-- The row, under a short name, for the claim. -/
theorem wordWords_holds : Rows.WordWordsSaid := wordWords.proved
end Go.Proofs.Ytphfdmagkgpgfaa
