import Derived.Test.YtklkbfpjimeaoaaM25
/- Contracts of functions. Conditions: none. -/
set_option linter.unusedSimpArgs false
set_option linter.unusedVariables false
set_option maxRecDepth 20000
namespace Go.Proofs.Ytklkbfpjimeaoaa
open Go Go.Proofs.Ytklkbfpjimeaoaa.E
section
abbrev sX : ByteArray := ⟨#[120]⟩
abbrev awX : D := .agg [.int .i64 4, .str sX, .int .i64 0, .sl []]
abbrev awO : D := .agg [.int .i64 1, .str ⟨#[]⟩, .int .i64 1, .sl []]
abbrev awE : D := .agg [.int .i64 6, .str ⟨#[43]⟩, .int .i64 0, .sl [awX, awO]]
abbrev awN (t : ByteArray) : D := .agg [.sl [], .sl [], .map [], .ptr (.agg [.str sX, .str t, .bool false, .nil, .int .i64 0, .int .i64 0])]
abbrev awTr : Tr := .mk 6 ⟨#[43]⟩ 0 [.mk 4 sX 0 [], .mk 1 ⟨#[]⟩ 1 []]
theorem awTrOk : awTr.Ok := .mk (by decide) (by decide) (by decide) (by decide) (by
 intro k hk
 simp only [List.mem_cons, List.not_mem_nil, or_false] at hk
 rcases hk with rfl | rfl
 · exact .mk (by decide) (by decide) (by decide) (by decide) (by simp)
 · exact .mk (by decide) (by decide) (by decide) (by decide) (by simp))
theorem aw24 : Pf Try.prog 29 [awE] (.d (.int .i64 0)) := by
 have h := c24 awTr awTrOk (by decide)
 have h1 : awTr.d = awE := by simp [Tr.d, Tr.ds]
 have h2 : nodeE awTr = 0 := by kernel_rfl
 rw [h1, h2] at h
 exact h
theorem c221_0 : Pf Try.prog 84 [.sl [.str ⟨#[105, 110, 116]⟩, .str ⟨#[105, 110, 116]⟩]] (.d (.str ⟨#[105, 110, 116, 32, 105, 110, 116]⟩)) := by
 refine pfb Try.func84 Try.ntmps84 Try.results84 (fun S0 O0 w0 m0 hm0 => ?_)
 repeat' first | refine st (by exact rfl) ?_ | refine ct (by exact rfl) ?_ | refine cf (by exact rfl) ?_ | refine el (by exact rfl) rfl ?_ (by decide) | refine qu (by exact rfl) (by decide) ?_ | refine gRn 4 ?_ | fail
 exact Y1
set_option maxHeartbeats 4000000 in
theorem c146_0 : Pf Try.prog 57 [awE, .sl [.str ⟨#[105, 110, 116]⟩, .str ⟨#[105, 110, 116]⟩]] (.d (.str ⟨#[105, 110, 116]⟩)) := by
 refine pfb Try.func57 Try.ntmps57 Try.results57 (fun S0 O0 w0 m0 hm0 => ?_)
 repeat' first | refine st (by exact rfl) ?_ | refine ct (by exact rfl) ?_ | refine cf (by exact rfl) ?_ | refine el (by exact rfl) rfl ?_ (by decide) | refine qu (by exact rfl) (by decide) ?_ | refine gRn 4 ?_ | fail
 refine Z98 ?_;refine Z95 ?_;refine Z3 ?_;refine Z99 ?_
 refine oc (hcl := c221_0) (hc := ?_)
 refine ols C9 (hc := ?_)
 refine Z88 ?_
 repeat' first | refine st (by exact rfl) ?_ | refine ct (by exact rfl) ?_ | refine cf (by exact rfl) ?_ | refine el (by exact rfl) rfl ?_ (by decide) | refine qu (by exact rfl) (by decide) ?_ | refine gRn 4 ?_ | fail
 exact Y1
theorem c144_0 : Pf Try.prog 55 [awN sInt, .str sX] (.d (.agg [.str sX, .str ⟨#[105, 110, 116]⟩, .bool false])) := by
 refine pfb Try.func55 Try.ntmps55 Try.results55 (fun S0 O0 w0 m0 hm0 => ?_)
 repeat' first | refine st (by exact rfl) ?_ | refine ct (by exact rfl) ?_ | refine cf (by exact rfl) ?_ | refine el (by exact rfl) rfl ?_ (by decide) | refine qu (by exact rfl) (by decide) ?_ | refine gRn 4 ?_ | fail
 refine cl (by exact rfl) (c200L [⟨sX, sInt, false, 0, 0⟩] sX) ?_
 repeat' first | refine st (by exact rfl) ?_ | refine ct (by exact rfl) ?_ | refine cf (by exact rfl) ?_ | refine el (by exact rfl) rfl ?_ (by decide) | refine qu (by exact rfl) (by decide) ?_ | refine gRn 4 ?_ | fail
 exact Y1
theorem c80x_0 : Pf Try.prog 36 [awN sInt, awX, .bool false] (.d (.str sInt)) := by
 refine pfb Try.func36 Try.ntmps36 Try.results36 (fun S0 O0 w0 m0 hm0 => ?_)
 repeat' first | refine st (by exact rfl) ?_ | refine ct (by exact rfl) ?_ | refine cf (by exact rfl) ?_ | refine el (by exact rfl) rfl ?_ (by decide) | refine qu (by exact rfl) (by decide) ?_ | refine gRn 4 ?_ | fail
 refine cl (by exact rfl) c144_0 ?_
 repeat' first | refine st (by exact rfl) ?_ | refine ct (by exact rfl) ?_ | refine cf (by exact rfl) ?_ | refine el (by exact rfl) rfl ?_ (by decide) | refine qu (by exact rfl) (by decide) ?_ | refine gRn 4 ?_ | fail
 exact Y1
theorem c80o_0 : Pf Try.prog 36 [awN sInt, awO, .bool false] (.d (.str sInt)) := by
 refine pfb Try.func36 Try.ntmps36 Try.results36 (fun S0 O0 w0 m0 hm0 => ?_)
 repeat' first | refine st (by exact rfl) ?_ | refine ct (by exact rfl) ?_ | refine cf (by exact rfl) ?_ | refine el (by exact rfl) rfl ?_ (by decide) | refine qu (by exact rfl) (by decide) ?_ | refine gRn 4 ?_ | fail
 exact Y1
theorem c80_0 : Px Try.prog 36 [awN sInt, awE, .bool false] (.inl (.d (.str sInt))) := by
 refine pxB Try.func36 Try.ntmps36 Try.results36 (fun S0 O0 w0 m0 hm0 => ?_)
 repeat' first | refine st (by exact rfl) ?_ | refine ct (by exact rfl) ?_ | refine cf (by exact rfl) ?_ | refine el (by exact rfl) rfl ?_ (by decide) | refine qu (by exact rfl) (by decide) ?_ | refine gRn 4 ?_ | refine cl (by exact rfl) c80x_0 ?_ | refine cl (by exact rfl) c80o_0 ?_ | refine bs (by exact rfl) ?_ | refine ap (by exact rfl) ?_ | refine cl (by exact rfl) c146_0 ?_ | fail
 refine cl (by exact rfl) (c119t 13).inl ?_
 repeat' first | refine st (by exact rfl) ?_ | fail
 exact Y4
theorem x79_0 : Xm Try.prog 35 [.d (.ptr (awN sInt)), .d (.ptr awE), .ref 0 0] [[.d (.str ⟨#[]⟩)]] (.inl (.tup [])) [[.d (.str sInt)]] := by
 refine xmB 1 Try.func35 Try.ntmps35 Try.results35 (fun S0 O0 w0 m0 hm0 => ?_)
 repeat' first | refine st (by exact rfl) ?_ | fail
 refine cl (by exact rfl) c80_0.inl ?_
 repeat' first | refine st (by exact rfl) ?_ | fail
 exact enxm (by exact rfl) rfl (msame rfl)
set_option maxHeartbeats 4000000 in
theorem c18_0 : Pf Try.prog 10 [.agg [.sl [], .sl []], awE, .sl [.agg [.str sX, .str sInt, .bool false]]] (.tup [.d (.str sInt), .d (.int .i64 0)]) := by
 refine pfb Try.func10 Try.ntmps10 Try.results10 (fun S0 O0 w0 m0 hm0 => ?_)
 repeat' first | refine st (by exact rfl) ?_ | fail
 refine Z17 ?_;refine Z17 ?_
 refine cl (by exact rfl) aw24 ?_
 repeat' first | refine st (by exact rfl) ?_ | refine ct (by exact rfl) ?_ | refine cf (by exact rfl) ?_ | refine el (by exact rfl) rfl ?_ (by decide) | refine qu (by exact rfl) (by decide) ?_ | refine gRn 4 ?_ | fail
 refine cl (by exact rfl) (c74 6) ?_
 repeat' (fail_if_success with_reducible refine ar 22 ?_); first | refine fm 0 strB (fun k h => (C9.ok k h).2) (hg := ?_) | refine fz true (s := ⟨_, [_, _, _]⟩) (by exact rfl) ?_ | refine st (by exact rfl) ?_ | refine ct (by exact rfl) ?_ | refine cf (by exact rfl) ?_ | refine el (by exact rfl) rfl ?_ (by decide) | refine qu (by exact rfl) (by decide) ?_ | refine gRn 4 ?_ | fail
 refine Z17 ?_;refine Z17 ?_
 repeat' first | refine st (by exact rfl) ?_ | refine ct (by exact rfl) ?_ | refine cf (by exact rfl) ?_ | refine el (by exact rfl) rfl ?_ (by decide) | refine qu (by exact rfl) (by decide) ?_ | refine gRn 4 ?_ | fail
 refine cm (by exact rfl) (c75 35 (.ptr (awN sInt)) (.ptr awE) (.str ⟨#[]⟩) (.str sInt) (.inl (.tup [])) 0 (.inl ⟨rfl, rfl⟩) x79_0) ?_
 repeat' first | refine st (by exact rfl) ?_ | refine ct (by exact rfl) ?_ | refine cf (by exact rfl) ?_ | refine el (by exact rfl) rfl ?_ (by decide) | refine qu (by exact rfl) (by decide) ?_ | refine gRn 4 ?_ | fail
 skip
 exact Y1
theorem c221_1 : Pf Try.prog 84 [.sl [.str ⟨#[98, 111, 111, 108]⟩, .str ⟨#[105, 110, 116]⟩]] (.d (.str ⟨#[98, 111, 111, 108, 32, 105, 110, 116]⟩)) := by
 refine pfb Try.func84 Try.ntmps84 Try.results84 (fun S0 O0 w0 m0 hm0 => ?_)
 repeat' first | refine st (by exact rfl) ?_ | refine ct (by exact rfl) ?_ | refine cf (by exact rfl) ?_ | refine el (by exact rfl) rfl ?_ (by decide) | refine qu (by exact rfl) (by decide) ?_ | refine gRn 4 ?_ | fail
 exact Y1
set_option maxHeartbeats 4000000 in
theorem c146_1 : Pf Try.prog 57 [awE, .sl [.str ⟨#[98, 111, 111, 108]⟩, .str ⟨#[105, 110, 116]⟩]] (.d (.str ⟨#[]⟩)) := by
 refine pfb Try.func57 Try.ntmps57 Try.results57 (fun S0 O0 w0 m0 hm0 => ?_)
 repeat' first | refine st (by exact rfl) ?_ | refine ct (by exact rfl) ?_ | refine cf (by exact rfl) ?_ | refine el (by exact rfl) rfl ?_ (by decide) | refine qu (by exact rfl) (by decide) ?_ | refine gRn 4 ?_ | fail
 refine Z98 ?_;refine Z95 ?_;refine Z3 ?_;refine Z99 ?_
 refine oc (hcl := c221_1) (hc := ?_)
 refine ols C9 (hc := ?_)
 refine Z88 ?_
 repeat' first | refine st (by exact rfl) ?_ | refine ct (by exact rfl) ?_ | refine cf (by exact rfl) ?_ | refine el (by exact rfl) rfl ?_ (by decide) | refine qu (by exact rfl) (by decide) ?_ | refine gRn 4 ?_ | fail
 exact Y1
theorem c144_1 : Pf Try.prog 55 [awN sBool, .str sX] (.d (.agg [.str sX, .str ⟨#[98, 111, 111, 108]⟩, .bool false])) := by
 refine pfb Try.func55 Try.ntmps55 Try.results55 (fun S0 O0 w0 m0 hm0 => ?_)
 repeat' first | refine st (by exact rfl) ?_ | refine ct (by exact rfl) ?_ | refine cf (by exact rfl) ?_ | refine el (by exact rfl) rfl ?_ (by decide) | refine qu (by exact rfl) (by decide) ?_ | refine gRn 4 ?_ | fail
 refine cl (by exact rfl) (c200L [⟨sX, sBool, false, 0, 0⟩] sX) ?_
 repeat' first | refine st (by exact rfl) ?_ | refine ct (by exact rfl) ?_ | refine cf (by exact rfl) ?_ | refine el (by exact rfl) rfl ?_ (by decide) | refine qu (by exact rfl) (by decide) ?_ | refine gRn 4 ?_ | fail
 exact Y1
theorem c80x_1 : Pf Try.prog 36 [awN sBool, awX, .bool false] (.d (.str sBool)) := by
 refine pfb Try.func36 Try.ntmps36 Try.results36 (fun S0 O0 w0 m0 hm0 => ?_)
 repeat' first | refine st (by exact rfl) ?_ | refine ct (by exact rfl) ?_ | refine cf (by exact rfl) ?_ | refine el (by exact rfl) rfl ?_ (by decide) | refine qu (by exact rfl) (by decide) ?_ | refine gRn 4 ?_ | fail
 refine cl (by exact rfl) c144_1 ?_
 repeat' first | refine st (by exact rfl) ?_ | refine ct (by exact rfl) ?_ | refine cf (by exact rfl) ?_ | refine el (by exact rfl) rfl ?_ (by decide) | refine qu (by exact rfl) (by decide) ?_ | refine gRn 4 ?_ | fail
 exact Y1
theorem c80o_1 : Pf Try.prog 36 [awN sBool, awO, .bool false] (.d (.str sInt)) := by
 refine pfb Try.func36 Try.ntmps36 Try.results36 (fun S0 O0 w0 m0 hm0 => ?_)
 repeat' first | refine st (by exact rfl) ?_ | refine ct (by exact rfl) ?_ | refine cf (by exact rfl) ?_ | refine el (by exact rfl) rfl ?_ (by decide) | refine qu (by exact rfl) (by decide) ?_ | refine gRn 4 ?_ | fail
 exact Y1
theorem c80_1 : Px Try.prog 36 [awN sBool, awE, .bool false] (.inr (wrongW 13)) := by
 refine pxB Try.func36 Try.ntmps36 Try.results36 (fun S0 O0 w0 m0 hm0 => ?_)
 repeat' first | refine st (by exact rfl) ?_ | refine ct (by exact rfl) ?_ | refine cf (by exact rfl) ?_ | refine el (by exact rfl) rfl ?_ (by decide) | refine qu (by exact rfl) (by decide) ?_ | refine gRn 4 ?_ | refine cl (by exact rfl) c80x_1 ?_ | refine cl (by exact rfl) c80o_1 ?_ | refine bs (by exact rfl) ?_ | refine ap (by exact rfl) ?_ | refine cl (by exact rfl) c146_1 ?_ | fail
 refine clp (by exact rfl) (c119f 13) ?_
 repeat' first | refine st (by exact rfl) ?_ | fail
 exact gPan rfl
theorem x79_1 : Xm Try.prog 35 [.d (.ptr (awN sBool)), .d (.ptr awE), .ref 0 0] [[.d (.str ⟨#[]⟩)]] (.inr (wrongW 13)) [[.d (.str ⟨#[]⟩)]] := by
 refine xmB 1 Try.func35 Try.ntmps35 Try.results35 (fun S0 O0 w0 m0 hm0 => ?_)
 repeat' first | refine st (by exact rfl) ?_ | fail
 refine clp (by exact rfl) c80_1 ?_
 repeat' first | refine st (by exact rfl) ?_ | fail
 exact gPanM rfl (msame rfl) (Nat.le_refl _)
set_option maxHeartbeats 4000000 in
theorem c18_1 : Pf Try.prog 10 [.agg [.sl [], .sl []], awE, .sl [.agg [.str sX, .str sBool, .bool false]]] (.tup [.d (.str ⟨#[]⟩), .d (.int .i64 13)]) := by
 refine pfb Try.func10 Try.ntmps10 Try.results10 (fun S0 O0 w0 m0 hm0 => ?_)
 repeat' first | refine st (by exact rfl) ?_ | fail
 refine Z17 ?_;refine Z17 ?_
 refine cl (by exact rfl) aw24 ?_
 repeat' first | refine st (by exact rfl) ?_ | refine ct (by exact rfl) ?_ | refine cf (by exact rfl) ?_ | refine el (by exact rfl) rfl ?_ (by decide) | refine qu (by exact rfl) (by decide) ?_ | refine gRn 4 ?_ | fail
 refine cl (by exact rfl) (c74 6) ?_
 repeat' (fail_if_success with_reducible refine ar 22 ?_); first | refine fm 0 strB (fun k h => (C9.ok k h).2) (hg := ?_) | refine fz true (s := ⟨_, [_, _, _]⟩) (by exact rfl) ?_ | refine st (by exact rfl) ?_ | refine ct (by exact rfl) ?_ | refine cf (by exact rfl) ?_ | refine el (by exact rfl) rfl ?_ (by decide) | refine qu (by exact rfl) (by decide) ?_ | refine gRn 4 ?_ | fail
 refine Z17 ?_;refine Z17 ?_
 repeat' first | refine st (by exact rfl) ?_ | refine ct (by exact rfl) ?_ | refine cf (by exact rfl) ?_ | refine el (by exact rfl) rfl ?_ (by decide) | refine qu (by exact rfl) (by decide) ?_ | refine gRn 4 ?_ | fail
 refine cm (by exact rfl) (c75 35 (.ptr (awN sBool)) (.ptr awE) (.str ⟨#[]⟩) (.str ⟨#[]⟩) (.inr (wrongW 13)) 13 (.inr rfl) x79_1) ?_
 repeat' first | refine st (by exact rfl) ?_ | refine ct (by exact rfl) ?_ | refine cf (by exact rfl) ?_ | refine el (by exact rfl) rfl ?_ (by decide) | refine qu (by exact rfl) (by decide) ?_ | refine gRn 4 ?_ | fail
 refine Z20 ?_
 iterate 4 refine ov (hc := ?_)
 refine Z21 ?_
 repeat' first | refine st (by exact rfl) ?_ | refine ct (by exact rfl) ?_ | refine cf (by exact rfl) ?_ | refine el (by exact rfl) rfl ?_ (by decide) | refine qu (by exact rfl) (by decide) ?_ | refine gRn 4 ?_ | fail
 exact Y1
theorem c17 : Pf Try.prog 8 [] (.d (.bool true)) := by
 refine pfb Try.func8 Try.ntmps8 Try.results8 (fun S0 O0 w0 m0 hm0 => ?_)
 repeat' first | refine st (by exact rfl) ?_ | refine bs (by exact rfl) ?_ | refine cl (by exact rfl) c18_0 ?_ | refine cl (by exact rfl) c18_1 ?_ | fail
 exact Y1
end
section
def allB (ts : List ByteArray) (s : ByteArray) : Bool := !(ts.any fun t => !decide (t = s))
theorem c222 (ts : List ByteArray) (s : ByteArray) (hl : ts.length ≤ 140737488355328) : Pf Try.prog 85 [.sl (ts.map .str), .str s] (.d (.bool (allB ts s))) := by
 refine pfb Try.func85 Try.ntmps85 Try.results85 (fun S0 O0 w0 m0 hm0 => ?_)
 repeat' (fail_if_success with_reducible refine ar 1 ?_); first | refine st (by exact rfl) ?_ | fail
 refine fz false (by exact rfl) ?_
 repeat' first | refine st (by exact rfl) ?_ | fail
 refine cl (by exact rfl) (c230 ts 96 [] [.ptr (.str s)] (fun t => !decide (t = s)) hl fun t _ => c281 t s) ?_
 repeat' first | refine st (by exact rfl) ?_ | fail
 exact Y0
def fieldT (nm t : ByteArray) : ByteArray :=
 if (decide (nm = sSize) && ((decide (t = sRange) || isDomB t) || isArrB t)) = true then sInt
 else if (decide (nm = sDomain) && isArrB t) = true then sDomain ++ t.extract 5 t.size
 else if ((!decide (nm = sSize) && !decide (nm = sDomain)) && decide (t = sRange)) = true then sInt else ⟨#[]⟩
variable {t : ByteArray}
theorem isArrB_size (h : isArrB t = true) : t.size = 6 := by
 unfold isArrB at h
 rw [Bool.or_eq_true, decide_eq_true_eq, decide_eq_true_eq] at h
 rcases h with rfl | rfl <;> rfl
variable {nm : ByteArray}
theorem fieldT1 (h1 : (decide (nm = sSize) && ((decide (t = sRange) || isDomB t) || isArrB t)) = true) : fieldT nm t = sInt := if_pos h1
theorem fieldT2 (h1 : (decide (nm = sSize) && ((decide (t = sRange) || isDomB t) || isArrB t)) = false) (h2 : (decide (nm = sDomain) && isArrB t) = true) : fieldT nm t = sDomain ++ t.extract 5 t.size := by rw [fieldT, if_neg (by rw [h1]; decide), if_pos h2]
theorem fieldT3 (h1 : (decide (nm = sSize) && ((decide (t = sRange) || isDomB t) || isArrB t)) = false) (h2 : (decide (nm = sDomain) && isArrB t) = false) (h3 : ((!decide (nm = sSize) && !decide (nm = sDomain)) && decide (t = sRange)) = true) : fieldT nm t = sInt := by rw [fieldT, if_neg (by rw [h1]; decide), if_neg (by rw [h2]; decide), if_pos h3]
theorem fieldT4 (h1 : (decide (nm = sSize) && ((decide (t = sRange) || isDomB t) || isArrB t)) = false) (h2 : (decide (nm = sDomain) && isArrB t) = false) (h3 : ((!decide (nm = sSize) && !decide (nm = sDomain)) && decide (t = sRange)) = false) : fieldT nm t = ⟨#[]⟩ := by rw [fieldT, if_neg (by rw [h1]; decide), if_neg (by rw [h2]; decide), if_neg (by rw [h3]; decide)]
theorem c223 (nm t : ByteArray) : Pf Try.prog 86 [.str nm, .str t] (.d (.str (fieldT nm t))) := by
 refine pfb Try.func86 Try.ntmps86 Try.results86 (fun S0 O0 w0 m0 hm0 => ?_)
 repeat' first | refine st (by exact rfl) ?_ | refine clg (by exact rfl) (fun _ => c141 t) ?_ | refine clg (by exact rfl) (fun _ => c143 t) ?_ | refine cd (by exact rfl) (fun hb => ?_) (fun hb => ?_) | fail
 · exact en (by exact rfl) (congrArg (fun s => PV.d (D.str s)) (fieldT1 hb).symm)
 · have hs := isArrB_size (Bool.and_eq_true_iff.1 (by assumption)).2
   refine qu (by exact rfl) (by omega) (qu (by exact rfl) ?_ ?_)
   · rw [ByteArray.size_extract, hs]; decide
   · repeat' first | refine st (by exact rfl) ?_ | fail
     exact en (by exact rfl) (congrArg (fun s => PV.d (D.str s)) (fieldT2 (by assumption) hb).symm)
 · rename_i h1 h2
   exact en (by exact rfl) (congrArg (fun s => PV.d (D.str s)) (fieldT3 h1 h2 hb).symm)
 · rename_i h1 h2
   exact en (by exact rfl) (congrArg (fun s => PV.d (D.str s)) (fieldT4 h1 h2 hb).symm)
def staticB (f : Fm) : Bool := (decide (f.intent = sParam) || decide (f.intent = sType)) || !basicB f.ty.nm
theorem c209 (f : Fm) : Pf Try.prog 81 [f.d] (.d (.bool (staticB f))) := by
 unfold Fm.d
 refine pfb Try.func81 Try.ntmps81 Try.results81 (fun S0 O0 w0 m0 hm0 => ?_)
 repeat' first | refine st (by exact rfl) ?_ | refine clg (by exact rfl) (fun _ => c142 f.ty.nm) ?_ | fail
 exact Y0
end
section
def joinT (a b : ByteArray) : ByteArray := ((⟨#[]⟩ ++ a) ++ ⟨#[32]⟩) ++ b
theorem c221 (a b : ByteArray) (ha : a.size ≤ 1000000) (hb : b.size ≤ 1000000) : Pf Try.prog 84 [.sl [.str a, .str b]] (.d (.str (joinT a b))) := by
 refine pfb Try.func84 Try.ntmps84 Try.results84 (fun S0 O0 w0 m0 hm0 => ?_)
 repeat' first | refine st (by exact rfl) ?_ | refine ct (by exact rfl) ?_ rfl | refine cf (by exact rfl) ?_ rfl | refine el (by exact rfl) rfl ?_ (by decide) | refine qu (by exact rfl) (by simp only [ByteArray.size_append, lim]; show _ ≤ _; simp only [ByteArray.size, List.size_toArray, List.length_cons, List.length_nil] at *; omega) ?_ | refine gRn 4 ?_ | fail
 exact Y0
theorem joinT_size {a b : ByteArray} (ha : a.size ≤ 1000000) (hb : b.size ≤ 1000000) : (joinT a b).size ≤ 140737488355328 := by
 unfold joinT
 simp only [ByteArray.size_append]
 simp only [ByteArray.size, List.size_toArray, List.length_cons, List.length_nil] at *
 omega
def ruleT : List (ByteArray × ByteArray) → ByteArray → ByteArray
 | [], _ => ⟨#[]⟩
 | (k, v) :: r, t => if k = t then v else ruleT r t
theorem ruleT_ls : ∀ (l : List (ByteArray × ByteArray)) (t : ByteArray), mgetQ (.str t) (.str ⟨#[]⟩) (l.map fun x => (.str x.1, .str x.2)) = .str (ruleT l t)
 | [], t => rfl
 | (k, v) :: r, t => by
  rw [List.map_cons, mgetQ, ruleT]
  by_cases h : k = t
  · rw [if_pos h, show D.keyQ (.str k) (.str t) = true from by subst h; simp [D.keyQ, D.leafQ]]
  · rw [if_neg h, show D.keyQ (.str k) (.str t) = false from by simp [D.keyQ, D.leafQ, h]]
    exact ruleT_ls r t
theorem ruleT_lsK (l : List (ByteArray × ByteArray)) (t : ByteArray) : lsK false (.str t) (.str ⟨#[]⟩) (l.map fun x => (.str x.1, .str x.2)) = some (.d (.str (ruleT l t))) := by
 unfold lsK
 rw [ruleT_ls]
set_option maxHeartbeats 4000000 in
theorem c146u0 (num : Int) (ks : List D) (a : ByteArray) (ha : a.size ≤ 1000000) : Pf Try.prog 57 [.agg [.int .i64 5, .str ⟨#[45]⟩, .int .i64 num, .sl ks], .sl [.str a]] (.d (.str (ruleT [(⟨#[105, 110, 116]⟩, ⟨#[105, 110, 116]⟩)] a))) := by
 refine pfb Try.func57 Try.ntmps57 Try.results57 (fun S0 O0 w0 m0 hm0 => ?_)
 repeat' first | refine st (by exact rfl) ?_ | refine ct (by exact rfl) ?_ rfl | refine cf (by exact rfl) ?_ rfl | refine el (by exact rfl) rfl ?_ (by decide) | fail
 refine Z98 ?_
 iterate 3 refine ov (hc := ?_)
 refine Z99 ?_;refine Z46 ?_;refine Z3 ?_
 refine ols C9 (hr := ruleT_lsK [(⟨#[105, 110, 116]⟩, ⟨#[105, 110, 116]⟩)] a) (hk := Nat.ble_eq_true_of_le (Nat.le_trans ha (by decide))) (hc := ?_)
 refine Z88 ?_
 repeat' first | refine st (by exact rfl) ?_ | refine ct (by exact rfl) ?_ rfl | refine cf (by exact rfl) ?_ rfl | refine el (by exact rfl) rfl ?_ (by decide) | fail
 exact Y0
set_option maxHeartbeats 4000000 in
theorem c146u1 (num : Int) (ks : List D) (a : ByteArray) (ha : a.size ≤ 1000000) : Pf Try.prog 57 [.agg [.int .i64 5, .str ⟨#[33]⟩, .int .i64 num, .sl ks], .sl [.str a]] (.d (.str (ruleT [(⟨#[98, 111, 111, 108]⟩, ⟨#[98, 111, 111, 108]⟩)] a))) := by
 refine pfb Try.func57 Try.ntmps57 Try.results57 (fun S0 O0 w0 m0 hm0 => ?_)
 repeat' first | refine st (by exact rfl) ?_ | refine ct (by exact rfl) ?_ rfl | refine cf (by exact rfl) ?_ rfl | refine el (by exact rfl) rfl ?_ (by decide) | fail
 refine Z98 ?_
 iterate 3 refine ov (hc := ?_)
 refine Z99 ?_;refine Z46 ?_;refine Z3 ?_
 refine ols C9 (hr := ruleT_lsK [(⟨#[98, 111, 111, 108]⟩, ⟨#[98, 111, 111, 108]⟩)] a) (hk := Nat.ble_eq_true_of_le (Nat.le_trans ha (by decide))) (hc := ?_)
 refine Z88 ?_
 repeat' first | refine st (by exact rfl) ?_ | refine ct (by exact rfl) ?_ rfl | refine cf (by exact rfl) ?_ rfl | refine el (by exact rfl) rfl ?_ (by decide) | fail
 exact Y0
set_option maxHeartbeats 4000000 in
theorem c146b0 (num : Int) (ks : List D) (a b : ByteArray) (ha : a.size ≤ 1000000) (hb : b.size ≤ 1000000) : Pf Try.prog 57 [.agg [.int .i64 6, .str ⟨#[43]⟩, .int .i64 num, .sl ks], .sl [.str a, .str b]] (.d (.str (ruleT [(⟨#[105, 110, 116, 32, 105, 110, 116]⟩, ⟨#[105, 110, 116]⟩)] (joinT a b)))) := by
 refine pfb Try.func57 Try.ntmps57 Try.results57 (fun S0 O0 w0 m0 hm0 => ?_)
 repeat' first | refine st (by exact rfl) ?_ | refine ct (by exact rfl) ?_ rfl | refine cf (by exact rfl) ?_ rfl | refine el (by exact rfl) rfl ?_ (by decide) | fail
 refine Z98 ?_
 iterate 3 refine ov (hc := ?_)
 refine Z112 ?_;refine Z14 ?_;refine Z88 ?_
 repeat' first | refine st (by exact rfl) ?_ | refine ct (by exact rfl) ?_ rfl | refine cf (by exact rfl) ?_ rfl | refine el (by exact rfl) rfl ?_ (by decide) | fail
 exact Y0
set_option maxHeartbeats 4000000 in
theorem c146b1 (num : Int) (ks : List D) (a b : ByteArray) (ha : a.size ≤ 1000000) (hb : b.size ≤ 1000000) : Pf Try.prog 57 [.agg [.int .i64 6, .str ⟨#[45]⟩, .int .i64 num, .sl ks], .sl [.str a, .str b]] (.d (.str (ruleT [(⟨#[105, 110, 116, 32, 105, 110, 116]⟩, ⟨#[105, 110, 116]⟩)] (joinT a b)))) := by
 refine pfb Try.func57 Try.ntmps57 Try.results57 (fun S0 O0 w0 m0 hm0 => ?_)
 repeat' first | refine st (by exact rfl) ?_ | refine ct (by exact rfl) ?_ rfl | refine cf (by exact rfl) ?_ rfl | refine el (by exact rfl) rfl ?_ (by decide) | fail
 refine Z98 ?_
 iterate 3 refine ov (hc := ?_)
 refine Z112 ?_;refine Z14 ?_;refine Z88 ?_
 repeat' first | refine st (by exact rfl) ?_ | refine ct (by exact rfl) ?_ rfl | refine cf (by exact rfl) ?_ rfl | refine el (by exact rfl) rfl ?_ (by decide) | fail
 exact Y0
set_option maxHeartbeats 4000000 in
theorem c146b2 (num : Int) (ks : List D) (a b : ByteArray) (ha : a.size ≤ 1000000) (hb : b.size ≤ 1000000) : Pf Try.prog 57 [.agg [.int .i64 6, .str ⟨#[42]⟩, .int .i64 num, .sl ks], .sl [.str a, .str b]] (.d (.str (ruleT [(⟨#[105, 110, 116, 32, 105, 110, 116]⟩, ⟨#[105, 110, 116]⟩)] (joinT a b)))) := by
 refine pfb Try.func57 Try.ntmps57 Try.results57 (fun S0 O0 w0 m0 hm0 => ?_)
 repeat' first | refine st (by exact rfl) ?_ | refine ct (by exact rfl) ?_ rfl | refine cf (by exact rfl) ?_ rfl | refine el (by exact rfl) rfl ?_ (by decide) | fail
 refine Z98 ?_
 iterate 3 refine ov (hc := ?_)
 refine Z112 ?_;refine Z14 ?_;refine Z88 ?_
 repeat' first | refine st (by exact rfl) ?_ | refine ct (by exact rfl) ?_ rfl | refine cf (by exact rfl) ?_ rfl | refine el (by exact rfl) rfl ?_ (by decide) | fail
 exact Y0
set_option maxHeartbeats 4000000 in
theorem c146b3 (num : Int) (ks : List D) (a b : ByteArray) (ha : a.size ≤ 1000000) (hb : b.size ≤ 1000000) : Pf Try.prog 57 [.agg [.int .i64 6, .str ⟨#[47]⟩, .int .i64 num, .sl ks], .sl [.str a, .str b]] (.d (.str (ruleT [(⟨#[105, 110, 116, 32, 105, 110, 116]⟩, ⟨#[105, 110, 116]⟩)] (joinT a b)))) := by
 refine pfb Try.func57 Try.ntmps57 Try.results57 (fun S0 O0 w0 m0 hm0 => ?_)
 repeat' first | refine st (by exact rfl) ?_ | refine ct (by exact rfl) ?_ rfl | refine cf (by exact rfl) ?_ rfl | refine el (by exact rfl) rfl ?_ (by decide) | fail
 refine Z98 ?_
 iterate 3 refine ov (hc := ?_)
 refine Z112 ?_;refine Z14 ?_;refine Z88 ?_
 repeat' first | refine st (by exact rfl) ?_ | refine ct (by exact rfl) ?_ rfl | refine cf (by exact rfl) ?_ rfl | refine el (by exact rfl) rfl ?_ (by decide) | fail
 exact Y0
set_option maxHeartbeats 4000000 in
theorem c146b4 (num : Int) (ks : List D) (a b : ByteArray) (ha : a.size ≤ 1000000) (hb : b.size ≤ 1000000) : Pf Try.prog 57 [.agg [.int .i64 6, .str ⟨#[37]⟩, .int .i64 num, .sl ks], .sl [.str a, .str b]] (.d (.str (ruleT [(⟨#[105, 110, 116, 32, 105, 110, 116]⟩, ⟨#[105, 110, 116]⟩)] (joinT a b)))) := by
 refine pfb Try.func57 Try.ntmps57 Try.results57 (fun S0 O0 w0 m0 hm0 => ?_)
 repeat' first | refine st (by exact rfl) ?_ | refine ct (by exact rfl) ?_ rfl | refine cf (by exact rfl) ?_ rfl | refine el (by exact rfl) rfl ?_ (by decide) | fail
 refine Z98 ?_
 iterate 3 refine ov (hc := ?_)
 refine Z112 ?_;refine Z14 ?_;refine Z88 ?_
 repeat' first | refine st (by exact rfl) ?_ | refine ct (by exact rfl) ?_ rfl | refine cf (by exact rfl) ?_ rfl | refine el (by exact rfl) rfl ?_ (by decide) | fail
 exact Y0
set_option maxHeartbeats 4000000 in
theorem c146b5 (num : Int) (ks : List D) (a b : ByteArray) (ha : a.size ≤ 1000000) (hb : b.size ≤ 1000000) : Pf Try.prog 57 [.agg [.int .i64 6, .str ⟨#[61, 61]⟩, .int .i64 num, .sl ks], .sl [.str a, .str b]] (.d (.str (ruleT [(⟨#[105, 110, 116, 32, 105, 110, 116]⟩, ⟨#[98, 111, 111, 108]⟩), (⟨#[98, 111, 111, 108, 32, 98, 111, 111, 108]⟩, ⟨#[98, 111, 111, 108]⟩)] (joinT a b)))) := by
 refine pfb Try.func57 Try.ntmps57 Try.results57 (fun S0 O0 w0 m0 hm0 => ?_)
 repeat' first | refine st (by exact rfl) ?_ | refine ct (by exact rfl) ?_ rfl | refine cf (by exact rfl) ?_ rfl | refine el (by exact rfl) rfl ?_ (by decide) | fail
 refine Z98 ?_
 iterate 3 refine ov (hc := ?_)
 refine Z112 ?_
 refine ols C9 (hr := ruleT_lsK [(⟨#[105, 110, 116, 32, 105, 110, 116]⟩, ⟨#[98, 111, 111, 108]⟩), (⟨#[98, 111, 111, 108, 32, 98, 111, 111, 108]⟩, ⟨#[98, 111, 111, 108]⟩)] (joinT a b)) (hk := Nat.ble_eq_true_of_le (joinT_size ha hb)) (hc := ?_)
 refine Z88 ?_
 repeat' first | refine st (by exact rfl) ?_ | refine ct (by exact rfl) ?_ rfl | refine cf (by exact rfl) ?_ rfl | refine el (by exact rfl) rfl ?_ (by decide) | fail
 exact Y0
set_option maxHeartbeats 4000000 in
theorem c146b6 (num : Int) (ks : List D) (a b : ByteArray) (ha : a.size ≤ 1000000) (hb : b.size ≤ 1000000) : Pf Try.prog 57 [.agg [.int .i64 6, .str ⟨#[33, 61]⟩, .int .i64 num, .sl ks], .sl [.str a, .str b]] (.d (.str (ruleT [(⟨#[105, 110, 116, 32, 105, 110, 116]⟩, ⟨#[98, 111, 111, 108]⟩), (⟨#[98, 111, 111, 108, 32, 98, 111, 111, 108]⟩, ⟨#[98, 111, 111, 108]⟩)] (joinT a b)))) := by
 refine pfb Try.func57 Try.ntmps57 Try.results57 (fun S0 O0 w0 m0 hm0 => ?_)
 repeat' first | refine st (by exact rfl) ?_ | refine ct (by exact rfl) ?_ rfl | refine cf (by exact rfl) ?_ rfl | refine el (by exact rfl) rfl ?_ (by decide) | fail
 refine Z98 ?_
 iterate 3 refine ov (hc := ?_)
 refine Z112 ?_
 refine ols C9 (hr := ruleT_lsK [(⟨#[105, 110, 116, 32, 105, 110, 116]⟩, ⟨#[98, 111, 111, 108]⟩), (⟨#[98, 111, 111, 108, 32, 98, 111, 111, 108]⟩, ⟨#[98, 111, 111, 108]⟩)] (joinT a b)) (hk := Nat.ble_eq_true_of_le (joinT_size ha hb)) (hc := ?_)
 refine Z88 ?_
 repeat' first | refine st (by exact rfl) ?_ | refine ct (by exact rfl) ?_ rfl | refine cf (by exact rfl) ?_ rfl | refine el (by exact rfl) rfl ?_ (by decide) | fail
 exact Y0
set_option maxHeartbeats 4000000 in
theorem c146b7 (num : Int) (ks : List D) (a b : ByteArray) (ha : a.size ≤ 1000000) (hb : b.size ≤ 1000000) : Pf Try.prog 57 [.agg [.int .i64 6, .str ⟨#[60]⟩, .int .i64 num, .sl ks], .sl [.str a, .str b]] (.d (.str (ruleT [(⟨#[105, 110, 116, 32, 105, 110, 116]⟩, ⟨#[98, 111, 111, 108]⟩)] (joinT a b)))) := by
 refine pfb Try.func57 Try.ntmps57 Try.results57 (fun S0 O0 w0 m0 hm0 => ?_)
 repeat' first | refine st (by exact rfl) ?_ | refine ct (by exact rfl) ?_ rfl | refine cf (by exact rfl) ?_ rfl | refine el (by exact rfl) rfl ?_ (by decide) | fail
 refine Z98 ?_
 iterate 3 refine ov (hc := ?_)
 refine Z112 ?_;refine Z24 ?_;refine Z88 ?_
 repeat' first | refine st (by exact rfl) ?_ | refine ct (by exact rfl) ?_ rfl | refine cf (by exact rfl) ?_ rfl | refine el (by exact rfl) rfl ?_ (by decide) | fail
 exact Y0
set_option maxHeartbeats 4000000 in
theorem c146b8 (num : Int) (ks : List D) (a b : ByteArray) (ha : a.size ≤ 1000000) (hb : b.size ≤ 1000000) : Pf Try.prog 57 [.agg [.int .i64 6, .str ⟨#[60, 61]⟩, .int .i64 num, .sl ks], .sl [.str a, .str b]] (.d (.str (ruleT [(⟨#[105, 110, 116, 32, 105, 110, 116]⟩, ⟨#[98, 111, 111, 108]⟩)] (joinT a b)))) := by
 refine pfb Try.func57 Try.ntmps57 Try.results57 (fun S0 O0 w0 m0 hm0 => ?_)
 repeat' first | refine st (by exact rfl) ?_ | refine ct (by exact rfl) ?_ rfl | refine cf (by exact rfl) ?_ rfl | refine el (by exact rfl) rfl ?_ (by decide) | fail
 refine Z98 ?_
 iterate 3 refine ov (hc := ?_)
 refine Z112 ?_;refine Z24 ?_;refine Z88 ?_
 repeat' first | refine st (by exact rfl) ?_ | refine ct (by exact rfl) ?_ rfl | refine cf (by exact rfl) ?_ rfl | refine el (by exact rfl) rfl ?_ (by decide) | fail
 exact Y0
set_option maxHeartbeats 4000000 in
theorem c146b9 (num : Int) (ks : List D) (a b : ByteArray) (ha : a.size ≤ 1000000) (hb : b.size ≤ 1000000) : Pf Try.prog 57 [.agg [.int .i64 6, .str ⟨#[62]⟩, .int .i64 num, .sl ks], .sl [.str a, .str b]] (.d (.str (ruleT [(⟨#[105, 110, 116, 32, 105, 110, 116]⟩, ⟨#[98, 111, 111, 108]⟩)] (joinT a b)))) := by
 refine pfb Try.func57 Try.ntmps57 Try.results57 (fun S0 O0 w0 m0 hm0 => ?_)
 repeat' first | refine st (by exact rfl) ?_ | refine ct (by exact rfl) ?_ rfl | refine cf (by exact rfl) ?_ rfl | refine el (by exact rfl) rfl ?_ (by decide) | fail
 refine Z98 ?_
 iterate 3 refine ov (hc := ?_)
 refine Z112 ?_;refine Z24 ?_;refine Z88 ?_
 repeat' first | refine st (by exact rfl) ?_ | refine ct (by exact rfl) ?_ rfl | refine cf (by exact rfl) ?_ rfl | refine el (by exact rfl) rfl ?_ (by decide) | fail
 exact Y0
set_option maxHeartbeats 4000000 in
theorem c146b10 (num : Int) (ks : List D) (a b : ByteArray) (ha : a.size ≤ 1000000) (hb : b.size ≤ 1000000) : Pf Try.prog 57 [.agg [.int .i64 6, .str ⟨#[62, 61]⟩, .int .i64 num, .sl ks], .sl [.str a, .str b]] (.d (.str (ruleT [(⟨#[105, 110, 116, 32, 105, 110, 116]⟩, ⟨#[98, 111, 111, 108]⟩)] (joinT a b)))) := by
 refine pfb Try.func57 Try.ntmps57 Try.results57 (fun S0 O0 w0 m0 hm0 => ?_)
 repeat' first | refine st (by exact rfl) ?_ | refine ct (by exact rfl) ?_ rfl | refine cf (by exact rfl) ?_ rfl | refine el (by exact rfl) rfl ?_ (by decide) | fail
 refine Z98 ?_
 iterate 3 refine ov (hc := ?_)
 refine Z112 ?_;refine Z24 ?_;refine Z88 ?_
 repeat' first | refine st (by exact rfl) ?_ | refine ct (by exact rfl) ?_ rfl | refine cf (by exact rfl) ?_ rfl | refine el (by exact rfl) rfl ?_ (by decide) | fail
 exact Y0
set_option maxHeartbeats 4000000 in
theorem c146b11 (num : Int) (ks : List D) (a b : ByteArray) (ha : a.size ≤ 1000000) (hb : b.size ≤ 1000000) : Pf Try.prog 57 [.agg [.int .i64 6, .str ⟨#[38, 38]⟩, .int .i64 num, .sl ks], .sl [.str a, .str b]] (.d (.str (ruleT [(⟨#[98, 111, 111, 108, 32, 98, 111, 111, 108]⟩, ⟨#[98, 111, 111, 108]⟩)] (joinT a b)))) := by
 refine pfb Try.func57 Try.ntmps57 Try.results57 (fun S0 O0 w0 m0 hm0 => ?_)
 repeat' first | refine st (by exact rfl) ?_ | refine ct (by exact rfl) ?_ rfl | refine cf (by exact rfl) ?_ rfl | refine el (by exact rfl) rfl ?_ (by decide) | fail
 refine Z98 ?_
 iterate 3 refine ov (hc := ?_)
 refine Z112 ?_
 refine ols C9 (hr := ruleT_lsK [(⟨#[98, 111, 111, 108, 32, 98, 111, 111, 108]⟩, ⟨#[98, 111, 111, 108]⟩)] (joinT a b)) (hk := Nat.ble_eq_true_of_le (joinT_size ha hb)) (hc := ?_)
 refine Z88 ?_
 repeat' first | refine st (by exact rfl) ?_ | refine ct (by exact rfl) ?_ rfl | refine cf (by exact rfl) ?_ rfl | refine el (by exact rfl) rfl ?_ (by decide) | fail
 exact Y0
set_option maxHeartbeats 4000000 in
theorem c146b12 (num : Int) (ks : List D) (a b : ByteArray) (ha : a.size ≤ 1000000) (hb : b.size ≤ 1000000) : Pf Try.prog 57 [.agg [.int .i64 6, .str ⟨#[124, 124]⟩, .int .i64 num, .sl ks], .sl [.str a, .str b]] (.d (.str (ruleT [(⟨#[98, 111, 111, 108, 32, 98, 111, 111, 108]⟩, ⟨#[98, 111, 111, 108]⟩)] (joinT a b)))) := by
 refine pfb Try.func57 Try.ntmps57 Try.results57 (fun S0 O0 w0 m0 hm0 => ?_)
 repeat' first | refine st (by exact rfl) ?_ | refine ct (by exact rfl) ?_ rfl | refine cf (by exact rfl) ?_ rfl | refine el (by exact rfl) rfl ?_ (by decide) | fail
 refine Z98 ?_
 iterate 3 refine ov (hc := ?_)
 refine Z112 ?_
 refine ols C9 (hr := ruleT_lsK [(⟨#[98, 111, 111, 108, 32, 98, 111, 111, 108]⟩, ⟨#[98, 111, 111, 108]⟩)] (joinT a b)) (hk := Nat.ble_eq_true_of_le (joinT_size ha hb)) (hc := ?_)
 refine Z88 ?_
 repeat' first | refine st (by exact rfl) ?_ | refine ct (by exact rfl) ?_ rfl | refine cf (by exact rfl) ?_ rfl | refine el (by exact rfl) rfl ?_ (by decide) | fail
 exact Y0
end
section
set_option maxHeartbeats 4000000 in
theorem c146_7 (nm : ByteArray) (num : Int) (ks : List D) (a b : ByteArray) : Pf Try.prog 57 [.agg [.int .i64 7, .str nm, .int .i64 num, .sl ks], .sl [.str a, .str b]] (.d (.str (whenS (allB [a, b] sInt) sRange))) := by
 refine pfb Try.func57 Try.ntmps57 Try.results57 (fun S0 O0 w0 m0 hm0 => ?_)
 repeat' first | refine st (by exact rfl) ?_ | refine ct (by exact rfl) ?_ rfl | refine cf (by exact rfl) ?_ rfl | refine el (by exact rfl) rfl ?_ (by decide) | refine elg (.str a) (by exact rfl) (fun _ => ⟨by decide, by rfl, by rfl⟩) ?_ | refine elg (.str b) (by exact rfl) (fun _ => ⟨by decide, by rfl, by rfl⟩) ?_ | refine cl (by exact rfl) (c222 [a, b] sInt (by simp)) ?_ | refine cl (by exact rfl) (c219 _ _) ?_ | fail
 exact Y0
set_option maxHeartbeats 4000000 in
theorem c146_8 (nm : ByteArray) (num : Int) (ks : List D) (a b : ByteArray) : Pf Try.prog 57 [.agg [.int .i64 8, .str nm, .int .i64 num, .sl ks], .sl [.str a, .str b]] (.d (.str (whenS (decide (a = sRange) && decide (b = sInt)) sRange))) := by
 refine pfb Try.func57 Try.ntmps57 Try.results57 (fun S0 O0 w0 m0 hm0 => ?_)
 repeat' first | refine st (by exact rfl) ?_ | refine ct (by exact rfl) ?_ rfl | refine cf (by exact rfl) ?_ rfl | refine el (by exact rfl) rfl ?_ (by decide) | refine elg (.str a) (by exact rfl) (fun _ => ⟨by decide, by rfl, by rfl⟩) ?_ | refine elg (.str b) (by exact rfl) (fun _ => ⟨by decide, by rfl, by rfl⟩) ?_ | refine cl (by exact rfl) (c219 _ _) ?_ | fail
 exact Y0
set_option maxHeartbeats 4000000 in
theorem c146_9 (nm : ByteArray) (num : Int) (ks : List D) (a b : ByteArray) : Pf Try.prog 57 [.agg [.int .i64 9, .str nm, .int .i64 num, .sl ks], .sl [.str a, .str b]] (.d (.str (whenS (decide (a = sRange) && decide (b = sInt)) sRange))) := by
 refine pfb Try.func57 Try.ntmps57 Try.results57 (fun S0 O0 w0 m0 hm0 => ?_)
 repeat' first | refine st (by exact rfl) ?_ | refine ct (by exact rfl) ?_ rfl | refine cf (by exact rfl) ?_ rfl | refine el (by exact rfl) rfl ?_ (by decide) | refine elg (.str a) (by exact rfl) (fun _ => ⟨by decide, by rfl, by rfl⟩) ?_ | refine elg (.str b) (by exact rfl) (fun _ => ⟨by decide, by rfl, by rfl⟩) ?_ | refine cl (by exact rfl) (c219 _ _) ?_ | fail
 exact Y0
set_option maxHeartbeats 4000000 in
theorem c146_11 (nm : ByteArray) (num : Int) (ks : List D) (a : ByteArray) (r : List ByteArray) (hl : r.length ≤ 1000000) : Pf Try.prog 57 [.agg [.int .i64 11, .str nm, .int .i64 num, .sl ks], .sl (.str a :: r.map .str)] (.d (.str (whenS (isDomB a && allB r sInt) a))) := by
 refine pfb Try.func57 Try.ntmps57 Try.results57 (fun S0 O0 w0 m0 hm0 => ?_)
 repeat' first | refine st (by exact rfl) ?_ | refine ct (by exact rfl) ?_ rfl | refine cf (by exact rfl) ?_ rfl | refine el (by exact rfl) rfl ?_ (by decide) | refine elg (.str a) (by exact rfl) (fun _ => ⟨by decide, by rfl, by rfl⟩) ?_ | fail
 refine Z20 ?_
 iterate 2 refine ov (hc := ?_)
 refine Z46 ?_;refine Z3 ?_
 refine oc (hcl := c141 a) (hc := ?_)
 refine Z95 ?_
 refine oqg (hcc := fun _ => ?_) (hc := ?_)
 · refine ⟨⟨by decide, by simp only [List.length_cons, List.length_map]; omega⟩, fun x hx => ?_⟩
   simp only [List.mem_cons, List.mem_map] at hx
   rcases hx with rfl | ⟨y, _, rfl⟩ <;> rfl
 refine ocg (hcl := fun _ => c222 r sInt (by omega)) (hc := ?_)
 refine Z95 ?_;refine Z46 ?_;refine Z3 ?_;refine Z53 ?_;refine Z88 ?_
 repeat' first | refine st (by exact rfl) ?_ | refine ct (by exact rfl) ?_ rfl | refine cf (by exact rfl) ?_ rfl | refine el (by exact rfl) rfl ?_ (by decide) | refine elg (.str a) (by exact rfl) (fun _ => ⟨by decide, by rfl, by rfl⟩) ?_ | fail
 exact Y0
set_option maxHeartbeats 4000000 in
theorem c146_14 (nm : ByteArray) (num : Int) (ks : List D) (a : ByteArray) : Pf Try.prog 57 [.agg [.int .i64 14, .str nm, .int .i64 num, .sl ks], .sl [.str a]] (.d (.str (fieldT nm a))) := by
 refine pfb Try.func57 Try.ntmps57 Try.results57 (fun S0 O0 w0 m0 hm0 => ?_)
 repeat' first | refine st (by exact rfl) ?_ | refine ct (by exact rfl) ?_ rfl | refine cf (by exact rfl) ?_ rfl | refine el (by exact rfl) rfl ?_ (by decide) | refine elg (.str a) (by exact rfl) (fun _ => ⟨by decide, by rfl, by rfl⟩) ?_ | fail
 refine Z20 ?_
 iterate 3 refine ov (hc := ?_)
 refine Z46 ?_;refine Z3 ?_
 refine oc (hcl := c223 nm a) (hc := ?_)
 refine Z88 ?_
 repeat' first | refine st (by exact rfl) ?_ | refine ct (by exact rfl) ?_ rfl | refine cf (by exact rfl) ?_ rfl | refine el (by exact rfl) rfl ?_ (by decide) | refine elg (.str a) (by exact rfl) (fun _ => ⟨by decide, by rfl, by rfl⟩) ?_ | fail
 exact Y0
set_option maxHeartbeats 4000000 in
theorem c146_18 (nm : ByteArray) (num : Int) (ks : List D) (a : ByteArray) : Pf Try.prog 57 [.agg [.int .i64 18, .str nm, .int .i64 num, .sl ks], .sl [.str a]] (.d (.str (whenS ((decide (a = sRange) || decide (a = sDom1)) || isArrB a) sInt))) := by
 refine pfb Try.func57 Try.ntmps57 Try.results57 (fun S0 O0 w0 m0 hm0 => ?_)
 repeat' first | refine st (by exact rfl) ?_ | refine ct (by exact rfl) ?_ rfl | refine cf (by exact rfl) ?_ rfl | refine el (by exact rfl) rfl ?_ (by decide) | refine elg (.str a) (by exact rfl) (fun _ => ⟨by decide, by rfl, by rfl⟩) ?_ | refine clg (by exact rfl) (fun _ => c143 a) ?_ | refine cl (by exact rfl) (c219 _ _) ?_ | fail
 exact Y0
set_option maxHeartbeats 4000000 in
theorem c146_19 (nm : ByteArray) (num : Int) (ks : List D) (a b c : ByteArray) : Pf Try.prog 57 [.agg [.int .i64 19, .str nm, .int .i64 num, .sl ks], .sl [.str a, .str b, .str c]] (.d (.str (whenS ((decide (a = sBool) && decide (b = c)) && (((decide (b = sInt) || decide (b = sBool)) || decide (b = sRange)) || isDomB b)) b))) := by
 refine pfb Try.func57 Try.ntmps57 Try.results57 (fun S0 O0 w0 m0 hm0 => ?_)
 repeat' first | refine st (by exact rfl) ?_ | refine ct (by exact rfl) ?_ rfl | refine cf (by exact rfl) ?_ rfl | refine el (by exact rfl) rfl ?_ (by decide) | refine elg (.str a) (by exact rfl) (fun _ => ⟨by decide, by rfl, by rfl⟩) ?_ | refine elg (.str b) (by exact rfl) (fun _ => ⟨by decide, by rfl, by rfl⟩) ?_ | refine elg (.str c) (by exact rfl) (fun _ => ⟨by decide, by rfl, by rfl⟩) ?_ | refine clg (by exact rfl) (fun _ => c141 b) ?_ | refine cl (by exact rfl) (c219 _ _) ?_ | fail
 refine Z20 ?_
 iterate 2 refine ov (hc := ?_)
 refine Z46 ?_
 iterate 4 refine ov (hc := ?_)
 refine oig (.str b) (hd := fun _ => ⟨by decide, by rfl, by rfl⟩) (hc := ?_)
 iterate 2 refine ov (hc := ?_)
 refine oig (.str c) (hd := fun _ => ⟨by decide, by rfl, by rfl⟩) (hc := ?_)
 iterate 7 refine ov (hc := ?_)
 refine Z46 ?_;refine Z3 ?_;refine Z53 ?_;refine Z88 ?_
 repeat' first | refine st (by exact rfl) ?_ | refine ct (by exact rfl) ?_ rfl | refine cf (by exact rfl) ?_ rfl | refine el (by exact rfl) rfl ?_ (by decide) | refine elg (.str a) (by exact rfl) (fun _ => ⟨by decide, by rfl, by rfl⟩) ?_ | refine elg (.str b) (by exact rfl) (fun _ => ⟨by decide, by rfl, by rfl⟩) ?_ | refine elg (.str c) (by exact rfl) (fun _ => ⟨by decide, by rfl, by rfl⟩) ?_ | fail
 exact Y0
set_option maxHeartbeats 4000000 in
theorem c146_10a (nm : ByteArray) (num : Int) (ks : List D) (a : ByteArray) : Pf Try.prog 57 [.agg [.int .i64 10, .str nm, .int .i64 num, .sl ks], .sl [.str a]] (.d (.str (whenS (allB [a] sRange) sDom1))) := by
 refine pfb Try.func57 Try.ntmps57 Try.results57 (fun S0 O0 w0 m0 hm0 => ?_)
 repeat' first | refine st (by exact rfl) ?_ | refine ct (by exact rfl) ?_ rfl | refine cf (by exact rfl) ?_ rfl | refine el (by exact rfl) rfl ?_ (by decide) | refine elg (.str a) (by exact rfl) (fun _ => ⟨by decide, by rfl, by rfl⟩) ?_ | fail
 refine Z20 ?_
 iterate 2 refine ov (hc := ?_)
 refine oc (hcl := c222 [a] sRange (by simp)) (hc := ?_)
 iterate 3 refine ov (hc := ?_)
 refine oix (.str sDom1) u117 u9 (h0 := by simp) (h1 := by simp) (hc := ?_)
 refine Z53 ?_;refine Z88 ?_
 repeat' first | refine st (by exact rfl) ?_ | refine ct (by exact rfl) ?_ rfl | refine cf (by exact rfl) ?_ rfl | refine el (by exact rfl) rfl ?_ (by decide) | refine elg (.str a) (by exact rfl) (fun _ => ⟨by decide, by rfl, by rfl⟩) ?_ | fail
 exact Y0
set_option maxHeartbeats 4000000 in
theorem c146_10b (nm : ByteArray) (num : Int) (ks : List D) (a b : ByteArray) : Pf Try.prog 57 [.agg [.int .i64 10, .str nm, .int .i64 num, .sl ks], .sl [.str a, .str b]] (.d (.str (whenS (allB [a, b] sRange) sDom2))) := by
 refine pfb Try.func57 Try.ntmps57 Try.results57 (fun S0 O0 w0 m0 hm0 => ?_)
 repeat' first | refine st (by exact rfl) ?_ | refine ct (by exact rfl) ?_ rfl | refine cf (by exact rfl) ?_ rfl | refine el (by exact rfl) rfl ?_ (by decide) | refine elg (.str a) (by exact rfl) (fun _ => ⟨by decide, by rfl, by rfl⟩) ?_ | refine elg (.str b) (by exact rfl) (fun _ => ⟨by decide, by rfl, by rfl⟩) ?_ | fail
 refine Z20 ?_
 iterate 2 refine ov (hc := ?_)
 refine oc (hcl := c222 [a, b] sRange (by simp)) (hc := ?_)
 iterate 3 refine ov (hc := ?_)
 refine oix (.str sDom2) u117 u9 (h0 := by simp) (h1 := by simp) (hc := ?_)
 refine Z53 ?_;refine Z88 ?_
 repeat' first | refine st (by exact rfl) ?_ | refine ct (by exact rfl) ?_ rfl | refine cf (by exact rfl) ?_ rfl | refine el (by exact rfl) rfl ?_ (by decide) | refine elg (.str a) (by exact rfl) (fun _ => ⟨by decide, by rfl, by rfl⟩) ?_ | refine elg (.str b) (by exact rfl) (fun _ => ⟨by decide, by rfl, by rfl⟩) ?_ | fail
 exact Y0
set_option maxHeartbeats 4000000 in
theorem c146_12a (nm : ByteArray) (num : Int) (ks : List D) (a b : ByteArray) : Pf Try.prog 57 [.agg [.int .i64 12, .str nm, .int .i64 num, .sl ks], .sl [.str a, .str b]] (.d (.str (whenS (decide (a = sArr1) && allB [b] sInt) sInt))) := by
 refine pfb Try.func57 Try.ntmps57 Try.results57 (fun S0 O0 w0 m0 hm0 => ?_)
 repeat' first | refine st (by exact rfl) ?_ | refine ct (by exact rfl) ?_ rfl | refine cf (by exact rfl) ?_ rfl | refine el (by exact rfl) rfl ?_ (by decide) | refine elg (.str a) (by exact rfl) (fun _ => ⟨by decide, by rfl, by rfl⟩) ?_ | refine elg (.str b) (by exact rfl) (fun _ => ⟨by decide, by rfl, by rfl⟩) ?_ | fail
 refine Z20 ?_
 iterate 2 refine ov (hc := ?_)
 refine Z46 ?_
 iterate 4 refine ov (hc := ?_)
 refine oix (.str sArr1) u118 u9 (h0 := by simp) (h1 := by simp) (hc := ?_)
 iterate 3 refine ov (hc := ?_)
 refine oqg (hcc := fun _ => ?_) (hc := ?_)
 · refine ⟨⟨by decide, by simp⟩, fun x hx => ?_⟩
   simp only [List.mem_cons, List.not_mem_nil, or_false] at hx
   rcases hx with rfl | rfl <;> rfl
 refine ocg (hcl := fun _ => c222 [b] sInt (by simp)) (hc := ?_)
 refine Z3 ?_;refine Z53 ?_;refine Z88 ?_
 repeat' first | refine st (by exact rfl) ?_ | refine ct (by exact rfl) ?_ rfl | refine cf (by exact rfl) ?_ rfl | refine el (by exact rfl) rfl ?_ (by decide) | refine elg (.str a) (by exact rfl) (fun _ => ⟨by decide, by rfl, by rfl⟩) ?_ | refine elg (.str b) (by exact rfl) (fun _ => ⟨by decide, by rfl, by rfl⟩) ?_ | fail
 exact Y0
set_option maxHeartbeats 4000000 in
theorem c146_12b (nm : ByteArray) (num : Int) (ks : List D) (a b c : ByteArray) : Pf Try.prog 57 [.agg [.int .i64 12, .str nm, .int .i64 num, .sl ks], .sl [.str a, .str b, .str c]] (.d (.str (whenS (decide (a = sArr2) && allB [b, c] sInt) sInt))) := by
 refine pfb Try.func57 Try.ntmps57 Try.results57 (fun S0 O0 w0 m0 hm0 => ?_)
 repeat' first | refine st (by exact rfl) ?_ | refine ct (by exact rfl) ?_ rfl | refine cf (by exact rfl) ?_ rfl | refine el (by exact rfl) rfl ?_ (by decide) | refine elg (.str a) (by exact rfl) (fun _ => ⟨by decide, by rfl, by rfl⟩) ?_ | refine elg (.str b) (by exact rfl) (fun _ => ⟨by decide, by rfl, by rfl⟩) ?_ | refine elg (.str c) (by exact rfl) (fun _ => ⟨by decide, by rfl, by rfl⟩) ?_ | fail
 refine Z20 ?_
 iterate 2 refine ov (hc := ?_)
 refine Z46 ?_
 iterate 4 refine ov (hc := ?_)
 refine oix (.str sArr2) u118 u9 (h0 := by simp) (h1 := by simp) (hc := ?_)
 iterate 3 refine ov (hc := ?_)
 refine oqg (hcc := fun _ => ?_) (hc := ?_)
 · refine ⟨⟨by decide, by simp⟩, fun x hx => ?_⟩
   simp only [List.mem_cons, List.not_mem_nil, or_false] at hx
   rcases hx with rfl | rfl | rfl <;> rfl
 refine ocg (hcl := fun _ => c222 [b, c] sInt (by simp)) (hc := ?_)
 refine Z3 ?_;refine Z53 ?_;refine Z88 ?_
 repeat' first | refine st (by exact rfl) ?_ | refine ct (by exact rfl) ?_ rfl | refine cf (by exact rfl) ?_ rfl | refine el (by exact rfl) rfl ?_ (by decide) | refine elg (.str a) (by exact rfl) (fun _ => ⟨by decide, by rfl, by rfl⟩) ?_ | refine elg (.str b) (by exact rfl) (fun _ => ⟨by decide, by rfl, by rfl⟩) ?_ | refine elg (.str c) (by exact rfl) (fun _ => ⟨by decide, by rfl, by rfl⟩) ?_ | fail
 exact Y0
end
section
theorem opsM_get (nm : ByteArray) (z : D) (hz : z = .agg [.str ⟨#[]⟩, .str ⟨#[]⟩, .int .i64 0]) : mgetQ (.str nm) z opsM = .agg [.str (opGet nm).1, .str (opGet nm).2.1, .int .i64 (opGet nm).2.2] := by
 subst hz
 unfold opsM opGet
 induction opTab with
 | nil => rfl
 | cons x r ih =>
  rw [List.map_cons, mgetQ, List.find?_cons]
  by_cases h : x.1 = nm
  · rw [show D.keyQ (.str x.1) (.str nm) = true from by subst h; simp [D.keyQ, D.leafQ], show decide (x.1 = nm) = true from decide_eq_true h]
    rfl
  · rw [show D.keyQ (.str x.1) (.str nm) = false from by simp [D.keyQ, D.leafQ, h], show decide (x.1 = nm) = false from decide_eq_false h]
    exact ih
theorem opsM_lsK (nm : ByteArray) : lsK false (.str nm) (.agg [.str ⟨#[]⟩, .str ⟨#[]⟩, .int .i64 0]) opsM = some (.d (.agg [.str (opGet nm).1, .str (opGet nm).2.1, .int .i64 (opGet nm).2.2])) := by
 unfold lsK
 rw [opsM_get nm _ rfl]
set_option maxHeartbeats 4000000 in
theorem c146_15 (nm : ByteArray) (hnm : nm.size ≤ 140737488355328) (num : Int) (ks : List D) (a : ByteArray) (r : List ByteArray) (hl : r.length ≤ 1000000) : Pf Try.prog 57 [.agg [.int .i64 15, .str nm, .int .i64 num, .sl ks], .sl (.str a :: r.map .str)] (.d (.str (whenS (decide (a = (opGet nm).1) && allB r sInt) (opGet nm).2.1))) := by
 refine pfb Try.func57 Try.ntmps57 Try.results57 (fun S0 O0 w0 m0 hm0 => ?_)
 repeat' (fail_if_success with_reducible refine ar 1 ?_); first | refine st (by exact rfl) ?_ | fail
 refine Z17 ?_
 repeat' first | refine st (by exact rfl) ?_ | refine ct (by exact rfl) ?_ rfl | refine cf (by exact rfl) ?_ rfl | refine el (by exact rfl) rfl ?_ (by decide) | fail
 refine om 4 5 [[.d (.str ⟨#[]⟩), .d (.str ⟨#[]⟩), .d (.int .i64 0)]] [[.d (.str (opGet nm).1), .d (.str (opGet nm).2.1), .d (.int .i64 (opGet nm).2.2)]] (hc := ?_)
 refine ocm (hcl := c224) (hc := ?_)
 iterate 2 refine ovm (hc := ?_)
 refine olsm C9 (hr := opsM_lsK nm) (hk := Nat.ble_eq_true_of_le hnm) (hc := ?_)
 refine omk (hc := ?_)
 refine ofl (hc := ?_)
 refine oem (hc := ?_)
 repeat' first | refine st (by exact rfl) ?_ | refine ct (by exact rfl) ?_ rfl | refine cf (by exact rfl) ?_ rfl | refine el (by exact rfl) rfl ?_ (by decide) | fail
 refine Z20 ?_
 iterate 2 refine ov (hc := ?_)
 refine Z46 ?_
 iterate 6 refine ov (hc := ?_)
 refine oqg (hcc := fun _ => ?_) (hc := ?_)
 · refine ⟨⟨by decide, by simp only [List.length_cons, List.length_map]; omega⟩, fun x hx => ?_⟩
   simp only [List.mem_cons, List.mem_map] at hx
   rcases hx with rfl | ⟨y, _, rfl⟩ <;> rfl
 refine ocg (hcl := fun _ => c222 r sInt (by omega)) (hc := ?_)
 iterate 3 refine ov (hc := ?_)
 refine Z53 ?_;refine Z88 ?_
 repeat' first | refine st (by exact rfl) ?_ | refine ct (by exact rfl) ?_ rfl | refine cf (by exact rfl) ?_ rfl | refine el (by exact rfl) rfl ?_ (by decide) | fail
 exact Y0
end
end Go.Proofs.Ytklkbfpjimeaoaa
