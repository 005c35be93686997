import Derived.Test.YtklkbfpjimeaoaaGreatM27
import Derived.Test.YtklkbfpjimeaoaaGreatM23
/- Contracts of functions. Conditions: none. -/
set_option linter.unusedSimpArgs false
set_option linter.unusedVariables false
set_option maxRecDepth 20000
namespace Go.Proofs.YtklkbfpjimeaoaaGreat
open Go Go.Proofs.YtklkbfpjimeaoaaGreat.E
section
abbrev sX : ByteArray := ⟨#[120]⟩
abbrev awX : D := .agg [.int .i64 4, .str sX, .int .i64 0, .sl []]
abbrev awO : D := .agg [.int .i64 1, .str ⟨#[]⟩, .int .i64 1, .sl []]
abbrev awE : D := .agg [.int .i64 6, .str ⟨#[43]⟩, .int .i64 0, .sl [awX, awO]]
abbrev awN (t : ByteArray) : D := .agg [.sl [], .sl [], .map [], .ptr (.agg [.str sX, .str t, .bool false, .nil, .int .i64 0, .int .i64 0])]
abbrev awTr : Tr := .mk 6 ⟨#[43]⟩ 0 [.mk 4 sX 0 [], .mk 1 ⟨#[]⟩ 1 []]
theorem awTrOk : awTr.Ok := .mk (by decide) (by decide) (by decide) (by decide) (by
 intro k hk
 simp only [List.mem_cons, List.not_mem_nil, or_false] at hk
 rcases hk with rfl | rfl
 · exact .mk (by decide) (by decide) (by decide) (by decide) (by simp)
 · exact .mk (by decide) (by decide) (by decide) (by decide) (by simp))
theorem aw24 : Pf Tryz.prog 24 [awE] (.d (.int .i64 0)) := by
 have h := c24 awTr awTrOk (by decide)
 have h1 : awTr.d = awE := by simp [Tr.d, Tr.ds]
 have h2 : nodeE awTr = 0 := by kernel_rfl
 rw [h1, h2] at h
 exact h
theorem c221_0 : Pf Tryz.prog 221 [.sl [.str ⟨#[105, 110, 116]⟩, .str ⟨#[105, 110, 116]⟩]] (.d (.str ⟨#[105, 110, 116, 32, 105, 110, 116]⟩)) := by
 refine pfb Tryz.func221 Tryz.ntmps221 Tryz.results221 (fun S0 O0 w0 m0 hm0 => ?_)
 repeat' first | refine st (by exact rfl) ?_ | refine ct (by exact rfl) ?_ | refine cf (by exact rfl) ?_ | refine el (by exact rfl) rfl ?_ (by decide) | refine qu (by exact rfl) (by decide) ?_ | refine gRn 4 ?_ | fail
 exact Y1
set_option maxHeartbeats 4000000 in
theorem c146_0 : Pf Tryz.prog 146 [awE, .sl [.str ⟨#[105, 110, 116]⟩, .str ⟨#[105, 110, 116]⟩]] (.d (.str ⟨#[105, 110, 116]⟩)) := by
 refine pfb Tryz.func146 Tryz.ntmps146 Tryz.results146 (fun S0 O0 w0 m0 hm0 => ?_)
 repeat' first | refine st (by exact rfl) ?_ | refine ct (by exact rfl) ?_ | refine cf (by exact rfl) ?_ | refine el (by exact rfl) rfl ?_ (by decide) | refine qu (by exact rfl) (by decide) ?_ | refine gRn 4 ?_ | fail
 refine oo (hc := ?_)
 refine oc (hcl := c220) (hc := ?_)
 refine Z66 ?_;refine Z66 ?_;refine Z66 ?_
 refine ols C225 (hc := ?_)
 refine Z66 ?_
 refine oc (hcl := c221_0) (hc := ?_)
 refine ols C9 (hc := ?_)
 refine Z66 ?_
 refine oe (hc := ?_)
 repeat' first | refine st (by exact rfl) ?_ | refine ct (by exact rfl) ?_ | refine cf (by exact rfl) ?_ | refine el (by exact rfl) rfl ?_ (by decide) | refine qu (by exact rfl) (by decide) ?_ | refine gRn 4 ?_ | fail
 exact Y1
theorem c144_0 : Pf Tryz.prog 144 [awN sInt, .str sX] (.d (.agg [.str sX, .str ⟨#[105, 110, 116]⟩, .bool false])) := by
 refine pfb Tryz.func144 Tryz.ntmps144 Tryz.results144 (fun S0 O0 w0 m0 hm0 => ?_)
 repeat' first | refine st (by exact rfl) ?_ | refine ct (by exact rfl) ?_ | refine cf (by exact rfl) ?_ | refine el (by exact rfl) rfl ?_ (by decide) | refine qu (by exact rfl) (by decide) ?_ | refine gRn 4 ?_ | fail
 refine cl (by exact rfl) (c200L [⟨sX, sInt, false, 0, 0⟩] sX) ?_
 repeat' first | refine st (by exact rfl) ?_ | refine ct (by exact rfl) ?_ | refine cf (by exact rfl) ?_ | refine el (by exact rfl) rfl ?_ (by decide) | refine qu (by exact rfl) (by decide) ?_ | refine gRn 4 ?_ | fail
 exact Y1
theorem c80x_0 : Pf Tryz.prog 80 [awN sInt, awX, .bool false] (.d (.str sInt)) := by
 refine pfb Tryz.func80 Tryz.ntmps80 Tryz.results80 (fun S0 O0 w0 m0 hm0 => ?_)
 repeat' first | refine st (by exact rfl) ?_ | refine ct (by exact rfl) ?_ | refine cf (by exact rfl) ?_ | refine el (by exact rfl) rfl ?_ (by decide) | refine qu (by exact rfl) (by decide) ?_ | refine gRn 4 ?_ | fail
 refine cl (by exact rfl) c144_0 ?_
 repeat' first | refine st (by exact rfl) ?_ | refine ct (by exact rfl) ?_ | refine cf (by exact rfl) ?_ | refine el (by exact rfl) rfl ?_ (by decide) | refine qu (by exact rfl) (by decide) ?_ | refine gRn 4 ?_ | fail
 exact Y1
theorem c80o_0 : Pf Tryz.prog 80 [awN sInt, awO, .bool false] (.d (.str sInt)) := by
 refine pfb Tryz.func80 Tryz.ntmps80 Tryz.results80 (fun S0 O0 w0 m0 hm0 => ?_)
 repeat' first | refine st (by exact rfl) ?_ | refine ct (by exact rfl) ?_ | refine cf (by exact rfl) ?_ | refine el (by exact rfl) rfl ?_ (by decide) | refine qu (by exact rfl) (by decide) ?_ | refine gRn 4 ?_ | fail
 exact Y1
theorem c80_0 : Px Tryz.prog 80 [awN sInt, awE, .bool false] (.inl (.d (.str sInt))) := by
 refine pxB Tryz.func80 Tryz.ntmps80 Tryz.results80 (fun S0 O0 w0 m0 hm0 => ?_)
 repeat' first | refine st (by exact rfl) ?_ | refine ct (by exact rfl) ?_ | refine cf (by exact rfl) ?_ | refine el (by exact rfl) rfl ?_ (by decide) | refine qu (by exact rfl) (by decide) ?_ | refine gRn 4 ?_ | refine cl (by exact rfl) c80x_0 ?_ | refine cl (by exact rfl) c80o_0 ?_ | refine bs (by exact rfl) ?_ | refine ap (by exact rfl) ?_ | refine cl (by exact rfl) c146_0 ?_ | fail
 refine cl (by exact rfl) (c119t 13).inl ?_
 repeat' first | refine st (by exact rfl) ?_ | fail
 exact enx (by exact rfl) rfl
theorem x79_0 : Xm Tryz.prog 79 [.d (.ptr (awN sInt)), .d (.ptr awE), .ref 0 0] [[.d (.str ⟨#[]⟩)]] (.inl (.tup [])) [[.d (.str sInt)]] := by
 refine xmB 1 Tryz.func79 Tryz.ntmps79 Tryz.results79 (fun S0 O0 w0 m0 hm0 => ?_)
 repeat' first | refine st (by exact rfl) ?_ | fail
 refine cl (by exact rfl) c80_0.inl ?_
 repeat' first | refine st (by exact rfl) ?_ | fail
 exact enxm (by exact rfl) rfl (msame rfl)
set_option maxHeartbeats 4000000 in
theorem c18_0 : Pf Tryz.prog 18 [.agg [.sl [], .sl []], awE, .sl [.agg [.str sX, .str sInt, .bool false]]] (.tup [.d (.str sInt), .d (.int .i64 0)]) := by
 refine pfb Tryz.func18 Tryz.ntmps18 Tryz.results18 (fun S0 O0 w0 m0 hm0 => ?_)
 repeat' first | refine st (by exact rfl) ?_ | fail
 refine Z98 ?_;refine Z98 ?_
 refine cl (by exact rfl) aw24 ?_
 repeat' first | refine st (by exact rfl) ?_ | refine ct (by exact rfl) ?_ | refine cf (by exact rfl) ?_ | refine el (by exact rfl) rfl ?_ (by decide) | refine qu (by exact rfl) (by decide) ?_ | refine gRn 4 ?_ | fail
 refine cl (by exact rfl) (c74 6) ?_
 repeat' (fail_if_success with_reducible refine ar 22 ?_); first | refine fm 0 strB (fun k h => (C9.ok k h).2) (hg := ?_) | refine fz true (s := ⟨_, [_, _, _]⟩) (by exact rfl) ?_ | refine st (by exact rfl) ?_ | refine ct (by exact rfl) ?_ | refine cf (by exact rfl) ?_ | refine el (by exact rfl) rfl ?_ (by decide) | refine qu (by exact rfl) (by decide) ?_ | refine gRn 4 ?_ | fail
 refine Z98 ?_;refine Z98 ?_
 repeat' first | refine st (by exact rfl) ?_ | refine ct (by exact rfl) ?_ | refine cf (by exact rfl) ?_ | refine el (by exact rfl) rfl ?_ (by decide) | refine qu (by exact rfl) (by decide) ?_ | refine gRn 4 ?_ | fail
 refine cm (by exact rfl) (c75 79 (.ptr (awN sInt)) (.ptr awE) (.str ⟨#[]⟩) (.str sInt) (.inl (.tup [])) 0 (.inl ⟨rfl, rfl⟩) x79_0) ?_
 repeat' first | refine st (by exact rfl) ?_ | refine ct (by exact rfl) ?_ | refine cf (by exact rfl) ?_ | refine el (by exact rfl) rfl ?_ (by decide) | refine qu (by exact rfl) (by decide) ?_ | refine gRn 4 ?_ | fail
 skip
 exact Y1
theorem c221_1 : Pf Tryz.prog 221 [.sl [.str ⟨#[98, 111, 111, 108]⟩, .str ⟨#[105, 110, 116]⟩]] (.d (.str ⟨#[98, 111, 111, 108, 32, 105, 110, 116]⟩)) := by
 refine pfb Tryz.func221 Tryz.ntmps221 Tryz.results221 (fun S0 O0 w0 m0 hm0 => ?_)
 repeat' first | refine st (by exact rfl) ?_ | refine ct (by exact rfl) ?_ | refine cf (by exact rfl) ?_ | refine el (by exact rfl) rfl ?_ (by decide) | refine qu (by exact rfl) (by decide) ?_ | refine gRn 4 ?_ | fail
 exact Y1
set_option maxHeartbeats 4000000 in
theorem c146_1 : Pf Tryz.prog 146 [awE, .sl [.str ⟨#[98, 111, 111, 108]⟩, .str ⟨#[105, 110, 116]⟩]] (.d (.str ⟨#[]⟩)) := by
 refine pfb Tryz.func146 Tryz.ntmps146 Tryz.results146 (fun S0 O0 w0 m0 hm0 => ?_)
 repeat' first | refine st (by exact rfl) ?_ | refine ct (by exact rfl) ?_ | refine cf (by exact rfl) ?_ | refine el (by exact rfl) rfl ?_ (by decide) | refine qu (by exact rfl) (by decide) ?_ | refine gRn 4 ?_ | fail
 refine oo (hc := ?_)
 refine oc (hcl := c220) (hc := ?_)
 refine Z66 ?_;refine Z66 ?_;refine Z66 ?_
 refine ols C225 (hc := ?_)
 refine Z66 ?_
 refine oc (hcl := c221_1) (hc := ?_)
 refine ols C9 (hc := ?_)
 refine Z66 ?_
 refine oe (hc := ?_)
 repeat' first | refine st (by exact rfl) ?_ | refine ct (by exact rfl) ?_ | refine cf (by exact rfl) ?_ | refine el (by exact rfl) rfl ?_ (by decide) | refine qu (by exact rfl) (by decide) ?_ | refine gRn 4 ?_ | fail
 exact Y1
theorem c144_1 : Pf Tryz.prog 144 [awN sBool, .str sX] (.d (.agg [.str sX, .str ⟨#[98, 111, 111, 108]⟩, .bool false])) := by
 refine pfb Tryz.func144 Tryz.ntmps144 Tryz.results144 (fun S0 O0 w0 m0 hm0 => ?_)
 repeat' first | refine st (by exact rfl) ?_ | refine ct (by exact rfl) ?_ | refine cf (by exact rfl) ?_ | refine el (by exact rfl) rfl ?_ (by decide) | refine qu (by exact rfl) (by decide) ?_ | refine gRn 4 ?_ | fail
 refine cl (by exact rfl) (c200L [⟨sX, sBool, false, 0, 0⟩] sX) ?_
 repeat' first | refine st (by exact rfl) ?_ | refine ct (by exact rfl) ?_ | refine cf (by exact rfl) ?_ | refine el (by exact rfl) rfl ?_ (by decide) | refine qu (by exact rfl) (by decide) ?_ | refine gRn 4 ?_ | fail
 exact Y1
theorem c80x_1 : Pf Tryz.prog 80 [awN sBool, awX, .bool false] (.d (.str sBool)) := by
 refine pfb Tryz.func80 Tryz.ntmps80 Tryz.results80 (fun S0 O0 w0 m0 hm0 => ?_)
 repeat' first | refine st (by exact rfl) ?_ | refine ct (by exact rfl) ?_ | refine cf (by exact rfl) ?_ | refine el (by exact rfl) rfl ?_ (by decide) | refine qu (by exact rfl) (by decide) ?_ | refine gRn 4 ?_ | fail
 refine cl (by exact rfl) c144_1 ?_
 repeat' first | refine st (by exact rfl) ?_ | refine ct (by exact rfl) ?_ | refine cf (by exact rfl) ?_ | refine el (by exact rfl) rfl ?_ (by decide) | refine qu (by exact rfl) (by decide) ?_ | refine gRn 4 ?_ | fail
 exact Y1
theorem c80o_1 : Pf Tryz.prog 80 [awN sBool, awO, .bool false] (.d (.str sInt)) := by
 refine pfb Tryz.func80 Tryz.ntmps80 Tryz.results80 (fun S0 O0 w0 m0 hm0 => ?_)
 repeat' first | refine st (by exact rfl) ?_ | refine ct (by exact rfl) ?_ | refine cf (by exact rfl) ?_ | refine el (by exact rfl) rfl ?_ (by decide) | refine qu (by exact rfl) (by decide) ?_ | refine gRn 4 ?_ | fail
 exact Y1
theorem c80_1 : Px Tryz.prog 80 [awN sBool, awE, .bool false] (.inr (wrongW 13)) := by
 refine pxB Tryz.func80 Tryz.ntmps80 Tryz.results80 (fun S0 O0 w0 m0 hm0 => ?_)
 repeat' first | refine st (by exact rfl) ?_ | refine ct (by exact rfl) ?_ | refine cf (by exact rfl) ?_ | refine el (by exact rfl) rfl ?_ (by decide) | refine qu (by exact rfl) (by decide) ?_ | refine gRn 4 ?_ | refine cl (by exact rfl) c80x_1 ?_ | refine cl (by exact rfl) c80o_1 ?_ | refine bs (by exact rfl) ?_ | refine ap (by exact rfl) ?_ | refine cl (by exact rfl) c146_1 ?_ | fail
 refine clp (by exact rfl) (c119f 13) ?_
 repeat' first | refine st (by exact rfl) ?_ | fail
 exact gPan rfl
theorem x79_1 : Xm Tryz.prog 79 [.d (.ptr (awN sBool)), .d (.ptr awE), .ref 0 0] [[.d (.str ⟨#[]⟩)]] (.inr (wrongW 13)) [[.d (.str ⟨#[]⟩)]] := by
 refine xmB 1 Tryz.func79 Tryz.ntmps79 Tryz.results79 (fun S0 O0 w0 m0 hm0 => ?_)
 repeat' first | refine st (by exact rfl) ?_ | fail
 refine clp (by exact rfl) c80_1 ?_
 repeat' first | refine st (by exact rfl) ?_ | fail
 exact gPanM rfl (msame rfl) (Nat.le_refl _)
set_option maxHeartbeats 4000000 in
theorem c18_1 : Pf Tryz.prog 18 [.agg [.sl [], .sl []], awE, .sl [.agg [.str sX, .str sBool, .bool false]]] (.tup [.d (.str ⟨#[]⟩), .d (.int .i64 13)]) := by
 refine pfb Tryz.func18 Tryz.ntmps18 Tryz.results18 (fun S0 O0 w0 m0 hm0 => ?_)
 repeat' first | refine st (by exact rfl) ?_ | fail
 refine Z98 ?_;refine Z98 ?_
 refine cl (by exact rfl) aw24 ?_
 repeat' first | refine st (by exact rfl) ?_ | refine ct (by exact rfl) ?_ | refine cf (by exact rfl) ?_ | refine el (by exact rfl) rfl ?_ (by decide) | refine qu (by exact rfl) (by decide) ?_ | refine gRn 4 ?_ | fail
 refine cl (by exact rfl) (c74 6) ?_
 repeat' (fail_if_success with_reducible refine ar 22 ?_); first | refine fm 0 strB (fun k h => (C9.ok k h).2) (hg := ?_) | refine fz true (s := ⟨_, [_, _, _]⟩) (by exact rfl) ?_ | refine st (by exact rfl) ?_ | refine ct (by exact rfl) ?_ | refine cf (by exact rfl) ?_ | refine el (by exact rfl) rfl ?_ (by decide) | refine qu (by exact rfl) (by decide) ?_ | refine gRn 4 ?_ | fail
 refine Z98 ?_;refine Z98 ?_
 repeat' first | refine st (by exact rfl) ?_ | refine ct (by exact rfl) ?_ | refine cf (by exact rfl) ?_ | refine el (by exact rfl) rfl ?_ (by decide) | refine qu (by exact rfl) (by decide) ?_ | refine gRn 4 ?_ | fail
 refine cm (by exact rfl) (c75 79 (.ptr (awN sBool)) (.ptr awE) (.str ⟨#[]⟩) (.str ⟨#[]⟩) (.inr (wrongW 13)) 13 (.inr rfl) x79_1) ?_
 repeat' first | refine st (by exact rfl) ?_ | refine ct (by exact rfl) ?_ | refine cf (by exact rfl) ?_ | refine el (by exact rfl) rfl ?_ (by decide) | refine qu (by exact rfl) (by decide) ?_ | refine gRn 4 ?_ | fail
 refine oo (hc := ?_)
 iterate 4 refine ov (hc := ?_)
 refine oe (hc := ?_)
 repeat' first | refine st (by exact rfl) ?_ | refine ct (by exact rfl) ?_ | refine cf (by exact rfl) ?_ | refine el (by exact rfl) rfl ?_ (by decide) | refine qu (by exact rfl) (by decide) ?_ | refine gRn 4 ?_ | fail
 exact Y1
theorem c17 : Pf Tryz.prog 17 [] (.d (.bool true)) := by
 refine pfb Tryz.func17 Tryz.ntmps17 Tryz.results17 (fun S0 O0 w0 m0 hm0 => ?_)
 repeat' first | refine st (by exact rfl) ?_ | refine bs (by exact rfl) ?_ | refine cl (by exact rfl) c18_0 ?_ | refine cl (by exact rfl) c18_1 ?_ | fail
 exact Y1
end
section
def Tr.longN (t : Tr) (m : Int) : Bool := decide (t.cnt m > m) || t.long
theorem c15 (t : Tr) (hok : t.Ok) (m : Int) (h0 : 0 ≤ m) (h1 : m ≤ 1000000) : Pf Tryz.prog 15 [t.d, .int .i64 m] (.d (.bool (t.longN m))) := by
 have q21 := c21n t.size t (Nat.le_refl _) hok m h0 h1
 have q68 := c68n t.size t (Nat.le_refl _) hok
 unfold Tr.longN
 generalize t.cnt m = c at *
 generalize t.long = lo at *
 obtain ⟨op, name, num, ks⟩ := t
 rw [Tr.d_mk] at *
 refine pfb Tryz.func15 Tryz.ntmps15 Tryz.results15 (fun S0 O0 w0 m0 hm0 => ?_)
 repeat' first | refine st (by exact rfl) ?_ | fail
 refine cl (by exact rfl) q21 ?_
 repeat' first | refine st (by exact rfl) ?_ | fail
 refine clg (by exact rfl) (fun _ => q68) ?_
 repeat' first | refine st (by exact rfl) ?_ | fail
 exact en (by exact rfl) rfl
theorem c4 (p : Pg) (t : Tr) (hp : p.Ok) (hok : t.Ok) : Pf Tryz.prog 4 [.agg [.sl (p.globals.map Tr.d), .sl (p.procs.map Pc.d)], t.d] (.d (.bool true)) := by
 have q14 := c14g p 600 hp (by decide) (by decide)
 have q15 := c15 t hok 600 (by decide) (by decide)
 have q21 := c21n t.size t (Nat.le_refl _) hok 4500 (by decide) (by decide)
 have q22 := c22 p hp
 have q23 := c23 p hp
 have q24 := c24 t hok
 have q25 := c25 t hok
 have hT : p.few 600 = true → p.total ≤ 1000000 := fun h => by
  have := (Pg.few_total (by decide) h).1
  omega
 have hS : (t.longN 600 && (decide (t.cnt 4500 ≤ 4000) || decide (t.cnt 4500 > 4500))) = false → t.size ≤ 1000000000 := fun h => by
  rw [Bool.and_eq_false_iff] at h
  rcases h with h | h
  · unfold Tr.longN at h
    simp only [Bool.or_eq_false_iff, decide_eq_false_iff_not] at h
    have := Tr.cnt_eq t 600 (by decide) (by omega)
    omega
  · simp only [Bool.or_eq_false_iff, decide_eq_false_iff_not] at h
    have := Tr.cnt_eq t 4500 (by decide) (by omega)
    omega
 generalize p.few 600 = fw at *
 generalize t.longN 600 = lo at *
 generalize t.cnt 4500 = c at *
 generalize formE p = fe at *
 generalize nodeE t = ne at *
 generalize p.total = tot at *
 generalize t.size = sz at *
 obtain ⟨op, name, num, ks⟩ := t
 rw [Tr.d_mk] at *
 refine pfb Tryz.func4 Tryz.ntmps4 Tryz.results4 (fun S0 O0 w0 m0 hm0 => ?_)
 repeat' first | refine st (by exact rfl) ?_ | refine cl (by exact rfl) q14 ?_ | refine clg (by exact rfl) (fun _ => q15) ?_ | refine clg (by exact rfl) (fun _ => q21) ?_ | fail
 refine cd (by exact rfl) (fun hb => ?_) (fun hb => ?_)
 · repeat' first | refine st (by exact rfl) ?_ | refine cl (by exact rfl) c17 ?_ | fail
   exact en (by exact rfl) rfl
 · have h1 : fw = true := by cases fw <;> simp_all
   have h2 : (lo && (decide (c ≤ 4000) || decide (c > 4500))) = false := by simp_all
   replace q22 := q22 (hT h1)
   replace q23 := q23 (hT h1)
   replace q24 := q24 (hS h2)
   replace q25 := q25 (hS h2)
   repeat' first | refine st (by exact rfl) ?_ | fail
   refine oo (hc := ?_)
   refine Z66 ?_
   refine oc (hcl := q22) (hc := ?_)
   refine Z66 ?_
   refine oc (hcl := q23) (hc := ?_)
   refine Z66 ?_;refine Z66 ?_;refine Z66 ?_
   refine ocg (hcl := fun _ => q24) (hc := ?_)
   refine Z66 ?_
   refine ocg (hcl := fun _ => q25) (hc := ?_)
   refine Z66 ?_;refine Z66 ?_;refine Z66 ?_
   refine ocg (hcl := fun _ => c17) (hc := ?_)
   refine Z66 ?_;refine Z66 ?_
   refine oe (hc := ?_)
   repeat' first | refine st (by exact rfl) ?_ | fail
   exact en (by exact rfl) (by simp)
end
end Go.Proofs.YtklkbfpjimeaoaaGreat
