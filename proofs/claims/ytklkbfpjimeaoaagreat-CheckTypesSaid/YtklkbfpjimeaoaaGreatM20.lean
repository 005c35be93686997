import Derived.Test.YtklkbfpjimeaoaaGreatM19
import Derived.ChangeKeysEq
import Derived.Laws.Closers25b
/- Contracts of functions. Conditions: none. -/
set_option linter.unusedSimpArgs false
set_option linter.unusedVariables false
set_option maxRecDepth 20000
namespace Go.Proofs.YtklkbfpjimeaoaaGreat
open Go Go.Proofs.YtklkbfpjimeaoaaGreat.E
section
def qmB : ByteArray := ⟨#[63]⟩
def typedB : Tr → Bool
 | .mk op name num ks => ((op == 30 && num == 0) && (ks.length : Int) == 0) && nameB (trimB name qmB)
def opTab : List (ByteArray × ByteArray × ByteArray × Int) :=
 [(⟨#[114, 101, 97, 100, 70, 69]⟩, ⟨#[115, 121, 110, 99]⟩, ⟨#[105, 110, 116]⟩, 0),
  (⟨#[114, 101, 97, 100, 70, 70]⟩, ⟨#[115, 121, 110, 99]⟩, ⟨#[105, 110, 116]⟩, 0),
  (⟨#[114, 101, 97, 100, 88, 88]⟩, ⟨#[115, 121, 110, 99]⟩, ⟨#[105, 110, 116]⟩, 0),
  (⟨#[105, 115, 70, 117, 108, 108]⟩, ⟨#[115, 121, 110, 99]⟩, ⟨#[98, 111, 111, 108]⟩, 0),
  (⟨#[114, 101, 115, 101, 116]⟩, ⟨#[115, 121, 110, 99]⟩, ⟨#[118, 111, 105, 100]⟩, 0),
  (⟨#[119, 114, 105, 116, 101, 69, 70]⟩, ⟨#[115, 121, 110, 99]⟩, ⟨#[118, 111, 105, 100]⟩, 1),
  (⟨#[119, 114, 105, 116, 101, 70, 70]⟩, ⟨#[115, 121, 110, 99]⟩, ⟨#[118, 111, 105, 100]⟩, 1),
  (⟨#[119, 114, 105, 116, 101, 88, 70]⟩, ⟨#[115, 121, 110, 99]⟩, ⟨#[118, 111, 105, 100]⟩, 1),
  (⟨#[114, 101, 97, 100]⟩, ⟨#[97, 116, 111, 109, 105, 99]⟩, ⟨#[105, 110, 116]⟩, 0),
  (⟨#[119, 114, 105, 116, 101]⟩, ⟨#[97, 116, 111, 109, 105, 99]⟩, ⟨#[118, 111, 105, 100]⟩, 1),
  (⟨#[97, 100, 100]⟩, ⟨#[97, 116, 111, 109, 105, 99]⟩, ⟨#[118, 111, 105, 100]⟩, 1),
  (⟨#[102, 101, 116, 99, 104, 65, 100, 100]⟩, ⟨#[97, 116, 111, 109, 105, 99]⟩, ⟨#[105, 110, 116]⟩, 1),
  (⟨#[101, 120, 99, 104, 97, 110, 103, 101]⟩, ⟨#[97, 116, 111, 109, 105, 99]⟩, ⟨#[105, 110, 116]⟩, 1),
  (⟨#[99, 111, 109, 112, 97, 114, 101, 65, 110, 100, 83, 119, 97, 112]⟩, ⟨#[97, 116, 111, 109, 105, 99]⟩, ⟨#[98, 111, 111, 108]⟩, 2)]
def opVal (x : ByteArray × ByteArray × Int) : D := .agg [.str x.1, .str x.2.1, .int .i64 x.2.2]
def opsM : List (D × D) := opTab.map fun x => (.str x.1, opVal x.2)
def opGet (name : ByteArray) : ByteArray × ByteArray × Int := match opTab.find? (fun x => decide (x.1 = name)) with | some x => x.2 | none => (⟨#[]⟩, ⟨#[]⟩, 0)
def opHas (name : ByteArray) : Bool := opTab.any fun x => decide (x.1 = name)
theorem mget_ops (name : ByteArray) : mget opsM (.str name) (.agg [.str ⟨#[]⟩, .str ⟨#[]⟩, .int .i64 0]) = opVal (opGet name) := by
 have h : (opTab.find? ((fun x : D × D => x.1.keyEq (.str name)) ∘ fun x => (D.str x.1, opVal x.2))) = opTab.find? (fun x => decide (x.1 = name)) := rfl
 unfold mget opGet opsM
 rw [List.find?_map, h]
 cases opTab.find? (fun x => decide (x.1 = name)) <;> rfl
theorem mhas_ops (name : ByteArray) : mhas opsM (.str name) = opHas name := by
 unfold mhas opHas opsM
 rw [List.any_map]; rfl
theorem opGet_takes (name : ByteArray) : 0 ≤ (opGet name).2.2 ∧ (opGet name).2.2 ≤ 2 := by
 have hall : (opTab.all fun x => decide (0 ≤ x.2.2.2) && decide (x.2.2.2 ≤ 2)) = true := by decide
 unfold opGet
 cases h : opTab.find? (fun x => decide (x.1 = name)) with
 | none => exact ⟨by decide, by decide⟩
 | some x =>
  have := List.all_eq_true.1 hall x (List.mem_of_find?_eq_some h)
  rw [Bool.and_eq_true, decide_eq_true_eq, decide_eq_true_eq] at this
  exact this
theorem c168 (t : Tr) : Pf Tryz.prog 168 [t.d] (.d (.bool (typedB t))) := by
 obtain ⟨op, name, num, ks⟩ := t
 rw [Tr.d_mk]
 try simp only [Tr.op_mk, Tr.nm_mk, Tr.nu_mk, Tr.kids_mk]
 refine pf_body (rvs := [.tmp 2]) [(0, .d (.agg [.int .i64 op, .str name, .int .i64 num, .sl (ks.map Tr.d)]))] Tryz.func168 Tryz.ntmps168 Tryz.results168 (fun S0 O0 w0 m0 hm0 => ?_)
 refine Z174 ?_;refine Z137 ?_;refine Z15 ?_;refine Z147 ?_;refine Z112 ?_
 refine sg rfl (fun hg => sP 8 rfl hg q_eql) ?_
 refine Z149 ?_;refine Z19 ?_
 refine sg rfl (fun hg => sP 12 rfl hg (qL u22)) ?_
 refine sg rfl (fun hg => sP 13 rfl hg (q_len u22)) ?_
 refine sg rfl (fun hg => sP 14 rfl hg q_eql) ?_
 refine Z149 ?_;refine Z51 ?_
 refine sg rfl (fun hg => sP 18 rfl hg (qL u9)) ?_
 refine g_callg (xs := [.tmp 19, .const (.string ⟨#[63]⟩)]) rfl (fun hg => c235 name qmB) ?_
 refine g_callg (xs := [.tmp 20]) rfl (fun hg => c167 _) ?_
 refine Z172 ?_
 exact ⟨by rw [typedB]; simp, rfl⟩
set_option maxHeartbeats 4000000 in
theorem c224  : Pf Tryz.prog 224 [] (.d (.map opsM)) := by
 refine pf_body (rvs := [.tmp 0]) [] Tryz.func224 Tryz.ntmps224 Tryz.results224 (fun S0 O0 w0 m0 hm0 => ?_)
 refine Z157 ?_
 refine sv rfl y_makeMap ?_
 refine Z177 ?_;refine Z177 ?_;refine Z177 ?_;refine Z177 ?_;refine Z177 ?_;refine Z177 ?_;refine Z177 ?_;refine Z177 ?_;refine Z177 ?_;refine Z177 ?_;refine Z177 ?_;refine Z177 ?_;refine Z177 ?_;refine Z177 ?_;refine Z2 ?_;refine Z1 ?_
 refine g_freezeM 0 [] rfl ?_
 refine Z12 ?_;refine Z4 ?_
 exact ⟨rfl, rfl⟩
def eee : ByteArray := ⟨#[101, 101, 101]⟩
def e1 : ByteArray := ⟨#[101]⟩
def bcB : ByteArray := ⟨#[98, 108, 111, 99, 107, 99, 121, 99, 108, 105, 99]⟩
def blB : ByteArray := ⟨#[98, 108, 111, 99, 107]⟩
def cyB : ByteArray := ⟨#[99, 121, 99, 108, 105, 99]⟩
def haB : ByteArray := ⟨#[104, 97, 115, 104, 101, 100]⟩
def otherB : Tr → Bool × Bool
 | .mk op name num ks =>
  if (op == 3) = true then (((num == 0 && (ks.length : Int) == 0) && decide ((name.size : Int) ≤ 200)) && plainTx name, true)
  else if (op == 4) = true then ((nameB name && num == 0) && (ks.length : Int) == 0, true)
  else if (op == 30) = true then (typedB (.mk op name num ks), true)
  else if (op == 50) = true then (varB (.mk op name num ks), true)
  else if (op == 13) = true then ((nameB name && num == 0) && everyB (fun op => isExprB op || op == 30) ks, true)
  else if (op == 15) = true then ((opHas name && num == 0) && kidsB ks (eee.extract 0 ((opGet name).2.2 + 1).toNat), true)
  else if (op == 11) = true then
   (if (decide (name = bcB)) = true then (num == 0 && kidsB ks ee) else (num == 0 && ((decide (name = blB) || decide (name = cyB)) || decide (name = haB))) && kidsB ks e1, true)
  else (false, false)
set_option maxHeartbeats 8000000 in
theorem c234 (t : Tr) (hok : t.Ok) : Pf Tryz.prog 234 [t.d] (.tup [.d (.bool (otherB t).1), .d (.bool (otherB t).2)]) := by
 obtain ⟨op, name, num, ks⟩ := t
 rw [Tr.d_mk]
 try simp only [Tr.op_mk, Tr.nm_mk, Tr.nu_mk, Tr.kids_mk]
 refine pf_body (rvs := [.tmp 2, .tmp 3]) [(0, .d (.agg [.int .i64 op, .str name, .int .i64 num, .sl (ks.map Tr.d)]))] Tryz.func234 Tryz.ntmps234 Tryz.results234 (fun S0 O0 w0 m0 hm0 => ?_)
 refine Z140 ?_;refine Z1 ?_;refine Z143 ?_;refine Z137 ?_;refine Z119 ?_;refine Z136 ?_
 refine zgC ?_ ?_ <;> intro hb0
 ·
  refine Z5 ?_;refine Z150 ?_
  refine gL (xs := [.tmp 12, .func 284]) rfl (c283 name 284 badR c284) ?_
  refine Z54 ?_;refine Z1 ?_;refine Z55 ?_;refine Z121 ?_;refine Z17 ?_;refine Z137 ?_;refine Z15 ?_;refine Z166 ?_
  refine sg rfl (fun hg => sP 19 rfl hg (qL u22)) ?_
  refine sg rfl (fun hg => sP 20 rfl hg (q_len u22)) ?_
  refine sg rfl (fun hg => sP 21 rfl hg q_eql) ?_
  refine Z149 ?_;refine Z51 ?_
  refine sg rfl (fun hg => sP 25 rfl hg (qL u9)) ?_
  refine sg rfl (fun hg => sP 26 rfl hg (q_lenstr u9)) ?_
  refine sg rfl (fun hg => sP 27 rfl hg q_leq) ?_
  refine Z149 ?_;refine Z18 ?_;refine Z11 ?_;refine Z1 ?_;refine Z130 ?_;refine Z87 ?_
  exact ⟨by rw [otherB, if_pos hb0]; simp [plainTx], rfl⟩
 refine Z159 ?_
 refine zgC ?_ ?_ <;> intro hb1
 ·
  refine Z5 ?_;refine Z150 ?_
  refine gL (xs := [.tmp 36]) rfl (c167 name) ?_
  refine Z147 ?_
  refine sg rfl (fun hg => sP 39 rfl hg (qL u3)) ?_
  refine sg rfl (fun hg => sP 40 rfl hg q_eql) ?_
  refine Z149 ?_;refine Z19 ?_
  refine sg rfl (fun hg => sP 44 rfl hg (qL u22)) ?_
  refine sg rfl (fun hg => sP 45 rfl hg (q_len u22)) ?_
  refine sg rfl (fun hg => sP 46 rfl hg q_eql) ?_
  refine Z11 ?_;refine Z1 ?_;refine Z130 ?_;refine Z87 ?_
  exact ⟨by rw [otherB, if_neg (by rw [hb0]; decide), if_pos hb1]; simp, rfl⟩
 refine Z159 ?_
 refine zgC ?_ ?_ <;> intro hb2
 ·
  refine Z156 ?_
  refine gL (xs := [.tmp 51]) rfl ((Tr.d_mk op name num ks ▸ c168 (.mk op name num ks))) ?_
  refine Z1 ?_;refine Z130 ?_;refine Z87 ?_
  exact ⟨by rw [otherB, if_neg (by rw [hb0]; decide), if_neg (by rw [hb1]; decide), if_pos hb2], rfl⟩
 refine Z159 ?_
 refine zgC ?_ ?_ <;> intro hb3
 ·
  refine Z38 ?_;refine Z121 ?_;refine Z17 ?_;refine Z7 ?_
  refine gL (xs := [.tmp 55]) rfl ((Tr.d_mk op name num ks ▸ c285 (.mk op name num ks) hok)) ?_
  refine Z1 ?_;refine Z130 ?_;refine Z87 ?_
  exact ⟨by rw [otherB, if_neg (by rw [hb0]; decide), if_neg (by rw [hb1]; decide), if_neg (by rw [hb2]; decide), if_pos hb3], rfl⟩
 refine Z38 ?_;refine Z121 ?_;refine Z187 ?_
 refine zgC ?_ ?_ <;> intro hb4
 ·
  refine Z5 ?_;refine Z150 ?_
  refine gL (xs := [.tmp 60]) rfl (c167 name) ?_
  refine Z147 ?_
  refine sg rfl (fun hg => sP 63 rfl hg (qL u3)) ?_
  refine sg rfl (fun hg => sP 64 rfl hg q_eql) ?_
  refine Z149 ?_;refine Z13 ?_
  refine g_callg (xs := [.tmp 68, .func 286]) rfl (fun hg => (Tr.d_mk op name num ks ▸ c159 (.mk op name num ks) 286 (fun op => isExprB op || op == 30) hok c286)) ?_
  refine Z11 ?_;refine Z1 ?_;refine Z130 ?_;refine Z87 ?_
  exact ⟨by rw [otherB, if_neg (by rw [hb0]; decide), if_neg (by rw [hb1]; decide), if_neg (by rw [hb2]; decide), if_neg (by rw [hb3]; decide), if_pos hb4]; simp [Tr.kids_mk], rfl⟩
 refine Z159 ?_
 refine zgC ?_ ?_ <;> intro hb5
 ·
  refine Z38 ?_
  obtain ⟨mo, mg, mt, hmo⟩ : ∃ mo mg mt, opGet name = (mo, mg, mt) := ⟨_, _, _, rfl⟩
  have hmt := opGet_takes name
  rw [hmo] at hmt
  replace hmt : 0 ≤ mt ∧ mt ≤ 2 := hmt
  have hmg := mget_ops name
  rw [hmo] at hmg
  refine g_cg [74, 75, 76, 77, 73, 78, 79, 5, 6] (fun b => cond (b 7) ([] ++ [cond (b 8) [.d (.str mo), .d (.str mg), .d (.int .i64 mt)] [.d (.str ⟨#[]⟩), .d (.str ⟨#[]⟩), .d (.int .i64 0)]]) []) rfl ?_
  refine Z125 ?_
  refine cS 1 (fun b rest hc1 hc2 hc3 => gL (xs := []) rfl (c224) (gN ⟨rfl, rfl⟩)) ?_
  refine Z125 ?_
  refine cS 2 (fun b rest hc1 hc2 hc3 => vq rfl (qF u27 rfl sz9) (gN ⟨rfl, rfl⟩)) ?_
  refine cP [1] ?_
  refine cS 3 (fun b rest hc1 hc2 hc3 => vq rfl (qL u9) (gN ⟨rfl, rfl⟩)) ?_
  refine cP [0, 2] ?_
  refine cS 4 (fun b rest hc1 hc2 hc3 => vq rfl ((q_lookup2 (zd := .agg [.str ⟨#[]⟩, .str ⟨#[]⟩, .int .i64 0]) u232 u9 zr231)) (gN ⟨rfl, rfl⟩)) ?_
  rw [hmg, mhas_ops]
  unfold opVal
  refine cP [3] ?_
  refine cS 5 (fun b rest hc1 hc2 hc3 => vq rfl qM (gN ⟨rfl, rfl⟩)) ?_
  refine cP [4] ?_
  refine cS 6 (fun b rest hc1 hc2 hc3 => vq rfl qE (gN ⟨rfl, rfl⟩)) ?_
  refine cP [4] ?_
  refine cS 7 (fun b rest hc1 hc2 hc3 => vq rfl qE (gN ⟨rfl, rfl⟩)) ?_
  refine Z125 ?_
  refine cS 8 (fun b rest hc1 hc2 hc3 => by
   have hs := hc3.no 8 7 hc1
   have e1 : upd b 7 7 = true := rfl
   have e2 : upd b 7 8 = false := hs
   simp only [hc1, cond_false]
   refine sv rfl (y_alloc zr231) ?_
   exact (gN ⟨rfl, by rw [e1, e2]; rfl⟩)) ?_
  refine cP [7, 5, 0, 0, 1, 2, 3, 4, 5, 7] ?_
  refine cg_act 9 (fun b rest hc1 hc2 hc3 => by
   have ha := hc2 7 dep_in
   have e1 : upd b 8 7 = true := ha
   have e2 : upd b 8 8 = true := rfl
   simp only [ha, hc1, cond_true, cond_false]
   refine sa rfl (dS sz231) ?_
   exact (gN ⟨rfl, by rw [e1, e2]; rfl⟩)) ?_
  refine cP [6, 8, 0, 1, 2, 3, 4, 5, 6, 7, 8] ?_
  refine cS 10 (fun b rest hc1 hc2 hc3 => vq rfl qA (gN ⟨rfl, rfl⟩)) ?_
  refine cg_done ?_
  refine tN (zgS ?_)
  refine Z121 ?_
  refine g_cg0 [80, 81, 82, 83, 84, 85, 86, 87, 88, 89, 90, 91, 92, 93, 2, 3] ?_
  refine Z125 ?_
  refine cS 1 (fun b rest hc1 hc2 hc3 => vq rfl qM (gN ⟨rfl, rfl⟩)) ?_
  refine cP [0] ?_
  refine cS 2 (fun b rest hc1 hc2 hc3 => vq rfl qM (gN ⟨rfl, rfl⟩)) ?_
  refine cP [1] ?_
  refine cS 3 (fun b rest hc1 hc2 hc3 => sg rfl (fun hg => qF u27 rfl sz3) (gN ⟨rfl, rfl⟩)) ?_
  refine cP [2, 1] ?_
  refine cS 4 (fun b rest hc1 hc2 hc3 => sg rfl (fun hg => sP 82 rfl hg (qL u3)) (gN ⟨rfl, rfl⟩)) ?_
  refine cP [3, 1] ?_
  refine cS 5 (fun b rest hc1 hc2 hc3 => sg rfl (fun hg => sP 83 rfl hg q_eql) (gN ⟨rfl, rfl⟩)) ?_
  refine cP [1, 4] ?_
  refine cS 6 (fun b rest hc1 hc2 hc3 => vq rfl q_and (gN ⟨rfl, rfl⟩)) ?_
  refine cP [5, 1] ?_
  refine cS 7 (fun b rest hc1 hc2 hc3 => vq rfl qM (gN ⟨rfl, rfl⟩)) ?_
  refine cP [6] ?_
  refine cS 8 (fun b rest hc1 hc2 hc3 => sg rfl (fun hg => qG (by exact sz27) u27 rfl) (gN ⟨rfl, rfl⟩)) ?_
  refine cP [6] ?_
  refine cS 9 (fun b rest hc1 hc2 hc3 => sg rfl (fun hg => q_fieldAddr u231 rfl sz3) (gN ⟨rfl, rfl⟩)) ?_
  refine cP [8, 6] ?_
  refine cS 10 (fun b rest hc1 hc2 hc3 => sg rfl (fun hg => sP 88 rfl hg (qO u3)) (gN ⟨rfl, rfl⟩)) ?_
  refine cP [9, 6] ?_
  refine cS 11 (fun b rest hc1 hc2 hc3 => sg rfl (fun hg => sP 89 rfl hg q_add) (gN ⟨rfl, rfl⟩)) ?_
  refine cP [10, 6] ?_
  refine cS 12 (fun b rest hc1 hc2 hc3 => sg rfl (fun hg => sP 90 rfl hg (q_strh u9 (h1 := by show mt + 1 ≤ 3; omega))) (gN ⟨rfl, rfl⟩)) ?_
  refine cP [7, 11, 6, 6] ?_
  refine cS 13 (fun b rest hc1 hc2 hc3 => g_callg (xs := [.tmp 87, .tmp 91]) rfl (fun hg => (Tr.d_mk op name num ks ▸ c156 (.mk op name num ks) (eee.extract 0 (mt + 1).toNat) hok)) (gN ⟨rfl, rfl⟩)) ?_
  refine cP [6, 12] ?_
  refine cS 14 (fun b rest hc1 hc2 hc3 => vq rfl q_and (gN ⟨rfl, rfl⟩)) ?_
  refine cP [13, 12, 0, 1, 2, 3, 4, 5, 6, 7, 8, 9, 10, 11, 12, 13] ?_
  refine cS 15 (fun b rest hc1 hc2 hc3 => vq rfl qA (gN ⟨rfl, rfl⟩)) ?_
  refine cP [14, 0, 1, 2, 3, 4, 5, 6, 7, 8, 9, 10, 11, 12, 13, 14] ?_
  refine cS 16 (fun b rest hc1 hc2 hc3 => vq rfl qA (gN ⟨rfl, rfl⟩)) ?_
  refine cg_done ?_
  refine tN (gT (bR (tR ?_)))
  refine Z87 ?_
  exact ⟨by rw [otherB, if_neg (by rw [hb0]; decide), if_neg (by rw [hb1]; decide), if_neg (by rw [hb2]; decide), if_neg (by rw [hb3]; decide), if_neg (by rw [hb4]; decide), if_pos hb5]; rw [hmo]; rfl, rfl⟩
 refine Z159 ?_
 refine zgC ?_ ?_ <;> intro hb6
 ·
  refine Z39 ?_;refine Z150 ?_;refine Z53 ?_;refine Z9 ?_
  refine zgC ?_ ?_ <;> intro hb7
  ·
   refine Z195 ?_;refine Z15 ?_;refine Z167 ?_
   refine g_callg (xs := [.tmp 103, .const (.string ⟨#[101, 101]⟩)]) rfl (fun hg => (Tr.d_mk op name num ks ▸ c156 (.mk op name num ks) ee hok)) ?_
   refine Z11 ?_;refine Z162 ?_
   refine gN (tN (gT (tR (bR (tR ?_)))))
   refine Z87 ?_
   exact ⟨by rw [otherB, if_neg (by rw [hb0]; decide), if_neg (by rw [hb1]; decide), if_neg (by rw [hb2]; decide), if_neg (by rw [hb3]; decide), if_neg (by rw [hb4]; decide), if_neg (by rw [hb5]; decide), if_pos hb6]; rw [if_pos (show decide (name = bcB) = true from hb7)]; rfl, rfl⟩
  refine Z120 ?_;refine Z137 ?_;refine Z15 ?_;refine Z2 ?_;refine Z51 ?_
  refine sg rfl (fun hg => sP 110 rfl hg (qL u9)) ?_
  refine sg rfl (fun hg => sP 111 rfl hg q_streq) ?_
  refine sg rfl (fun hg => sP 112 rfl hg qM) ?_
  refine Z51 ?_
  refine sg rfl (fun hg => sP 114 rfl hg (qL u9)) ?_
  refine sg rfl (fun hg => sP 115 rfl hg q_streq) ?_
  refine sg rfl (fun hg => sP 113 rfl hg q_or) ?_
  refine sg rfl (fun hg => sP 117 rfl hg qM) ?_
  refine Z51 ?_
  refine sg rfl (fun hg => sP 119 rfl hg (qL u9)) ?_
  refine sg rfl (fun hg => sP 120 rfl hg q_streq) ?_
  refine sg rfl (fun hg => sP 118 rfl hg q_or) ?_
  refine Z149 ?_;refine Z13 ?_
  refine g_callg (xs := [.tmp 125, .const (.string ⟨#[101]⟩)]) rfl (fun hg => (Tr.d_mk op name num ks ▸ c156 (.mk op name num ks) e1 hok)) ?_
  refine Z11 ?_;refine Z1 ?_;refine Z130 ?_;refine Z87 ?_
  exact ⟨by rw [otherB, if_neg (by rw [hb0]; decide), if_neg (by rw [hb1]; decide), if_neg (by rw [hb2]; decide), if_neg (by rw [hb3]; decide), if_neg (by rw [hb4]; decide), if_neg (by rw [hb5]; decide), if_pos hb6]; rw [if_neg (show ¬ decide (name = bcB) = true from by rw [show decide (name = bcB) = false from hb7]; decide)]; rfl, rfl⟩
 refine Z116 ?_;refine Z1 ?_;refine Z131 ?_;refine Z87 ?_
 exact ⟨by rw [otherB, if_neg (by rw [hb0]; decide), if_neg (by rw [hb1]; decide), if_neg (by rw [hb2]; decide), if_neg (by rw [hb3]; decide), if_neg (by rw [hb4]; decide), if_neg (by rw [hb5]; decide), if_neg (by rw [hb6]; decide)], rfl⟩
end
section
structure Sh where
 names : Option (ByteArray × List ByteArray)
 num : Bool
 g : Nat
 caps : List D
 ok : Tr → Bool
def namesD : Option (ByteArray × List ByteArray) → D
 | none => .nilS
 | some x => .sl ((x.1 :: x.2).map .str)
def Sh.d (s : Sh) : D := .agg [namesD s.names, .bool s.num, .fn (.func s.g) [] s.caps]
def shapeTab : List (Int × Sh) :=
 [(1, ⟨none, true, 229, [.ptr (.sl ([⟨#[]⟩].map .str))], (formsB [⟨#[]⟩])⟩),
  (2, ⟨none, true, 154, [], rule154⟩),
  (5, ⟨(some (⟨#[45]⟩, [⟨#[33]⟩])), false, 229, [.ptr (.sl ([⟨#[101]⟩].map .str))], (formsB [⟨#[101]⟩])⟩),
  (6, ⟨(some (⟨#[43]⟩, [⟨#[45]⟩, ⟨#[42]⟩, ⟨#[47]⟩, ⟨#[37]⟩, ⟨#[61, 61]⟩, ⟨#[33, 61]⟩, ⟨#[60]⟩, ⟨#[60, 61]⟩, ⟨#[62]⟩, ⟨#[62, 61]⟩, ⟨#[38, 38]⟩, ⟨#[124, 124]⟩])), false, 229, [.ptr (.sl ([⟨#[101, 101]⟩].map .str))], (formsB [⟨#[101, 101]⟩])⟩),
  (7, ⟨none, false, 229, [.ptr (.sl ([⟨#[101, 101]⟩].map .str))], (formsB [⟨#[101, 101]⟩])⟩),
  (8, ⟨none, false, 229, [.ptr (.sl ([⟨#[101, 101]⟩].map .str))], (formsB [⟨#[101, 101]⟩])⟩),
  (9, ⟨none, false, 229, [.ptr (.sl ([⟨#[101, 101]⟩].map .str))], (formsB [⟨#[101, 101]⟩])⟩),
  (10, ⟨none, false, 229, [.ptr (.sl ([⟨#[101]⟩, ⟨#[101, 101]⟩].map .str))], (formsB [⟨#[101]⟩, ⟨#[101, 101]⟩])⟩),
  (12, ⟨none, false, 229, [.ptr (.sl ([⟨#[101, 101]⟩, ⟨#[101, 101, 101]⟩].map .str))], (formsB [⟨#[101, 101]⟩, ⟨#[101, 101, 101]⟩])⟩),
  (14, ⟨(some (⟨#[115, 105, 122, 101]⟩, [⟨#[108, 111, 119]⟩, ⟨#[104, 105, 103, 104]⟩, ⟨#[115, 116, 114, 105, 100, 101]⟩, ⟨#[100, 111, 109, 97, 105, 110]⟩])), false, 229, [.ptr (.sl ([⟨#[101]⟩].map .str))], (formsB [⟨#[101]⟩])⟩),
  (16, ⟨none, false, 229, [.ptr (.sl ([⟨#[]⟩].map .str))], (formsB [⟨#[]⟩])⟩),
  (17, ⟨none, false, 229, [.ptr (.sl ([⟨#[]⟩].map .str))], (formsB [⟨#[]⟩])⟩),
  (18, ⟨(some (⟨#[43]⟩, [⟨#[42]⟩, ⟨#[109, 105, 110]⟩, ⟨#[109, 97, 120]⟩])), false, 229, [.ptr (.sl ([⟨#[101]⟩].map .str))], (formsB [⟨#[101]⟩])⟩),
  (19, ⟨none, false, 229, [.ptr (.sl ([⟨#[101, 101, 101]⟩].map .str))], (formsB [⟨#[101, 101, 101]⟩])⟩),
  (31, ⟨none, false, 229, [.ptr (.sl ([⟨#[101]⟩].map .str))], (formsB [⟨#[101]⟩])⟩),
  (67, ⟨(some (⟨#[43]⟩, [⟨#[42]⟩, ⟨#[109, 105, 110]⟩, ⟨#[109, 97, 120]⟩, ⟨#[38, 38]⟩, ⟨#[124, 124]⟩])), false, 229, [.ptr (.sl ([⟨#[110]⟩].map .str))], (formsB [⟨#[110]⟩])⟩),
  (51, ⟨(some (⟨#[61]⟩, [⟨#[43, 61]⟩, ⟨#[45, 61]⟩, ⟨#[42, 61]⟩])), false, 155, [], rule155⟩),
  (52, ⟨none, false, 229, [.ptr (.sl ([⟨#[101, 98]⟩, ⟨#[101, 98, 98]⟩].map .str))], (formsB [⟨#[101, 98]⟩, ⟨#[101, 98, 98]⟩])⟩),
  (53, ⟨none, false, 229, [.ptr (.sl ([⟨#[101, 98]⟩].map .str))], (formsB [⟨#[101, 98]⟩])⟩),
  (60, ⟨none, false, 229, [.ptr (.sl ([⟨#[101, 98]⟩].map .str))], (formsB [⟨#[101, 98]⟩])⟩),
  (54, ⟨none, true, 157, [], rule157⟩),
  (56, ⟨none, true, 157, [], rule157⟩),
  (55, ⟨none, true, 157, [], rule157⟩),
  (57, ⟨none, false, 229, [.ptr (.sl ([⟨#[98]⟩].map .str))], (formsB [⟨#[98]⟩])⟩),
  (59, ⟨none, false, 229, [.ptr (.sl ([⟨#[98]⟩].map .str))], (formsB [⟨#[98]⟩])⟩),
  (58, ⟨none, false, 158, [], rule158⟩),
  (61, ⟨none, false, 229, [.ptr (.sl ([⟨#[]⟩, ⟨#[101]⟩].map .str))], (formsB [⟨#[]⟩, ⟨#[101]⟩])⟩),
  (62, ⟨none, false, 229, [.ptr (.sl ([⟨#[101]⟩].map .str))], (formsB [⟨#[101]⟩])⟩),
  (65, ⟨none, false, 229, [.ptr (.sl ([⟨#[101]⟩].map .str))], (formsB [⟨#[101]⟩])⟩),
  (63, ⟨none, false, 161, [], rule161⟩),
  (64, ⟨none, false, 162, [], (fun t => everyB (fun op => isExprB op || op == 3) t.kids)⟩),
  (66, ⟨none, false, 164, [], (fun t => everyB isStmtB t.kids)⟩),
  (0, ⟨none, false, 152, [], (fun _ => true)⟩)]
def shapesM : List (D × D) := shapeTab.map fun x => (.int .i64 x.1, x.2.d)
def shGet (op : Int) : Option Sh := (shapeTab.find? fun x => decide (x.1 = op)).map (·.2)
theorem key_i64 (a b : Int) : D.keyEq (.int .i64 a) (.int .i64 b) = decide (a = b) := by simp [D.keyEq]
theorem find_sh (op : Int) : shapesM.find? (fun x => x.1.keyEq (.int .i64 op)) = (shapeTab.find? fun x => decide (x.1 = op)).map fun x => (D.int .i64 x.1, x.2.d) := by
 have h : ((fun x : D × D => x.1.keyEq (.int .i64 op)) ∘ fun x : Int × Sh => (D.int .i64 x.1, x.2.d)) = fun x => decide (x.1 = op) := by funext x; exact key_i64 _ _
 unfold shapesM
 rw [List.find?_map, h]
theorem mget_sh (op : Int) (z : D) : mget shapesM (.int .i64 op) z = match shGet op with | some s => s.d | none => z := by
 unfold mget shGet
 rw [find_sh]
 cases shapeTab.find? (fun x => decide (x.1 = op)) <;> rfl
theorem mhas_sh (op : Int) : mhas shapesM (.int .i64 op) = (shGet op).isSome := by
 have h : ((fun x : D × D => x.1.keyEq (.int .i64 op)) ∘ fun x : Int × Sh => (D.int .i64 x.1, x.2.d)) = fun x => decide (x.1 = op) := by funext x; exact key_i64 _ _
 unfold mhas shGet shapesM
 rw [List.any_map, h, Option.isSome_map, Bool.eq_iff_iff, List.any_eq_true, List.find?_isSome]
theorem shapeTab_ok : ∀ x ∈ shapeTab, ∀ t : Tr, t.Ok → Pf Tryz.prog x.2.g ([] ++ [t.d] ++ x.2.caps) (.d (.bool (x.2.ok t))) := by
 intro x hx t hok
 simp only [shapeTab, List.mem_cons, List.not_mem_nil, or_false] at hx
 rcases hx with rfl | rfl | rfl | rfl | rfl | rfl | rfl | rfl | rfl | rfl | rfl | rfl | rfl | rfl | rfl | rfl | rfl | rfl | rfl | rfl | rfl | rfl | rfl | rfl | rfl | rfl | rfl | rfl | rfl | rfl | rfl | rfl | rfl
 · exact c229 t [⟨#[]⟩] hok (by decide)
 · exact c154 t
 · exact c229 t [⟨#[101]⟩] hok (by decide)
 · exact c229 t [⟨#[101, 101]⟩] hok (by decide)
 · exact c229 t [⟨#[101, 101]⟩] hok (by decide)
 · exact c229 t [⟨#[101, 101]⟩] hok (by decide)
 · exact c229 t [⟨#[101, 101]⟩] hok (by decide)
 · exact c229 t [⟨#[101]⟩, ⟨#[101, 101]⟩] hok (by decide)
 · exact c229 t [⟨#[101, 101]⟩, ⟨#[101, 101, 101]⟩] hok (by decide)
 · exact c229 t [⟨#[101]⟩] hok (by decide)
 · exact c229 t [⟨#[]⟩] hok (by decide)
 · exact c229 t [⟨#[]⟩] hok (by decide)
 · exact c229 t [⟨#[101]⟩] hok (by decide)
 · exact c229 t [⟨#[101, 101, 101]⟩] hok (by decide)
 · exact c229 t [⟨#[101]⟩] hok (by decide)
 · exact c229 t [⟨#[110]⟩] hok (by decide)
 · exact c155 t hok
 · exact c229 t [⟨#[101, 98]⟩, ⟨#[101, 98, 98]⟩] hok (by decide)
 · exact c229 t [⟨#[101, 98]⟩] hok (by decide)
 · exact c229 t [⟨#[101, 98]⟩] hok (by decide)
 · exact c157 t hok
 · exact c157 t hok
 · exact c157 t hok
 · exact c229 t [⟨#[98]⟩] hok (by decide)
 · exact c229 t [⟨#[98]⟩] hok (by decide)
 · exact c158 t hok
 · exact c229 t [⟨#[]⟩, ⟨#[101]⟩] hok (by decide)
 · exact c229 t [⟨#[101]⟩] hok (by decide)
 · exact c229 t [⟨#[101]⟩] hok (by decide)
 · exact c161 t hok
 · exact c162 t hok
 · exact c164 t hok
 · exact c152 t
theorem shGet_ok {op : Int} {s : Sh} (h : shGet op = some s) {t : Tr} (hok : t.Ok) : Pf Tryz.prog s.g ([] ++ [t.d] ++ s.caps) (.d (.bool (s.ok t))) := by
 unfold shGet at h
 cases hf : shapeTab.find? (fun x => decide (x.1 = op)) with
 | none => rw [hf] at h; cases h
 | some x =>
  rw [hf] at h
  injection h with h; subst h
  exact shapeTab_ok x (List.mem_of_find?_eq_some hf) t hok
set_option maxHeartbeats 40000000 in
theorem c86  : Pf Tryz.prog 86 [] (.d (.map shapesM)) := by
 refine pf_body (rvs := [.tmp 0]) [] Tryz.func86 Tryz.ntmps86 Tryz.results86 (fun S0 O0 w0 m0 hm0 => ?_)
 refine Z157 ?_;refine Z134 ?_
 refine sv rfl (y_buildSlice (xs := [.const (.string ⟨#[101, 101]⟩)]) u63 inf9) ?_
 refine gL (xs := [.tmp 4]) rfl (c153 [⟨#[101, 101]⟩]) ?_
 refine Z134 ?_
 refine sv rfl (y_buildSlice (xs := [.const (.string ⟨#[101, 98]⟩)]) u63 inf9) ?_
 refine gL (xs := [.tmp 6]) rfl (c153 [⟨#[101, 98]⟩]) ?_
 refine Z134 ?_
 refine sv rfl y_makeMap ?_
 refine sv rfl (y_buildSlice (xs := [.const (.string ⟨#[]⟩)]) u63 inf9) ?_
 refine gL (xs := [.tmp 9]) rfl (c153 [⟨#[]⟩]) ?_
 refine Z153 ?_;refine Z153 ?_
 refine sv rfl (y_buildSlice (xs := [.const (.string ⟨#[45]⟩), .const (.string ⟨#[33]⟩)]) u63 inf9) ?_
 refine Z62 ?_
 refine gL (xs := [.tmp 14]) rfl (c153 [⟨#[101]⟩]) ?_
 refine Z99 ?_;refine Z142 ?_
 refine sv rfl (y_buildSlice (xs := [.const (.string ⟨#[43]⟩), .const (.string ⟨#[45]⟩), .const (.string ⟨#[42]⟩), .const (.string ⟨#[47]⟩), .const (.string ⟨#[37]⟩), .const (.string ⟨#[61, 61]⟩), .const (.string ⟨#[33, 61]⟩), .const (.string ⟨#[60]⟩), .const (.string ⟨#[60, 61]⟩), .const (.string ⟨#[62]⟩), .const (.string ⟨#[62, 61]⟩), .const (.string ⟨#[38, 38]⟩), .const (.string ⟨#[124, 124]⟩)]) u63 inf9) ?_
 refine Z2 ?_;refine Z99 ?_;refine Z142 ?_;refine Z2 ?_;refine Z153 ?_;refine Z2 ?_;refine Z153 ?_;refine Z2 ?_;refine Z153 ?_
 refine sv rfl (y_buildSlice (xs := [.const (.string ⟨#[101]⟩), .const (.string ⟨#[101, 101]⟩)]) u63 inf9) ?_
 refine gL (xs := [.tmp 26]) rfl (c153 [⟨#[101]⟩, ⟨#[101, 101]⟩]) ?_
 refine Z153 ?_
 refine sv rfl (y_buildSlice (xs := [.const (.string ⟨#[101, 101]⟩), .const (.string ⟨#[101, 101, 101]⟩)]) u63 inf9) ?_
 refine gL (xs := [.tmp 29]) rfl (c153 [⟨#[101, 101]⟩, ⟨#[101, 101, 101]⟩]) ?_
 refine Z153 ?_
 refine sv rfl (y_buildSlice (xs := [.const (.string ⟨#[115, 105, 122, 101]⟩), .const (.string ⟨#[108, 111, 119]⟩), .const (.string ⟨#[104, 105, 103, 104]⟩), .const (.string ⟨#[115, 116, 114, 105, 100, 101]⟩), .const (.string ⟨#[100, 111, 109, 97, 105, 110]⟩)]) u63 inf9) ?_
 refine Z62 ?_
 refine gL (xs := [.tmp 33]) rfl (c153 [⟨#[101]⟩]) ?_
 refine Z99 ?_;refine Z142 ?_
 refine sv rfl (y_buildSlice (xs := [.const (.string ⟨#[]⟩)]) u63 inf9) ?_
 refine gL (xs := [.tmp 36]) rfl (c153 [⟨#[]⟩]) ?_
 refine Z153 ?_
 refine sv rfl (y_buildSlice (xs := [.const (.string ⟨#[]⟩)]) u63 inf9) ?_
 refine gL (xs := [.tmp 39]) rfl (c153 [⟨#[]⟩]) ?_
 refine Z153 ?_
 refine sv rfl (y_buildSlice (xs := [.const (.string ⟨#[43]⟩), .const (.string ⟨#[42]⟩), .const (.string ⟨#[109, 105, 110]⟩), .const (.string ⟨#[109, 97, 120]⟩)]) u63 inf9) ?_
 refine Z62 ?_
 refine gL (xs := [.tmp 43]) rfl (c153 [⟨#[101]⟩]) ?_
 refine Z99 ?_;refine Z142 ?_
 refine sv rfl (y_buildSlice (xs := [.const (.string ⟨#[101, 101, 101]⟩)]) u63 inf9) ?_
 refine gL (xs := [.tmp 46]) rfl (c153 [⟨#[101, 101, 101]⟩]) ?_
 refine Z153 ?_;refine Z62 ?_
 refine gL (xs := [.tmp 49]) rfl (c153 [⟨#[101]⟩]) ?_
 refine Z153 ?_
 refine sv rfl (y_buildSlice (xs := [.const (.string ⟨#[43]⟩), .const (.string ⟨#[42]⟩), .const (.string ⟨#[109, 105, 110]⟩), .const (.string ⟨#[109, 97, 120]⟩), .const (.string ⟨#[38, 38]⟩), .const (.string ⟨#[124, 124]⟩)]) u63 inf9) ?_
 refine sv rfl (y_buildSlice (xs := [.const (.string ⟨#[110]⟩)]) u63 inf9) ?_
 refine gL (xs := [.tmp 53]) rfl (c153 [⟨#[110]⟩]) ?_
 refine Z99 ?_;refine Z142 ?_
 refine sv rfl (y_buildSlice (xs := [.const (.string ⟨#[61]⟩), .const (.string ⟨#[43, 61]⟩), .const (.string ⟨#[45, 61]⟩), .const (.string ⟨#[42, 61]⟩)]) u63 inf9) ?_
 refine Z99 ?_;refine Z142 ?_
 refine sv rfl (y_buildSlice (xs := [.const (.string ⟨#[101, 98]⟩), .const (.string ⟨#[101, 98, 98]⟩)]) u63 inf9) ?_
 refine gL (xs := [.tmp 58]) rfl (c153 [⟨#[101, 98]⟩, ⟨#[101, 98, 98]⟩]) ?_
 refine Z153 ?_;refine Z2 ?_;refine Z153 ?_;refine Z2 ?_;refine Z153 ?_;refine Z153 ?_;refine Z153 ?_;refine Z153 ?_
 refine sv rfl (y_buildSlice (xs := [.const (.string ⟨#[98]⟩)]) u63 inf9) ?_
 refine gL (xs := [.tmp 68]) rfl (c153 [⟨#[98]⟩]) ?_
 refine Z153 ?_
 refine sv rfl (y_buildSlice (xs := [.const (.string ⟨#[98]⟩)]) u63 inf9) ?_
 refine gL (xs := [.tmp 71]) rfl (c153 [⟨#[98]⟩]) ?_
 refine Z153 ?_;refine Z153 ?_
 refine sv rfl (y_buildSlice (xs := [.const (.string ⟨#[]⟩), .const (.string ⟨#[101]⟩)]) u63 inf9) ?_
 refine gL (xs := [.tmp 75]) rfl (c153 [⟨#[]⟩, ⟨#[101]⟩]) ?_
 refine Z153 ?_;refine Z62 ?_
 refine gL (xs := [.tmp 78]) rfl (c153 [⟨#[101]⟩]) ?_
 refine Z153 ?_;refine Z62 ?_
 refine gL (xs := [.tmp 81]) rfl (c153 [⟨#[101]⟩]) ?_
 refine Z153 ?_;refine Z153 ?_;refine Z153 ?_;refine Z153 ?_;refine Z2 ?_;refine Z153 ?_;refine Z2 ?_;refine Z1 ?_
 refine g_freezeM 0 [] rfl ?_
 refine Z12 ?_;refine Z4 ?_
 exact ⟨rfl, rfl⟩
end
section
def rightB : Tr → Bool
 | .mk op name num ks =>
  if (otherB (.mk op name num ks)).2 = true then (otherB (.mk op name num ks)).1
  else match shGet op with
   | none => false
   | some ⟨nm, nb, _, _, ok⟩ =>
    if (op == 0 || (!nb && num != 0)) = true then false
    else if (match nm with | none => decide (name ≠ ⟨#[]⟩) | some x => !hasB (x.1 :: x.2) name) = true then false else ok (.mk op name num ks)
theorem shGet_names {op : Int} {a : ByteArray} {l : List ByteArray} {nb : Bool} {g : Nat} {caps : List D} {ok : Tr → Bool} (h : shGet op = some ⟨some (a, l), nb, g, caps, ok⟩) : (a :: l).length ≤ 100 := by
 have hall : ∀ x ∈ shapeTab, (match x.2.names with | some y => decide ((y.1 :: y.2).length ≤ 100) | none => true) = true := by
  intro x hx
  simp only [shapeTab, List.mem_cons, List.not_mem_nil, or_false] at hx
  rcases hx with rfl | rfl | rfl | rfl | rfl | rfl | rfl | rfl | rfl | rfl | rfl | rfl | rfl | rfl | rfl | rfl | rfl | rfl | rfl | rfl | rfl | rfl | rfl | rfl | rfl | rfl | rfl | rfl | rfl | rfl | rfl | rfl | rfl <;> rfl
 unfold shGet at h
 cases hf : shapeTab.find? (fun x => decide (x.1 = op)) with
 | none => rw [hf] at h; cases h
 | some x =>
  rw [hf] at h
  injection h with h
  replace h : x.2 = _ := h
  have := hall x (List.mem_of_find?_eq_some hf)
  rw [h] at this
  exact of_decide_eq_true this
set_option maxHeartbeats 8000000 in
theorem c165 (t : Tr) (hok : t.Ok) : Pf Tryz.prog 165 [t.d, .map shapesM] (.d (.bool (rightB t))) := by
 obtain ⟨op, name, num, ks⟩ := t
 rw [Tr.d_mk]
 try simp only [Tr.op_mk, Tr.nm_mk, Tr.nu_mk, Tr.kids_mk]
 refine pf_body (rvs := [.tmp 4]) [(0, .d (.agg [.int .i64 op, .str name, .int .i64 num, .sl (ks.map Tr.d)])), (1, .d (.map shapesM))] Tryz.func165 Tryz.ntmps165 Tryz.results165 (fun S0 O0 w0 m0 hm0 => ?_)
 refine Z186 ?_;refine Z7 ?_
 refine gL (xs := [.tmp 10]) rfl ((Tr.d_mk op name num ks ▸ c234 (.mk op name num ks) hok)) ?_
 refine Z2 ?_;refine Z197 ?_;refine Z1 ?_;refine Z134 ?_;refine Z2 ?_;refine Z9 ?_
 refine zgC ?_ ?_ <;> intro hb0
 ·
  refine Z173 ?_;refine Z151 ?_
  exact ⟨by rw [rightB, if_pos hb0], rfl⟩
 refine Z94 ?_
 rcases hsh : shGet op with _ | ⟨_ | ⟨na, nl⟩, nb, g, caps, ok⟩
 ·
  refine Z17 ?_;refine Z2 ?_;refine Z137 ?_;refine Z104 ?_
  rw [mget_sh, mhas_sh, hsh]
  dsimp only [Sh.d, namesD, List.map_cons, Option.isSome]
  refine Z2 ?_;refine Z197 ?_
  refine sv rfl (y_alloc zr189) ?_
  refine sa rfl (dS sz189) ?_
  refine Z1 ?_
  refine gN (tN (zgS (zgS ?_)))
  refine Z191 ?_;refine Z2 ?_;refine Z54 ?_;refine Z147 ?_;refine Z111 ?_;refine Z115 ?_;refine Z22 ?_;refine Z2 ?_
  refine sg rfl (fun hg => q_fieldAddr u189 rfl sz4) ?_
  refine sg rfl (fun hg => sP 31 rfl hg (qO u4)) ?_
  refine sg rfl (fun hg => sP 32 rfl hg q_not) ?_
  refine sg rfl (fun hg => sP 33 rfl hg qM) ?_
  refine Z14 ?_
  refine sg rfl (fun hg => sP 35 rfl hg (qL u3)) ?_
  refine sg rfl (fun hg => sP 36 rfl hg q_neq) ?_
  refine sg rfl (fun hg => sP 34 rfl hg q_and) ?_
  refine Z152 ?_
  refine zgC ?_ ?_ <;> intro hb1
  ·
   refine Z38 ?_;refine Z191 ?_;refine Z151 ?_
   exact ⟨by rw [rightB, if_neg (by rw [hb0]; decide), hsh], rfl⟩
  exact absurd hb1 (by simp)
 ·
  refine Z17 ?_;refine Z2 ?_;refine Z137 ?_;refine Z104 ?_
  rw [mget_sh, mhas_sh, hsh]
  dsimp only [Sh.d, namesD, List.map_cons, Option.isSome]
  refine Z2 ?_;refine Z197 ?_
  refine sv rfl (y_alloc zr189) ?_
  refine sa rfl (dS sz189) ?_
  refine Z1 ?_
  refine gN (tN (zgS (zgS ?_)))
  refine Z191 ?_;refine Z2 ?_;refine Z54 ?_;refine Z147 ?_;refine Z111 ?_;refine Z115 ?_;refine Z22 ?_;refine Z2 ?_
  refine sg rfl (fun hg => q_fieldAddr u189 rfl sz4) ?_
  refine sg rfl (fun hg => sP 31 rfl hg (qO u4)) ?_
  refine sg rfl (fun hg => sP 32 rfl hg q_not) ?_
  refine sg rfl (fun hg => sP 33 rfl hg qM) ?_
  refine Z14 ?_
  refine sg rfl (fun hg => sP 35 rfl hg (qL u3)) ?_
  refine sg rfl (fun hg => sP 36 rfl hg q_neq) ?_
  refine sg rfl (fun hg => sP 34 rfl hg q_and) ?_
  refine Z152 ?_
  refine zgC ?_ ?_ <;> intro hb2
  ·
   refine Z38 ?_;refine Z191 ?_;refine Z151 ?_
   exact ⟨by rw [rightB, if_neg (by rw [hb0]; decide), hsh]; dsimp only; rw [if_pos (by simpa using hb2)], rfl⟩
  refine Z96 ?_;refine Z191 ?_
  refine sv rfl (y_fieldAt 0 u189 rfl sz63) ?_
  refine sv rfl (y_load_leaf u63) ?_
  refine vq rfl ((q_sleql u63)) ?_
  refine Z2 ?_;refine Z51 ?_
  refine sg rfl (fun hg => sP 44 rfl hg (qL u9)) ?_
  refine sg rfl (fun hg => sP 45 rfl hg q_strne) ?_
  refine Z149 ?_;refine Z105 ?_
  refine sg rfl (fun hg => sP 49 rfl hg (qO u63)) ?_
  refine sg rfl (fun hg => sP 50 rfl hg (q_slneq u63)) ?_
  refine sg rfl (fun hg => sP 51 rfl hg qM) ?_
  refine Z105 ?_
  refine sg rfl (fun hg => sP 53 rfl hg (qO u63)) ?_
  refine Z51 ?_
  refine sg rfl (fun hg => sP 55 rfl hg (qL u9)) ?_
  refine sgx rfl ?_ ?_
  · simp
  refine sg rfl (fun hg => sP 57 rfl hg q_not) ?_
  refine sg rfl (fun hg => sP 52 rfl hg q_and) ?_
  refine Z152 ?_
  refine zgC ?_ ?_ <;> intro hb3
  ·
   refine Z38 ?_;refine Z191 ?_;refine Z151 ?_
   exact ⟨by rw [rightB, if_neg (by rw [hb0]; decide), hsh]; dsimp only; rw [if_neg (by simpa using hb2), if_pos (by simpa using hb3)], rfl⟩
  refine Z94 ?_;refine Z191 ?_
  refine sv rfl (y_fieldAt 2 u189 rfl sz48) ?_
  refine sv rfl (y_load_leaf u48) ?_
  refine Z7 ?_
  refine gL (xs := [.tmp 63]) rfl ((Tr.d_mk op name num ks ▸ shGet_ok hsh hok)) ?_
  refine Z133 ?_
  exact ⟨by rw [rightB, if_neg (by rw [hb0]; decide), hsh]; dsimp only; rw [if_neg (by simpa using hb2), if_neg (by simpa using hb3)], rfl⟩
 refine Z17 ?_;refine Z2 ?_;refine Z137 ?_;refine Z104 ?_
 rw [mget_sh, mhas_sh, hsh]
 dsimp only [Sh.d, namesD, List.map_cons, Option.isSome]
 refine Z2 ?_;refine Z197 ?_
 refine sv rfl (y_alloc zr189) ?_
 refine sa rfl (dS sz189) ?_
 refine Z1 ?_
 refine gN (tN (zgS (zgS ?_)))
 refine Z191 ?_;refine Z2 ?_;refine Z54 ?_;refine Z147 ?_;refine Z111 ?_;refine Z115 ?_;refine Z22 ?_;refine Z2 ?_
 refine sg rfl (fun hg => q_fieldAddr u189 rfl sz4) ?_
 refine sg rfl (fun hg => sP 31 rfl hg (qO u4)) ?_
 refine sg rfl (fun hg => sP 32 rfl hg q_not) ?_
 refine sg rfl (fun hg => sP 33 rfl hg qM) ?_
 refine Z14 ?_
 refine sg rfl (fun hg => sP 35 rfl hg (qL u3)) ?_
 refine sg rfl (fun hg => sP 36 rfl hg q_neq) ?_
 refine sg rfl (fun hg => sP 34 rfl hg q_and) ?_
 refine Z152 ?_
 refine zgC ?_ ?_ <;> intro hb4
 ·
  refine Z38 ?_;refine Z191 ?_;refine Z151 ?_
  exact ⟨by rw [rightB, if_neg (by rw [hb0]; decide), hsh]; dsimp only; rw [if_pos (by simpa using hb4)], rfl⟩
 refine Z96 ?_;refine Z191 ?_
 refine sv rfl (y_fieldAt 0 u189 rfl sz63) ?_
 refine sv rfl (y_load_leaf u63) ?_
 refine vq rfl ((q_sleql u63)) ?_
 refine Z2 ?_;refine Z51 ?_
 refine sg rfl (fun hg => sP 44 rfl hg (qL u9)) ?_
 refine sg rfl (fun hg => sP 45 rfl hg q_strne) ?_
 refine Z149 ?_;refine Z105 ?_
 refine sg rfl (fun hg => sP 49 rfl hg (qO u63)) ?_
 refine sg rfl (fun hg => sP 50 rfl hg (q_slneq u63)) ?_
 refine sg rfl (fun hg => sP 51 rfl hg qM) ?_
 refine Z105 ?_
 refine sg rfl (fun hg => sP 53 rfl hg (qO u63)) ?_
 refine Z51 ?_
 refine sg rfl (fun hg => sP 55 rfl hg (qL u9)) ?_
 refine g_callg (xs := [.tmp 54, .tmp 56]) rfl (fun hg => c199 (na :: nl) name (by have := shGet_names hsh; omega)) ?_
 refine sg rfl (fun hg => sP 57 rfl hg q_not) ?_
 refine sg rfl (fun hg => sP 52 rfl hg q_and) ?_
 refine Z152 ?_
 refine zgC ?_ ?_ <;> intro hb5
 ·
  refine Z38 ?_;refine Z191 ?_;refine Z151 ?_
  exact ⟨by rw [rightB, if_neg (by rw [hb0]; decide), hsh]; dsimp only; rw [if_neg (by simpa using hb4), if_pos (by simpa using hb5)], rfl⟩
 refine Z94 ?_;refine Z191 ?_
 refine sv rfl (y_fieldAt 2 u189 rfl sz48) ?_
 refine sv rfl (y_load_leaf u48) ?_
 refine Z7 ?_
 refine gL (xs := [.tmp 63]) rfl ((Tr.d_mk op name num ks ▸ shGet_ok hsh hok)) ?_
 refine Z133 ?_
 exact ⟨by rw [rightB, if_neg (by rw [hb0]; decide), hsh]; dsimp only; rw [if_neg (by simpa using hb4), if_neg (by simpa using hb5)], rfl⟩
end
section
mutual
/-- All nodes of a tree are right. -/
def Tr.shaped : Tr → Bool
 | .mk op name num ks => rightB (.mk op name num ks) && Tr.shapeds ks
def Tr.shapeds : List Tr → Bool
 | [] => true
 | k :: ks => k.shaped && Tr.shapeds ks
end
theorem Tr.shapeds_all : ∀ ks : List Tr, Tr.shapeds ks = !(ks.any fun k => !k.shaped)
 | [] => rfl
 | k :: ks => by rw [Tr.shapeds, Tr.shapeds_all ks, List.any_cons]; cases k.shaped <;> simp
mutual
def Tr.depth : Tr → Int
 | .mk _ _ _ ks => Tr.deeps ks 0 + 1
def Tr.deeps : List Tr → Int → Int
 | [], d => d
 | k :: ks, d => Tr.deeps ks (if k.depth > d then k.depth else d)
end
mutual
theorem Tr.depth_bd : ∀ t : Tr, 1 ≤ t.depth ∧ t.depth ≤ t.size
 | .mk _ _ _ ks => by
  rw [Tr.depth, Tr.size]
  have := Tr.deeps_bd ks 0
  omega
theorem Tr.deeps_bd : ∀ (ks : List Tr) (d : Int), d ≤ Tr.deeps ks d ∧ (Tr.deeps ks d ≤ d ∨ Tr.deeps ks d ≤ Tr.sizes ks)
 | [], d => by rw [Tr.deeps]; omega
 | k :: ks, d => by
  rw [Tr.deeps, Tr.sizes]
  have h1 := Tr.depth_bd k
  have h2 := Tr.deeps_bd ks (if k.depth > d then k.depth else d)
  split at h2 <;> rename_i h <;> first | rw [if_pos h] | rw [if_neg h]
  all_goals omega
end
theorem Tr.deeps_drop {ks : List Tr} {z : Nat} {k : Tr} (h : ks[z]? = some k) (d : Int) : Tr.deeps (ks.drop z) d = Tr.deeps (ks.drop (z + 1)) (if k.depth > d then k.depth else d) := by
 obtain ⟨hlt, rfl⟩ := List.getElem?_eq_some_iff.1 h
 rw [List.drop_eq_getElem_cons hlt, Tr.deeps]
theorem Tr.sizes_drop {ks : List Tr} {z : Nat} {k : Tr} (h : ks[z]? = some k) : Tr.sizes (ks.drop z) = k.size + Tr.sizes (ks.drop (z + 1)) := by
 obtain ⟨hlt, rfl⟩ := List.getElem?_eq_some_iff.1 h
 rw [List.drop_eq_getElem_cons hlt, Tr.sizes]
theorem Tr.ds_one (op : Int) (name : ByteArray) (num : Int) (ks : List Tr) : [Tr.mk op name num ks].map Tr.d = [.agg [.int .i64 op, .str name, .int .i64 num, .sl (ks.map Tr.d)]] := by rw [List.map_cons, Tr.d_mk]; rfl
theorem c166 (t : Tr) (h : Pf Tryz.prog 88 [t.d, .map shapesM] (.d (.bool t.shaped))) : Pf Tryz.prog 166 [t.d, .ptr (.map shapesM)] (.d (.bool (!t.shaped))) := by
 obtain ⟨op, name, num, ks⟩ := t
 rw [Tr.d_mk]
 try simp only [Tr.op_mk, Tr.nm_mk, Tr.nu_mk, Tr.kids_mk]
 refine pf_body (rvs := [.tmp 3]) [(0, .d (.agg [.int .i64 op, .str name, .int .i64 num, .sl (ks.map Tr.d)])), (1, .d (.ptr (.map shapesM)))] Tryz.func166 Tryz.ntmps166 Tryz.results166 (fun S0 O0 w0 m0 hm0 => ?_)
 refine Z174 ?_;refine Z7 ?_
 refine vq rfl (qL u127) ?_
 refine gL (xs := [.tmp 4, .tmp 5]) rfl ((Tr.d_mk op name num ks ▸ h)) ?_
 refine Z54 ?_;refine Z133 ?_
 exact ⟨rfl, rfl⟩
theorem c88n : ∀ (n : Nat) (t : Tr), t.size ≤ n → t.Ok → Pf Tryz.prog 88 [t.d, .map shapesM] (.d (.bool t.shaped)) := by
 intro n
 induction n with
 | zero => intro t h; exact absurd t.size_pos (by omega)
 | succ n ih =>
  intro t hsz hok
  obtain ⟨op, name, num, ks⟩ := t
  have hkd : ∀ k ∈ ks, k.size ≤ n := fun k hk => by
   have := Tr.size_mem hk
   rw [Tr.size] at hsz
   omega
  rw [Tr.d_mk]
  have hok' := hok
  cases hok' with | mk h1 h2 h3 h4 h5 =>
  refine pf_body (rvs := [.tmp 4]) [(0, .d (.agg [.int .i64 op, .str name, .int .i64 num, .sl (ks.map Tr.d)])), (1, .d (.map shapesM))] Tryz.func88 Tryz.ntmps88 Tryz.results88 (fun S0 O0 w0 m0 hm0 => ?_)
  refine Z140 ?_;refine Z31 ?_
  refine gF 0 [] (.map shapesM) rfl ?_
  refine Z134 ?_;refine Z7 ?_
  refine vq rfl (qL u127) ?_
  refine gL (xs := [.tmp 5, .tmp 6]) rfl ((Tr.d_mk op name num ks ▸ c165 (.mk op name num ks) hok)) ?_
  refine Z166 ?_
  refine sg rfl (fun hg => sP 9 rfl hg (qL u22)) ?_
  refine sg rfl (fun hg => q_makeFunc (xs := []) (ys := [.tmp 3])) ?_
  refine g_callg (xs := [.tmp 10, .tmp 11]) rfl (fun hg => c52 ks 166 [] [.ptr (.map shapesM)] (fun k => !k.shaped) h4 (fun x hx => c166 x (ih x (hkd x hx) (h5 x hx)))) ?_
  refine sg rfl (fun hg => sP 12 rfl hg q_not) ?_
  refine Z172 ?_
  exact ⟨by rw [Tr.shaped, Tr.shapeds_all], rfl⟩
set_option maxHeartbeats 4000000 in
theorem c151n : ∀ (n : Nat) (t : Tr), t.size ≤ n → t.Ok → t.size ≤ 1000000000 → Pf Tryz.prog 151 [t.d] (.tup [.d (.int .i64 t.size), .d (.int .i64 t.depth)]) := by
 intro n
 induction n with
 | zero => intro t h; exact absurd t.size_pos (by omega)
 | succ n ih =>
  intro t hsz hok hszb
  obtain ⟨op, name, num, ks⟩ := t
  have hkd : ∀ k ∈ ks, k.size ≤ n := fun k hk => by
   have := Tr.size_mem hk
   rw [Tr.size] at hsz
   omega
  rw [Tr.d_mk]
  cases hok with | mk h1 h2 h3 h4 h5 =>
  have hln := Tr.len_sizes ks
  rw [Tr.size] at hszb
  refine pf_body (rvs := [.tmp 2, .tmp 3]) [(0, .d (.agg [.int .i64 op, .str name, .int .i64 num, .sl (ks.map Tr.d)]))] Tryz.func151 Tryz.ntmps151 Tryz.results151 (fun S0 O0 w0 m0 hm0 => ?_)
  refine Z140 ?_;refine Z1 ?_;refine Z143 ?_;refine Z165 ?_;refine Z183 ?_
  refine g_loop (α := Nat × Int × Int) (fun z => ⟨[(11, .d (.int .i64 (z.1 : Nat))), (10, .d (.int .i64 ((ks.map Tr.d).length : Nat))), (9, .d (.sl (ks.map Tr.d))), (2, .d (.int .i64 z.2.1)), (3, .d (.int .i64 z.2.2))], []⟩) (fun z => ks.length - z.1) (fun z => z.1 ≤ ks.length ∧ 0 ≤ z.2.1 ∧ z.2.1 + Tr.sizes (ks.drop z.1) = Tr.sizes ks ∧ 0 ≤ z.2.2 ∧ z.2.2 ≤ Tr.sizes ks ∧ Tr.deeps (ks.drop z.1) z.2.2 = Tr.deeps ks 0) (0, 0, 0) ⟨Nat.zero_le _, by show (0 : Int) ≤ 0; omega, by show (0 : Int) + _ = _; simp, by show (0 : Int) ≤ 0; omega, by show (0 : Int) ≤ _; omega, rfl⟩ (fun z hz Q' hn0 he0 hr0 => ?_) (le_of)
  obtain ⟨z, c, e⟩ := z
  obtain ⟨hz1, hc1, hc2, hc3, hc4, hc5⟩ := hz
  replace hz1 : z ≤ ks.length := hz1
  replace hc1 : 0 ≤ c := hc1
  replace hc2 : c + Tr.sizes (ks.drop z) = Tr.sizes ks := hc2
  replace hc3 : 0 ≤ e := hc3
  replace hc4 : e ≤ Tr.sizes ks := hc4
  replace hc5 : Tr.deeps (ks.drop z) e = Tr.deeps ks 0 := hc5
  refine Z185 ?_
  refine zgC ?_ ?_ <;> intro hb0
  ·
   have hlt : z < ks.length := by simpa using hb0
   obtain ⟨k, hk⟩ : ∃ k, ks[z]? = some k := ⟨_, gE hlt⟩
   have hmem := mG hk
   have hxd := Tr.ds_get hk
   have hxa := hxd
   obtain ⟨kop, knm, knu, kks, hka⟩ := k.d_agg
   rw [hka] at hxa
   have hsd := Tr.sizes_drop hk
   have hdb := Tr.depth_bd k
   have hsm := Tr.size_mem hmem
   refine Z24 ?_;refine Z58 ?_;refine Z7 ?_;refine Z101 ?_;refine Z108 ?_;refine Z82 ?_;refine Z10 ?_;refine Z7 ?_
   refine gL (xs := [.tmp 16]) rfl ((hka ▸ ih k (hkd k hmem) (h5 k hmem) (by omega))) ?_
   refine Z2 ?_;refine Z197 ?_;refine Z162 ?_;refine Z55 ?_
   refine gP [0, 1, 2, 3, 5, 6, 7, 9, 10, 11] ?_
   refine Z17 ?_;refine Z144 ?_;refine Z161 ?_;refine Z127 ?_;refine Z144 ?_
   refine sv rfl (Yld_pure rfl (oR rfl) q_max) ?_
   refine Z1 ?_;refine Z124 ?_;refine Z163 ?_
   refine hn0 _ (z + 1, c + k.size, if k.depth > e then k.depth else e) ⟨by show z + 1 ≤ ks.length; omega, by show 0 ≤ c + (k.size : Int); omega, by show c + (k.size : Int) + (Tr.sizes (ks.drop (z + 1)) : Nat) = (Tr.sizes ks : Nat); omega, by show 0 ≤ (if k.depth > e then k.depth else e); split <;> omega, by show (if k.depth > e then k.depth else e) ≤ _; split <;> omega, by show Tr.deeps (ks.drop (z + 1)) _ = _; rw [← Tr.deeps_drop hk e]; exact hc5⟩ (by show ks.length - (z + 1) < ks.length - z; omega) le_of
  have hge : z = ks.length := by
   have : ¬ (z : Int) < (ks.map Tr.d).length := by simpa using hb0
   rw [List.length_map] at this
   omega
  have hdd := Tr.deeps_bd ks 0
  refine Z164 ?_
  subst hge
  rw [List.drop_length] at hc2 hc5
  rw [Tr.deeps] at hc5
  rw [Tr.sizes] at hc2
  refine Z2 ?_;refine Z160 ?_;refine Z161 ?_;refine Z131 ?_;refine Z87 ?_
  exact ⟨by rw [Tr.size, Tr.depth, ← hc5]; congr 5; omega, rfl⟩
def limitsE (ts : List Tr) : Int := if (Tr.sizes ts : Int) > 4000 then 5 else if Tr.deeps ts 0 > 60 then 6 else 0
set_option maxHeartbeats 4000000 in
theorem c85 (ks : List Tr) (h5 : ∀ k ∈ ks, k.Ok) (hszb : Tr.sizes ks ≤ 1000000000) : Pf Tryz.prog 85 [.sl (ks.map Tr.d)] (.d (.int .i64 (limitsE ks))) := by
 refine pf_body (rvs := [.tmp 2]) [(0, .d (.sl (ks.map Tr.d)))] Tryz.func85 Tryz.ntmps85 Tryz.results85 (fun S0 O0 w0 m0 hm0 => ?_)
 refine Z5 ?_
 have hln := Tr.len_sizes ks
 refine Z134 ?_;refine Z1 ?_;refine Z189 ?_;refine Z43 ?_;refine Z183 ?_
 refine g_loop (α := Nat × Int × Int) (fun z => ⟨[(11, .d (.int .i64 (z.1 : Nat))), (10, .d (.int .i64 ((ks.map Tr.d).length : Nat))), (9, .d (.sl (ks.map Tr.d))), (3, .d (.int .i64 z.2.1)), (4, .d (.int .i64 z.2.2))], []⟩) (fun z => ks.length - z.1) (fun z => z.1 ≤ ks.length ∧ 0 ≤ z.2.1 ∧ z.2.1 + Tr.sizes (ks.drop z.1) = Tr.sizes ks ∧ 0 ≤ z.2.2 ∧ z.2.2 ≤ Tr.sizes ks ∧ Tr.deeps (ks.drop z.1) z.2.2 = Tr.deeps ks 0) (0, 0, 0) ⟨Nat.zero_le _, by show (0 : Int) ≤ 0; omega, by show (0 : Int) + _ = _; simp, by show (0 : Int) ≤ 0; omega, by show (0 : Int) ≤ _; omega, rfl⟩ (fun z hz Q' hn0 he0 hr0 => ?_) (le_of)
 obtain ⟨z, c, e⟩ := z
 obtain ⟨hz1, hc1, hc2, hc3, hc4, hc5⟩ := hz
 replace hz1 : z ≤ ks.length := hz1
 replace hc1 : 0 ≤ c := hc1
 replace hc2 : c + Tr.sizes (ks.drop z) = Tr.sizes ks := hc2
 replace hc3 : 0 ≤ e := hc3
 replace hc4 : e ≤ Tr.sizes ks := hc4
 replace hc5 : Tr.deeps (ks.drop z) e = Tr.deeps ks 0 := hc5
 refine Z185 ?_
 refine zgC ?_ ?_ <;> intro hb0
 ·
  have hlt : z < ks.length := by simpa using hb0
  obtain ⟨k, hk⟩ : ∃ k, ks[z]? = some k := ⟨_, gE hlt⟩
  have hmem := mG hk
  have hxd := Tr.ds_get hk
  have hxa := hxd
  obtain ⟨kop, knm, knu, kks, hka⟩ := k.d_agg
  rw [hka] at hxa
  have hsd := Tr.sizes_drop hk
  have hdb := Tr.depth_bd k
  have hsm := Tr.size_mem hmem
  refine Z24 ?_;refine Z58 ?_;refine Z7 ?_;refine Z101 ?_;refine Z108 ?_;refine Z82 ?_;refine Z10 ?_;refine Z7 ?_
  refine gL (xs := [.tmp 16]) rfl ((hka ▸ c151n k.size k (Nat.le_refl _) (h5 k hmem) (by omega))) ?_
  refine Z2 ?_;refine Z197 ?_;refine Z162 ?_;refine Z55 ?_
  refine gP [0, 2, 3, 4, 6, 7, 8, 9, 10, 11] ?_
  refine Z17 ?_;refine Z144 ?_;refine Z161 ?_;refine Z127 ?_;refine Z144 ?_
  refine sv rfl (Yld_pure rfl (oR rfl) q_max) ?_
  refine Z1 ?_;refine Z124 ?_;refine Z163 ?_
  refine hn0 _ (z + 1, c + k.size, if k.depth > e then k.depth else e) ⟨by show z + 1 ≤ ks.length; omega, by show 0 ≤ c + (k.size : Int); omega, by show c + (k.size : Int) + (Tr.sizes (ks.drop (z + 1)) : Nat) = (Tr.sizes ks : Nat); omega, by show 0 ≤ (if k.depth > e then k.depth else e); split <;> omega, by show (if k.depth > e then k.depth else e) ≤ _; split <;> omega, by show Tr.deeps (ks.drop (z + 1)) _ = _; rw [← Tr.deeps_drop hk e]; exact hc5⟩ (by show ks.length - (z + 1) < ks.length - z; omega) le_of
 have hge : z = ks.length := by
  have : ¬ (z : Int) < (ks.map Tr.d).length := by simpa using hb0
  rw [List.length_map] at this
  omega
 have hdd := Tr.deeps_bd ks 0
 refine Z158 ?_
 refine blk_exit (tN (zgS (G_block (zgS (gR ?_)))))
 subst hge
 rw [List.drop_length] at hc2 hc5
 rw [Tr.deeps] at hc5
 rw [Tr.sizes] at hc2
 have hcs : c = Tr.sizes ks := by omega
 subst hcs
 subst hc5
 refine Z2 ?_;refine Z88 ?_;refine Z132 ?_
 refine zgC ?_ ?_ <;> intro hb1
 ·
  refine Z5 ?_;refine Z130 ?_;refine Z4 ?_
  exact ⟨by rw [limitsE, if_pos (oR hb1)], rfl⟩
 refine Z173 ?_;refine Z88 ?_;refine Z132 ?_
 refine zgC ?_ ?_ <;> intro hb2
 ·
  refine Z5 ?_;refine Z130 ?_;refine Z4 ?_
  exact ⟨by rw [limitsE, if_neg (of_decide_eq_false hb1), if_pos (oR hb2)], rfl⟩
 refine Z116 ?_;refine Z133 ?_
 exact ⟨by rw [limitsE, if_neg (of_decide_eq_false hb1), if_neg (of_decide_eq_false hb2)], rfl⟩
def nodeE : Tr → Int
 | .mk op name num ks =>
  if (limitsE [.mk op name num ks] != 0) = true then limitsE [.mk op name num ks]
  else if ((!isExprB op && !isStmtB op && op != 30 && op != 31) || !(Tr.mk op name num ks).shaped) = true then 2 else 0
set_option maxHeartbeats 4000000 in
theorem c24 (t : Tr) (hok : t.Ok) (hszb : t.size ≤ 1000000000) : Pf Tryz.prog 24 [t.d] (.d (.int .i64 (nodeE t))) := by
 obtain ⟨op, name, num, ks⟩ := t
 rw [Tr.d_mk]
 try simp only [Tr.op_mk, Tr.nm_mk, Tr.nu_mk, Tr.kids_mk]
 refine pf_body (rvs := [.tmp 2]) [(0, .d (.agg [.int .i64 op, .str name, .int .i64 num, .sl (ks.map Tr.d)]))] Tryz.func24 Tryz.ntmps24 Tryz.results24 (fun S0 O0 w0 m0 hm0 => ?_)
 refine Z186 ?_;refine Z7 ?_
 refine sv rfl (y_buildSlice (xs := [.tmp 4]) u22 inf27) ?_
 refine gL (xs := [.tmp 5]) rfl ((Tr.ds_one op name num ks ▸ c85 [.mk op name num ks] (by simpa using hok) (by simpa [Tr.sizes] using hszb))) ?_
 refine Z134 ?_;refine Z2 ?_;refine Z84 ?_;refine Z9 ?_
 refine zgC ?_ ?_ <;> intro hb0
 ·
  refine Z173 ?_;refine Z151 ?_
  exact ⟨by rw [nodeE, if_pos hb0], rfl⟩
 refine Z96 ?_
 refine g_cg0 [10, 11, 12, 13, 14, 15, 16, 17, 18, 19, 20, 21, 22, 23, 24, 25, 26, 27, 28, 29, 30, 31, 32, 33, 34, 35] ?_
 refine Z125 ?_
 refine cS 1 (fun b rest hc1 hc2 hc3 => vq rfl (qF u27 rfl sz3) (gN ⟨rfl, rfl⟩)) ?_
 refine cP [0] ?_
 refine cS 2 (fun b rest hc1 hc2 hc3 => vq rfl (qL u3) (gN ⟨rfl, rfl⟩)) ?_
 refine cP [1] ?_
 refine cS 3 (fun b rest hc1 hc2 hc3 => gL (xs := [.tmp 11]) rfl (c74 op) (gN ⟨rfl, rfl⟩)) ?_
 refine cP [2] ?_
 refine cS 4 (fun b rest hc1 hc2 hc3 => vq rfl q_not (gN ⟨rfl, rfl⟩)) ?_
 refine cP [3, 2] ?_
 refine cS 5 (fun b rest hc1 hc2 hc3 => vq rfl qM (gN ⟨rfl, rfl⟩)) ?_
 refine cP [4] ?_
 refine cS 6 (fun b rest hc1 hc2 hc3 => sg rfl (fun hg => qF u27 rfl sz3) (gN ⟨rfl, rfl⟩)) ?_
 refine cP [5, 4] ?_
 refine cS 7 (fun b rest hc1 hc2 hc3 => sg rfl (fun hg => sP 15 rfl hg (qL u3)) (gN ⟨rfl, rfl⟩)) ?_
 refine cP [6, 4, 4] ?_
 refine cS 8 (fun b rest hc1 hc2 hc3 => g_callg (xs := [.tmp 16]) rfl (fun hg => c95 op) (gN ⟨rfl, rfl⟩)) ?_
 refine cP [7, 4] ?_
 refine cS 9 (fun b rest hc1 hc2 hc3 => sg rfl (fun hg => sP 17 rfl hg q_not) (gN ⟨rfl, rfl⟩)) ?_
 refine cP [4, 8] ?_
 refine cS 10 (fun b rest hc1 hc2 hc3 => vq rfl q_and (gN ⟨rfl, rfl⟩)) ?_
 refine cP [9, 7] ?_
 refine cS 11 (fun b rest hc1 hc2 hc3 => vq rfl qM (gN ⟨rfl, rfl⟩)) ?_
 refine cP [10] ?_
 refine cS 12 (fun b rest hc1 hc2 hc3 => sg rfl (fun hg => qF u27 rfl sz3) (gN ⟨rfl, rfl⟩)) ?_
 refine cP [11, 10] ?_
 refine cS 13 (fun b rest hc1 hc2 hc3 => sg rfl (fun hg => sP 21 rfl hg (qL u3)) (gN ⟨rfl, rfl⟩)) ?_
 refine cP [12, 10] ?_
 refine cS 14 (fun b rest hc1 hc2 hc3 => sg rfl (fun hg => sP 22 rfl hg q_neq) (gN ⟨rfl, rfl⟩)) ?_
 refine cP [10, 13] ?_
 refine cS 15 (fun b rest hc1 hc2 hc3 => vq rfl q_and (gN ⟨rfl, rfl⟩)) ?_
 refine cP [14, 10] ?_
 refine cS 16 (fun b rest hc1 hc2 hc3 => vq rfl qM (gN ⟨rfl, rfl⟩)) ?_
 refine cP [15] ?_
 refine cS 17 (fun b rest hc1 hc2 hc3 => sg rfl (fun hg => qF u27 rfl sz3) (gN ⟨rfl, rfl⟩)) ?_
 refine cP [16, 15] ?_
 refine cS 18 (fun b rest hc1 hc2 hc3 => sg rfl (fun hg => sP 26 rfl hg (qL u3)) (gN ⟨rfl, rfl⟩)) ?_
 refine cP [17, 15] ?_
 refine cS 19 (fun b rest hc1 hc2 hc3 => sg rfl (fun hg => sP 27 rfl hg q_neq) (gN ⟨rfl, rfl⟩)) ?_
 refine cP [15, 18] ?_
 refine cS 20 (fun b rest hc1 hc2 hc3 => vq rfl q_and (gN ⟨rfl, rfl⟩)) ?_
 refine cP [19, 15] ?_
 refine cS 21 (fun b rest hc1 hc2 hc3 => vq rfl qM (gN ⟨rfl, rfl⟩)) ?_
 refine cP [20] ?_
 refine cS 22 (fun b rest hc1 hc2 hc3 => sg rfl (fun hg => qG (by exact sz27) u27 rfl) (gN ⟨rfl, rfl⟩)) ?_
 refine cP [20, 20] ?_
 refine cS 23 (fun b rest hc1 hc2 hc3 => g_callg (xs := []) rfl (fun hg => c86) (gN ⟨rfl, rfl⟩)) ?_
 refine cP [21, 22, 22, 20] ?_
 refine cS 24 (fun b rest hc1 hc2 hc3 => g_callg (xs := [.tmp 31, .tmp 32]) rfl (fun hg => (Tr.d_mk op name num ks ▸ c88n _ (.mk op name num ks) (Nat.le_refl _) hok)) (gN ⟨rfl, rfl⟩)) ?_
 refine cP [23, 20] ?_
 refine cS 25 (fun b rest hc1 hc2 hc3 => sg rfl (fun hg => sP 33 rfl hg q_not) (gN ⟨rfl, rfl⟩)) ?_
 refine cP [20, 24] ?_
 refine cS 26 (fun b rest hc1 hc2 hc3 => vq rfl q_or (gN ⟨rfl, rfl⟩)) ?_
 refine cg_done ?_
 refine tN ?_
 refine zgC ?_ ?_ <;> intro hb1
 ·
  refine Z176 ?_;refine Z151 ?_
  exact ⟨by rw [nodeE, if_neg (by rw [hb0]; decide), if_pos hb1], rfl⟩
 refine Z94 ?_;refine Z155 ?_;refine Z133 ?_
 exact ⟨by rw [nodeE, if_neg (by rw [hb0]; decide), if_neg (by rw [hb1]; decide)], rfl⟩
end
section
def W (n : Int) : Int := IntKind.i64.wrap n
def U (n : Int) : Int := IntKind.u64.wrap n
def withinB (n : Int) : Bool := decide (n ≥ -1000000) && decide (n ≤ 1000000)
def lastS (f b c : Int) : Int := W (f + W (b * W (c - 1)))
def lowS (f b c : Int) : Int := if lastS f b c < f then lastS f b c else f
def highS (f b c : Int) : Int := if lastS f b c > f then lastS f b c else f
def normalS (f b c : Int) : (Int × Int × Int) × Int :=
 if c ≤ 0 then ((1, 0, 1), 0)
 else if (!withinB (lowS f b c) || !withinB (highS f b c)) = true then ((0, 0, 0), 4) else ((lowS f b c, highS f b c, if (c == 1) = true then 1 else b), 0)
def turnS (f b c : Int) : Int × Int × Int := if (c == 0) = true then (f, b, c) else (lastS f b c, W (0 - b), c)
def ofS (lo hi : Int) : (Int × Int × Int) × Int :=
 if ((!withinB lo || !withinB hi) || !withinB 1) = true then ((0, 0, 0), 4) else if lo > hi then normalS 0 0 0 else normalS lo 1 (W (W ((W (hi - lo)).tdiv 1) + 1))
def seriesS (lo hi st : Int) : Int × Int × Int :=
 if lo > hi then (0, 0, 0) else if st < 0 then (hi, st, W (W ((W (hi - lo)).tdiv (W (0 - st))) + 1)) else (lo, st, W (W ((W (hi - lo)).tdiv st) + 1))
def limS (lo hi : Int) : Int := if (!withinB lo || !withinB hi) = true then 4 else 0
def stepS (st : Int) : Int := if st < 0 then U (0 - U st) else U st
def checkS (lo hi st : Int) : Int :=
 if ((!(decide (lo = 1) && decide (hi = 0) && decide (st = 1))) && !(lo == hi && st == 1)) = true then
  (if (decide (lo ≥ hi) || st == 0) = true then 2 else if ((U (W (hi - lo))).tmod (stepS st) != 0) = true then 2 else limS lo hi)
 else limS lo hi
def sizeS (lo hi st : Int) : Int := if (checkS lo hi st != 0) = true then 0 else (seriesS lo hi st).2.2
def wf64 (n : Int) : Prop := -9223372036854775808 ≤ n ∧ n ≤ 9223372036854775807
theorem W_wf (n : Int) : wf64 (W n) := by
 have := wrap_within IntKind.i64 n
 exact this
end
section
def byN (f b c m : Int) : (Int × Int × Int) × Int := normalS f (W (b * m)) (W ((W (W (c + m) - 1)).tdiv m))
def byS (lo hi st n : Int) : (Int × Int × Int) × Int :=
 if (checkS lo hi st != 0) = true then ((0, 0, 0), checkS lo hi st)
 else if (n == 0) = true then ((0, 0, 0), 1)
 else if (!withinB n) = true then ((0, 0, 0), 4)
 else if n < 0 then byN (turnS (seriesS lo hi st).1 (seriesS lo hi st).2.1 (seriesS lo hi st).2.2).1 (turnS (seriesS lo hi st).1 (seriesS lo hi st).2.1 (seriesS lo hi st).2.2).2.1 (turnS (seriesS lo hi st).1 (seriesS lo hi st).2.1 (seriesS lo hi st).2.2).2.2 (W (0 - n))
 else byN (seriesS lo hi st).1 (seriesS lo hi st).2.1 (seriesS lo hi st).2.2 n
def countS (lo hi st n : Int) : (Int × Int × Int) × Int :=
 if (checkS lo hi st != 0) = true then ((0, 0, 0), checkS lo hi st)
 else if (decide (n > (seriesS lo hi st).2.2) || decide (n < W (0 - (seriesS lo hi st).2.2))) = true then ((0, 0, 0), 5)
 else if n < 0 then normalS (W ((seriesS lo hi st).1 + W ((seriesS lo hi st).2.1 * W ((seriesS lo hi st).2.2 + n)))) (seriesS lo hi st).2.1 (W (0 - n))
 else normalS (seriesS lo hi st).1 (seriesS lo hi st).2.1 n
end
end Go.Proofs.YtklkbfpjimeaoaaGreat
