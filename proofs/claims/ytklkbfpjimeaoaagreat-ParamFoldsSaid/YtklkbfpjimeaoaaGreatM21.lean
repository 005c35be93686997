import Derived.Test.YtklkbfpjimeaoaaGreatM20
import Derived.Test.YtklkbfpjimeaoaaGreatM11
/- Contracts of functions. Conditions: none. -/
set_option linter.unusedSimpArgs false
set_option linter.unusedVariables false
set_option maxRecDepth 20000
namespace Go.Proofs.YtklkbfpjimeaoaaGreat
open Go Go.Proofs.YtklkbfpjimeaoaaGreat.E
section
theorem all_zip {α : Type} (q : α → Bool) : ∀ (xs : List α), (xs.zipIdx.all fun x => q x.1) = xs.all q := by
 intro xs
 rw [Bool.eq_iff_iff, List.all_eq_true, List.all_eq_true]
 constructor
 · intro h x hx
   obtain ⟨i, hi⟩ := List.getElem?_of_mem hx
   exact h (x, i) (List.mem_zipIdx_iff_getElem?.2 hi)
 · rintro h ⟨x, i⟩ hx
   exact h x (mG (List.mem_zipIdx_iff_getElem?.1 hx))
def allE (ks : List Tr) : Bool := ks.all fun k => isExprB k.op
theorem kidsB_e {s : ByteArray} (hs : ∀ i, i < s.size → s[i]! = 101) (ks : List Tr) : kidsB ks s = (decide (ks.length = s.size) && allE ks) := by
 unfold kidsB
 by_cases h : ks.length = s.size
 · rw [decide_eq_true h, Bool.true_and, Bool.true_and, allE, ← all_zip (fun k : Tr => isExprB k.op)]
   rw [Bool.eq_iff_iff, List.all_eq_true, List.all_eq_true]
   have hk : ∀ x ∈ ks.zipIdx, kindOk ((s[x.2]!).toNat : Nat) x.1.op = isExprB x.1.op := by
    rintro ⟨k, i⟩ hx
    have hi := (lG (List.mem_zipIdx_iff_getElem?.1 hx))
    show kindOk ((s[i]!).toNat : Nat) k.op = _
    rw [hs i (by omega)]
    rfl
   constructor
   · intro h x hx; rw [← hk x hx]; exact h x hx
   · intro h x hx; rw [hk x hx]; exact h x hx
 · rw [decide_eq_false h, Bool.false_and, Bool.false_and]
theorem e1s : ∀ i, i < e1.size → e1[i]! = 101 := by decide
theorem e2s : ∀ i, i < ee.size → ee[i]! = 101 := by decide
theorem e3s : ∀ i, i < eee.size → eee[i]! = 101 := by decide
theorem exs (n : Nat) : ∀ i, i < (eee.extract 0 n).size → (eee.extract 0 n)[i]! = 101 := by
 intro i hi
 have h3 : eee.size = 3 := rfl
 rw [ByteArray.size_extract] at hi
 have hlt : i < 3 := by omega
 have hn : i < n := by omega
 have hi' : i < (eee.extract 0 n).size := by rw [ByteArray.size_extract]; exact hi
 rw [getElem!_pos (eee.extract 0 n) i hi', ByteArray.getElem_extract]
 have h := e3s i (by rw [h3]; exact hlt)
 rw [getElem!_pos eee i (by rw [h3]; exact hlt)] at h
 simpa using h
def Kin (f : Tr → Tr) (ks : List Tr) : Prop := ∀ k ∈ ks, isExprB (f k).op = isExprB k.op ∧ ((f k).op == 30) = (k.op == 30)
variable {f : Tr → Tr} {ks : List Tr}
theorem Kin.allE (h : Kin f ks) : allE (ks.map f) = allE ks := by
 unfold Go.Proofs.YtklkbfpjimeaoaaGreat.allE
 rw [Bool.eq_iff_iff, List.all_map, List.all_eq_true, List.all_eq_true]
 constructor
 · intro h1 k hk; rw [← (h k hk).1]; exact h1 k hk
 · intro h1 k hk; show isExprB (f k).op = true; rw [(h k hk).1]; exact h1 k hk
theorem Kin.kidsB (h : Kin f ks) {s : ByteArray} (hs : ∀ i, i < s.size → s[i]! = 101) : kidsB (ks.map f) s = kidsB ks s := by
 rw [kidsB_e hs, kidsB_e hs, h.allE, List.length_map]
theorem Kin.every (h : Kin f ks) : everyB (fun op => isExprB op || op == 30) (ks.map f) = everyB (fun op => isExprB op || op == 30) ks := by
 unfold everyB
 rw [List.any_map]
 congr 1
 rw [Bool.eq_iff_iff, List.any_eq_true, List.any_eq_true]
 have he : ∀ k ∈ ks, ((fun k : Tr => !(isExprB k.op || k.op == 30)) ∘ f) k = !(isExprB k.op || k.op == 30) := fun k hk => by
  show (!(isExprB (f k).op || (f k).op == 30)) = _
  rw [(h k hk).1, (h k hk).2]
 constructor
 · rintro ⟨k, hk, h1⟩; exact ⟨k, hk, by rw [← he k hk]; exact h1⟩
 · rintro ⟨k, hk, h1⟩; exact ⟨k, hk, by rw [he k hk]; exact h1⟩
theorem Kin.forms (h : Kin f ks) {op num : Int} {nm : ByteArray} {ts : List ByteArray} (hs : ∀ s ∈ ts, ∀ i, i < s.size → s[i]! = 101) : formsB ts (.mk op nm num (ks.map f)) = formsB ts (.mk op nm num ks) := by
 unfold formsB
 rw [Bool.eq_iff_iff, List.any_eq_true, List.any_eq_true]
 constructor
 · rintro ⟨s, h1, h2⟩; exact ⟨s, h1, by rw [Tr.kids_mk] at h2 ⊢; rw [← h.kidsB (hs s h1)]; exact h2⟩
 · rintro ⟨s, h1, h2⟩; exact ⟨s, h1, by rw [Tr.kids_mk] at h2 ⊢; rw [h.kidsB (hs s h1)]; exact h2⟩
theorem Kin.tab (h : Kin f ks) {op num : Int} {nm : ByteArray} : ∀ x ∈ shapeTab, isExprB x.1 = true → x.2.ok (.mk op nm num (ks.map f)) = x.2.ok (.mk op nm num ks) := by
 intro x hx he
 simp only [shapeTab, List.mem_cons, List.not_mem_nil, or_false] at hx
 rcases hx with rfl | rfl | rfl | rfl | rfl | rfl | rfl | rfl | rfl | rfl | rfl | rfl | rfl | rfl | rfl | rfl | rfl | rfl | rfl | rfl | rfl | rfl | rfl | rfl | rfl | rfl | rfl | rfl | rfl | rfl | rfl | rfl | rfl <;> first | exact absurd he (by decide) | exact h.forms (by decide) | (show rule154 _ = rule154 _; unfold rule154; rw [Tr.kids_mk, Tr.kids_mk, List.length_map]; rfl)
theorem shGet_tab {op : Int} {s : Sh} (h : shGet op = some s) : ∃ x ∈ shapeTab, x.1 = op ∧ x.2 = s := by
 unfold shGet at h
 cases hf : shapeTab.find? (fun x => decide (x.1 = op)) with
 | none => rw [hf] at h; cases h
 | some x =>
  rw [hf] at h
  injection h with h
  exact ⟨x, List.mem_of_find?_eq_some hf, by simpa using List.find?_some hf, h⟩
theorem ne_of_expr {op k : Int} (ho : isExprB op = true) (hk : isExprB k = false) : (op == k) = false := by
 rw [beq_eq_false_iff_ne]
 rintro rfl
 rw [ho] at hk
 cases hk
theorem Kin.right (h : Kin f ks) {op num : Int} {nm : ByteArray} (ho : isExprB op = true) : rightB (.mk op nm num (ks.map f)) = rightB (.mk op nm num ks) := by
 have h2 : otherB (.mk op nm num (ks.map f)) = otherB (.mk op nm num ks) := by
  rw [otherB, otherB, h.every, h.kidsB (exs _), h.kidsB e2s, h.kidsB e1s, List.length_map, ne_of_expr ho (show isExprB 30 = false from rfl), ne_of_expr ho (show isExprB 50 = false from rfl)]
  simp only [Bool.false_eq_true, if_false]
 rw [rightB, rightB, h2]
 cases hs : shGet op with
 | none => rfl
 | some s =>
  obtain ⟨x, hx, rfl, rfl⟩ := shGet_tab hs
  have ht := h.tab (op := x.1) (num := num) (nm := nm) x hx ho
  obtain ⟨xo, nms, nb, g, caps, ok⟩ := x
  dsimp only at ht ⊢
  rw [ht]
theorem kl_snoc (l : List (ByteArray × Tr)) (c : ByteArray × Tr) : kl (l ++ [c]) = (c.1, some c.2) :: kl l := by
 unfold kl
 rw [List.map_append, List.reverse_append]; rfl
end
section
theorem c81 (op : Int) : Pf Tryz.prog 81 [.int .i64 op] (.d (.bool (isExprB op))) := by
 refine pf_body (rvs := [.tmp 2]) [(0, .d (.int .i64 op))] Tryz.func81 Tryz.ntmps81 Tryz.results81 (fun S0 O0 w0 m0 hm0 => ?_)
 refine Z387 ?_;refine Z93 ?_;refine Z332 ?_;refine Z183 ?_;refine Z13 ?_;refine Z332 ?_;refine Z277 ?_;refine Z360 ?_
 exact Y24
theorem c96 (op : Int) : Pf Tryz.prog 96 [.int .i64 op] (.d (.bool (isStmtB op))) := by
 refine pf_body (rvs := [.tmp 2]) [(0, .d (.int .i64 op))] Tryz.func96 Tryz.ntmps96 Tryz.results96 (fun S0 O0 w0 m0 hm0 => ?_)
 refine Z387 ?_;refine Z93 ?_;refine Z332 ?_;refine Z183 ?_;refine Z360 ?_
 exact ⟨by simp [isStmtB, Bool.and_assoc], rfl⟩
def lettR (c : Int) : Bool := (decide (c ≥ 97) && decide (c ≤ 122)) || (decide (c ≥ 65) && decide (c ≤ 90))
theorem by_get {s : ByteArray} {z : Nat} {c : UInt8} (h : s.data.toList[z]? = some c) : s[z]! = c := by
 obtain ⟨hlt, he⟩ := List.getElem?_eq_some_iff.1 h
 have hs : z < s.size := by rw [← bytes_len]; exact hlt
 rw [getElem!_pos s z hs, ← he]; rfl
theorem kind_eq (c op : Int) : kindOk c op = !(((c == 101 && !isExprB op) || (c == 98 && op != 66)) || (c == 110 && op != 4)) := by
 unfold kindOk
 by_cases h1 : c = 101
 · subst h1; simp
 · by_cases h2 : c = 98
   · subst h2; simp [bne]
     cases h : (op == 66) <;> simp_all
   · by_cases h3 : c = 110
     · subst h3; simp [bne]
       cases h : (op == 4) <;> simp_all
     · simp [h1, h2, h3]
theorem c240 (c : Int) : Pf Tryz.prog 240 [.int .u8 c] (.d (.bool (lettR c))) := by
 refine pf_body (rvs := [.tmp 2]) [(0, .d (.int .u8 c))] Tryz.func240 Tryz.ntmps240 Tryz.results240 (fun S0 O0 w0 m0 hm0 => ?_)
 refine Z387 ?_;refine Z93 ?_;refine Z332 ?_;refine Z183 ?_;refine Z13 ?_;refine Z332 ?_
 refine sg rfl (fun hg => sP 10 rfl hg q_geq) ?_
 refine sg rfl (fun hg => sP 11 rfl hg qM) ?_
 refine Z18 ?_
 refine sg rfl (fun hg => sP 13 rfl hg q_leq) ?_
 refine sg rfl (fun hg => sP 12 rfl hg q_and) ?_
 refine Z415 ?_
 exact ⟨rfl, rfl⟩
set_option maxHeartbeats 1000000 in
theorem c174 (s : ByteArray) : Pf Tryz.prog 174 [.str s] (.d (.bool (nameB s))) := by
 refine pf_body (rvs := [.tmp 2]) [(0, .d (.str s))] Tryz.func174 Tryz.ntmps174 Tryz.results174 (fun S0 O0 w0 m0 hm0 => ?_)
 refine Z393 ?_;refine Z131 ?_;refine Z34 ?_;refine Z332 ?_
 refine sg rfl (fun hg => sP 8 rfl hg (q_lenstr u9)) ?_
 refine sg rfl (fun hg => sP 9 rfl hg q_gtr) ?_
 refine Z333 ?_
 refine gC ?_ ?_ <;> intro hb0
 ·
  have hnm : nameB s = false := by unfold nameB; rw [hb0]; rfl
  refine Z375 ?_
  exact ⟨by rw [hnm], rfl⟩
 have hsz : 1 ≤ s.size ∧ s.size ≤ 40 := by
  simp only [Bool.or_eq_false_iff, decide_eq_false_iff_not] at hb0
  omega
 refine Z59 ?_;refine Z357 ?_
 refine g_loop (α := Nat) (fun z => ⟨[(3, .d (.int .i64 (z : Nat))), (0, .d (.str s))], []⟩) (fun z => s.size - z) (fun z => z ≤ s.size ∧ ∀ i, i < z → ∀ c, s.data.toList[i]? = some c → charOk i (c.toNat : Nat) = true) 0 ⟨Nat.zero_le _, by simp⟩ (fun z hz Q' hn0 he0 hr0 => ?_) (le_of)
 obtain ⟨hz1, hz2⟩ := hz
 refine Z44 ?_;refine Z321 ?_;refine Z131 ?_;refine Z346 ?_
 refine gC ?_ ?_ <;> intro hb1
 ·
  have hlt : z < s.size := by
   have : (z : Int) < (s.size : Nat) := by simpa using hb1
   omega
  obtain ⟨c, hc⟩ : ∃ c, s.data.toList[z]? = some c := ⟨_, gE (by rw [bytes_len]; exact hlt)⟩
  have hcc := by_get hc
  refine Z26 ?_;refine Z321 ?_
  refine vq rfl ((q_strindex u9)) ?_
  refine gL (xs := [.tmp 20]) rfl (c240 _) ?_
  refine Z52 ?_;refine Z332 ?_;refine Z18 ?_
  refine sg rfl (fun hg => sP 25 rfl hg (sP 24 rfl hg (q_strindex u9))) ?_
  refine sg rfl (fun hg => sP 26 rfl hg q_neq) ?_
  refine Z13 ?_;refine Z332 ?_
  refine sg rfl (fun hg => sP 30 rfl hg q_eql) ?_
  refine sg rfl (fun hg => sP 31 rfl hg qM) ?_
  refine Z18 ?_;refine Z18 ?_
  refine sg rfl (fun hg => sP 34 rfl hg (sP 33 rfl hg (q_strindex u9))) ?_
  refine sg rfl (fun hg => sP 35 rfl hg q_lss) ?_
  refine sg rfl (fun hg => sP 32 rfl hg q_or) ?_
  refine sg rfl (fun hg => sP 37 rfl hg qM) ?_
  refine Z18 ?_;refine Z18 ?_
  refine sg rfl (fun hg => sP 40 rfl hg (sP 39 rfl hg (q_strindex u9))) ?_
  refine sg rfl (fun hg => sP 41 rfl hg q_gtr) ?_
  refine sg rfl (fun hg => sP 38 rfl hg q_or) ?_
  refine Z369 ?_
  refine gC ?_ ?_ <;> intro hb2
  ·
   have hch : charOk z (c.toNat : Nat) = false := by
    simp only [Int.toNat_natCast, hcc, lettR, Bool.and_eq_true, Bool.or_eq_true, Bool.not_eq_true', Bool.not_eq_false', Bool.or_eq_false_iff, Bool.and_eq_false_iff, decide_eq_true_eq, decide_eq_false_iff_not, beq_iff_eq, beq_eq_false_iff_ne, bne_iff_ne, bne_eq_false_iff_eq] at hb2
    simp only [charOk, letterB, Bool.or_eq_false_iff, Bool.and_eq_false_iff, Bool.not_eq_false', decide_eq_true_eq, decide_eq_false_iff_not]
    omega
   refine Z51 ?_
   refine gP [0, 2, 3] ?_
   refine Z14 ?_;refine Z322 ?_;refine Z394 ?_
   exact Y14
  have hch : charOk z (c.toNat : Nat) = true := by
   simp only [Int.toNat_natCast, hcc, lettR, Bool.and_eq_true, Bool.or_eq_true, Bool.not_eq_true', Bool.not_eq_false', Bool.or_eq_false_iff, Bool.and_eq_false_iff, decide_eq_true_eq, decide_eq_false_iff_not, beq_iff_eq, beq_eq_false_iff_ne, bne_iff_ne, bne_eq_false_iff_eq] at hb2
   simp only [charOk, letterB, Bool.or_eq_true, Bool.and_eq_true, Bool.not_eq_true', decide_eq_true_eq, decide_eq_false_iff_not]
   omega
  refine Z248 ?_
  refine gP [0, 2, 3] ?_
  refine Z426 ?_
  refine hn0 _ (z + 1) ⟨by omega, upto_step (p := fun i (c : UInt8) => charOk i (c.toNat : Nat)) hz2 hc hch⟩ (by omega) le_of
 have hge : z = s.size := by
  have : ¬ (z : Int) < (s.size : Nat) := by simpa using hb1
  omega
 refine Z419 ?_
 exact Y6
theorem c176 (ts : List ByteArray) (v : ByteArray) (hlim : ts.length ≤ 140737488355328) : Pf Tryz.prog 176 [.sl (ts.map .str), .str v] (.d (.bool (hasB ts v))) := by
 refine pf_body (rvs := [.tmp 4]) [(0, .d (.sl (ts.map .str))), (1, .d (.str v))] Tryz.func176 Tryz.ntmps176 Tryz.results176 (fun S0 O0 w0 m0 hm0 => ?_)
 refine Z380 ?_;refine Z357 ?_
 refine g_loop (α := Nat) (fun z => ⟨[(5, .d (.int .i64 (z : Nat))), (1, .d (.str v)), (0, .d (.sl (ts.map .str)))], []⟩) (fun z => ts.length - z) (fun z => z ≤ ts.length ∧ ∀ i, i < z → ∀ x, ts[i]? = some x → (fun s => decide (v = s)) x = false) 0 ⟨Nat.zero_le _, by simp⟩ (fun z hz Q' hn0 he0 hr0 => ?_) (le_of)
 obtain ⟨hz1, hz2⟩ := hz
 refine Z44 ?_;refine Z321 ?_
 refine vq rfl (q_len u63) ?_
 refine Z346 ?_
 refine gC ?_ ?_ <;> intro hb0
 ·
  have hlt : z < ts.length := by simpa using hb0
  obtain ⟨x, hx⟩ : ∃ x, ts[z]? = some x := ⟨_, gE hlt⟩
  have hmem := mG hx
  have hxd := strs_get hx
  refine Z26 ?_;refine Z321 ?_
  refine vq rfl (qI u63 sz9) ?_
  refine Z39 ?_;refine Z0 ?_;refine Z54 ?_;refine Z5 ?_
  refine gC ?_ ?_ <;> intro hb1
  ·
   refine Z411 ?_;refine Z394 ?_
   exact ⟨by rw [show hasB ts v = true from List.any_eq_true.2 ⟨x, hmem, by have := oR hb1; exact decide_eq_true this.symm⟩], rfl⟩
  refine Z427 ?_
  refine hn0 _ (z + 1) ⟨by omega, idxL_step hz2 hx (by have := of_decide_eq_false hb1; exact decide_eq_false (fun e => this e.symm))⟩ (by omega) le_of
 have hge : z = ts.length := by
  have : ¬ (z : Int) < (ts.map D.str).length := by simpa using hb0
  rw [List.length_map] at this
  omega
 refine Z419 ?_
 exact ⟨by rw [show hasB ts v = false from List.any_eq_false.2 (fun x hx => by obtain ⟨i, hi⟩ := List.getElem?_of_mem hx; have := hz2 i (by have := (lG hi); omega) x hi; simpa using this)], rfl⟩
def bareB (t : Tr) : Bool := decide (t.nm = ⟨#[]⟩) && t.nu == 0
theorem c177 (t : Tr) : Pf Tryz.prog 177 [t.d] (.d (.bool (bareB t))) := by
 obtain ⟨op, name, num, ks⟩ := t
 rw [Tr.d_mk]
 try simp only [Tr.op_mk, Tr.nm_mk, Tr.nu_mk, Tr.kids_mk]
 refine pf_body (rvs := [.tmp 2]) [(0, .d (.agg [.int .i64 op, .str name, .int .i64 num, .sl (ks.map Tr.d)]))] Tryz.func177 Tryz.ntmps177 Tryz.results177 (fun S0 O0 w0 m0 hm0 => ?_)
 refine Z390 ?_;refine Z336 ?_;refine Z54 ?_;refine Z337 ?_;refine Z176 ?_;refine Z245 ?_;refine Z360 ?_
 exact ⟨rfl, rfl⟩
set_option maxHeartbeats 4000000 in
theorem c239 (t : Tr) (s : ByteArray) (hok : t.Ok) : Pf Tryz.prog 239 [t.d, .str s] (.d (.bool (kidsB t.kids s))) := by
 obtain ⟨op, name, num, ks⟩ := t
 rw [Tr.d_mk]
 try simp only [Tr.op_mk, Tr.nm_mk, Tr.nu_mk, Tr.kids_mk]
 cases hok with | mk h1 h2 h3 h4 h5 =>
 refine pf_body (rvs := [.tmp 4]) [(0, .d (.agg [.int .i64 op, .str name, .int .i64 num, .sl (ks.map Tr.d)])), (1, .d (.str s))] Tryz.func239 Tryz.ntmps239 Tryz.results239 (fun S0 O0 w0 m0 hm0 => ?_)
 refine Z404 ?_;refine Z371 ?_;refine Z0 ?_;refine Z131 ?_;refine Z350 ?_
 refine gC ?_ ?_ <;> intro hb0
 ·
  have hne : ¬ ks.length = s.size := by
   simp at hb0
   omega
  refine Z375 ?_
  exact ⟨by rw [kidsB]; simp [Tr.kids, hne], rfl⟩
 have hle : ks.length = s.size := by
  simp at hb0
  omega
 refine Z59 ?_;refine Z357 ?_
 refine g_loop (α := Nat) (fun z => ⟨[(5, .d (.int .i64 (z : Nat))), (2, .d (.ptr (.agg [.int .i64 op, .str name, .int .i64 num, .sl (ks.map Tr.d)]))), (1, .d (.str s))], []⟩) (fun z => ks.length - z) (fun z => z ≤ ks.length ∧ ∀ i, i < z → ∀ k, ks[i]? = some k → kindOk ((s[i]!).toNat : Nat) k.op = true) 0 ⟨Nat.zero_le _, by simp⟩ (fun z hz Q' hn0 he0 hr0 => ?_) (le_of)
 obtain ⟨hz1, hz2⟩ := hz
 refine Z44 ?_;refine Z321 ?_;refine Z131 ?_;refine Z346 ?_
 refine gC ?_ ?_ <;> intro hb1
 ·
  have hlt : z < s.size := by
   have : (z : Int) < (s.size : Nat) := by simpa using hb1
   omega
  obtain ⟨k, hk⟩ : ∃ k, ks[z]? = some k := ⟨_, gE (by omega)⟩
  have hmem := mG hk
  have hxd := Tr.ds_get hk
  have hxa := hxd
  obtain ⟨kop, knm, knu, kks, hka⟩ := k.d_agg
  rw [hka] at hxa
  have hkop : k.op = kop := by obtain ⟨o, n, u, l⟩ := k; rw [Tr.d_mk] at hka; injection hka with hka; injection hka with hka; injection hka
  refine Z26 ?_;refine Z386 ?_;refine Z40 ?_;refine Z323 ?_;refine Z433 ?_
  refine vq rfl ((q_strindex u9)) ?_
  refine Z17 ?_;refine Z332 ?_
  refine g_callg (xs := [.tmp 30]) rfl (fun hg => c81 kop) ?_
  refine sg rfl (fun hg => sP 31 rfl hg q_not) ?_
  refine Z13 ?_;refine Z332 ?_;refine Z18 ?_
  refine sg rfl (fun hg => sP 36 rfl hg (sP 35 rfl hg (q_strindex u9))) ?_
  refine sg rfl (fun hg => sP 37 rfl hg q_eql) ?_
  refine sg rfl (fun hg => sP 38 rfl hg qM) ?_
  refine Z18 ?_
  refine sg rfl (fun hg => sP 40 rfl hg q_neq) ?_
  refine sg rfl (fun hg => sP 39 rfl hg q_and) ?_
  refine Z28 ?_;refine Z332 ?_;refine Z18 ?_
  refine sg rfl (fun hg => sP 46 rfl hg (sP 45 rfl hg (q_strindex u9))) ?_
  refine sg rfl (fun hg => sP 47 rfl hg q_eql) ?_
  refine sg rfl (fun hg => sP 48 rfl hg qM) ?_
  refine Z18 ?_
  refine sg rfl (fun hg => sP 50 rfl hg q_neq) ?_
  refine sg rfl (fun hg => sP 49 rfl hg q_and) ?_
  refine Z333 ?_
  refine gC ?_ ?_ <;> intro hb2
  ·
   have hkk : kindOk ((s[z]!).toNat : Nat) k.op = false := by
    rw [kind_eq, hkop]
    simp only [Int.toNat_natCast] at hb2
    rw [hb2]; rfl
   refine Z411 ?_;refine Z394 ?_
   exact ⟨by rw [kidsB, zipIdx_not (p := fun i (k : Tr) => kindOk ((s[i]!).toNat : Nat) k.op) hk hkk, Bool.and_false], rfl⟩
  have hkk : kindOk ((s[z]!).toNat : Nat) k.op = true := by
   rw [kind_eq, hkop]
   simp only [Int.toNat_natCast] at hb2
   rw [hb2]; rfl
  refine Z427 ?_
  refine hn0 _ (z + 1) ⟨by omega, upto_step (p := fun i (k : Tr) => kindOk ((s[i]!).toNat : Nat) k.op) hz2 hk hkk⟩ (by omega) le_of
 have hge : z = ks.length := by
  have : ¬ (z : Int) < (s.size : Nat) := by simpa using hb1
  omega
 refine Z419 ?_
 exact Y3
end
section
set_option maxHeartbeats 4000000 in
theorem c92n : ∀ (n : Nat) (t : Tr), t.size ≤ n → t.Ok → t.size ≤ 1000000000 → Pf Tryz.prog 92 [t.d] (.tup [.d (.int .i64 t.size), .d (.int .i64 t.depth)]) := by
 intro n
 induction n with
 | zero => intro t h; exact absurd t.size_pos (by omega)
 | succ n ih =>
  intro t hsz hok hszb
  obtain ⟨op, name, num, ks⟩ := t
  have hkd : ∀ k ∈ ks, k.size ≤ n := fun k hk => by
   have := Tr.size_mem hk
   rw [Tr.size] at hsz
   omega
  rw [Tr.d_mk]
  cases hok with | mk h1 h2 h3 h4 h5 =>
  have hln := Tr.len_sizes ks
  rw [Tr.size] at hszb
  refine pf_body (rvs := [.tmp 2, .tmp 3]) [(0, .d (.agg [.int .i64 op, .str name, .int .i64 num, .sl (ks.map Tr.d)]))] Tryz.func92 Tryz.ntmps92 Tryz.results92 (fun S0 O0 w0 m0 hm0 => ?_)
  refine Z345 ?_;refine Z1 ?_;refine Z324 ?_;refine Z1 ?_;refine Z328 ?_;refine Z357 ?_
  refine g_loop (α := Nat × Int × Int) (fun z => ⟨[(6, .d (.int .i64 (z.1 : Nat))), (1, .d (.ptr (.agg [.int .i64 op, .str name, .int .i64 num, .sl (ks.map Tr.d)]))), (4, .d (.int .i64 z.2.1)), (5, .d (.int .i64 z.2.2))], []⟩) (fun z => ks.length - z.1) (fun z => z.1 ≤ ks.length ∧ 1 ≤ z.2.1 ∧ z.2.1 + Tr.sizes (ks.drop z.1) = 1 + Tr.sizes ks ∧ 0 ≤ z.2.2 ∧ z.2.2 ≤ Tr.sizes ks ∧ Tr.deeps (ks.drop z.1) z.2.2 = Tr.deeps ks 0) (0, 1, 0) ⟨Nat.zero_le _, by show (1 : Int) ≤ 1; omega, by show (1 : Int) + _ = _; simp, by show (0 : Int) ≤ 0; omega, by show (0 : Int) ≤ _; omega, rfl⟩ (fun z hz Q' hn0 he0 hr0 => ?_) (le_of)
  obtain ⟨z, c, e⟩ := z
  obtain ⟨hz1, hc1, hc2, hc3, hc4, hc5⟩ := hz
  replace hz1 : z ≤ ks.length := hz1
  replace hc1 : 1 ≤ c := hc1
  replace hc2 : c + Tr.sizes (ks.drop z) = 1 + Tr.sizes ks := hc2
  replace hc3 : 0 ≤ e := hc3
  replace hc4 : e ≤ Tr.sizes ks := hc4
  replace hc5 : Tr.deeps (ks.drop z) e = Tr.deeps ks 0 := hc5
  refine Z355 ?_;refine Z428 ?_
  refine gC ?_ ?_ <;> intro hb0
  ·
   have hlt : z < ks.length := by simpa using hb0
   obtain ⟨k, hk⟩ : ∃ k, ks[z]? = some k := ⟨_, gE hlt⟩
   have hmem := mG hk
   have hxd := Tr.ds_get hk
   have hxa := hxd
   obtain ⟨kop, knm, knu, kks, hka⟩ := k.d_agg
   rw [hka] at hxa
   have hsd := Tr.sizes_drop hk
   have hdb := Tr.depth_bd k
   have hsm := Tr.size_mem hmem
   refine Z26 ?_;refine Z386 ?_;refine Z343 ?_
   refine gL (xs := [.tmp 21]) rfl ((hka ▸ ih k (hkd k hmem) (h5 k hmem) (by omega))) ?_
   refine Z389 ?_;refine Z372 ?_
   refine gP [0, 1, 2, 3, 4, 5, 6, 7, 8] ?_
   refine Z402 ?_;refine Z25 ?_;refine Z1 ?_;refine Z178 ?_;refine Z321 ?_;refine Z212 ?_;refine Z1 ?_;refine Z95 ?_;refine Z349 ?_
   refine hn0 _ (z + 1, c + k.size, if k.depth > e then k.depth else e) ⟨by show z + 1 ≤ ks.length; omega, by show 1 ≤ c + (k.size : Int); omega, by show c + (k.size : Int) + (Tr.sizes (ks.drop (z + 1)) : Nat) = 1 + (Tr.sizes ks : Nat); omega, by show 0 ≤ (if k.depth > e then k.depth else e); split <;> omega, by show (if k.depth > e then k.depth else e) ≤ _; split <;> omega, by show Tr.deeps (ks.drop (z + 1)) _ = _; rw [← Tr.deeps_drop hk e]; exact hc5⟩ (by show ks.length - (z + 1) < ks.length - z; omega) le_of
  have hge : z = ks.length := by
   have : ¬ (z : Int) < (ks.map Tr.d).length := by simpa using hb0
   rw [List.length_map] at this
   omega
  have hdd := Tr.deeps_bd ks 0
  refine Z347 ?_
  subst hge
  rw [List.drop_length] at hc2 hc5
  rw [Tr.deeps] at hc5
  rw [Tr.sizes] at hc2
  refine Z321 ?_;refine Z25 ?_;refine Z1 ?_;refine Z317 ?_;refine Z71 ?_
  exact ⟨by rw [Tr.size, Tr.depth, ← hc5]; congr 5; omega, rfl⟩
def methR (nm : ByteArray) : Int × ByteArray × ByteArray := match opTab.find? (fun x => decide (x.1 = nm)) with
 | some x => (x.2.2.2, x.2.1, x.2.2.1)
 | none => (-1, ⟨#[]⟩, ⟨#[]⟩)
theorem find3 {P : Program} {t u v : Nat} {p q r : PV} {d x y : D} {s : GS} {R : PV → List (List PV) → Prop} {e : Exit} (he : e = .normal ∨ e = .ret) (hR : R (.tup [.d d, .d x, .d y]) []) (hs : s.get t = some p := by exact J0) (hq : p.toD = some d := by exact J7)
 (hs' : s.get u = some q := by exact J0) (hq' : q.toD = some x := by exact J7) (hs2 : s.get v = some r := by exact J0) (hq2 : r.toD = some y := by exact J7) :
 Fin P [.tmp t, .tmp u, .tmp v] 0 R e s := ⟨he, .inl ⟨[.d d, .d x, .d y], [], .cons (.dat hs hq) (.cons (.dat hs' hq') (.cons (.dat hs2 hq2) .nil)), Nat.le_refl _, .nil, rfl, hR⟩⟩
theorem pre_q (s : ByteArray) : preB s qmB = (decide ((s.size : Int) > 0) && ((s[0]!).toNat : Int) == 63) := by
 obtain ⟨⟨l⟩⟩ := s
 cases l with
 | nil => rfl
 | cons c r =>
  have h0 : (⟨⟨c :: r⟩⟩ : ByteArray)[0]! = c := by_get (z := 0) rfl
  have h1 : (⟨⟨c :: r⟩⟩ : ByteArray).size = r.length + 1 := rfl
  have h2 : (⟨⟨c :: r⟩⟩ : ByteArray).extract 0 1 = ⟨#[c]⟩ := by
   apply ByteArray.ext
   rw [ByteArray.data_extract]
   simp
  unfold preB
  rw [h0, h1, show qmB.size = 1 from rfl, h2]
  have h3 : decide ((⟨#[c]⟩ : ByteArray) = qmB) = ((c.toNat : Int) == 63) := by
   rw [Bool.eq_iff_iff, decide_eq_true_eq, beq_iff_eq]
   constructor
   · intro h; injection h with h; injection h with h; injection h with h _; rw [h]; rfl
   · intro h
     have h4 : c = 63 := UInt8.toNat_inj.1 (by show c.toNat = 63; omega)
     rw [h4]; rfl
  rw [h3, decide_eq_true (by omega : ((r.length + 1 : Nat) : Int) ≥ (1 : Nat)), decide_eq_true (by omega : ((r.length + 1 : Nat) : Int) > 0)]
variable {z : Nat} {c : UInt8}
theorem get_by {s : ByteArray} (h : s.data.toList[z]? = some c) : s.get! z = c := by
 obtain ⟨hlt, he⟩ := List.getElem?_eq_some_iff.1 h
 have hd : z < s.data.size := by simpa using hlt
 show s.data[z]! = c
 rw [getElem!_pos s.data z hd, ← he]; rfl
theorem decode_lo {s : ByteArray} (h : s.data.toList[z]? = some c) (hlt : c.toNat < 128) : Utf8.decode s z = (c.toNat, 1) := by
 have hg := get_by h
 unfold Utf8.decode
 simp only [Nat.add_zero, hg, hlt, if_true]
theorem decode_hi {s : ByteArray} (h : s.data.toList[z]? = some c) (hge : ¬ c.toNat < 128) : 128 ≤ (Utf8.decode s z).1 := by
 have hg := get_by h
 unfold Utf8.decode
 simp only [Nat.add_zero, hg, hge, if_false]
 repeat' split
 all_goals first | (simp only [Utf8.runeError]; omega) | (dsimp only; omega) | (simp only [Bool.and_eq_true, decide_eq_true_eq] at *; omega)
theorem and_facts {n : Int} (h0 : ¬ n < 0) (h1 : ¬ n > 15) : (andI n 3 == 0) = (n.tmod 4 == 0) ∧ (andI n 1 != 0) = (n.tmod 2 == 1) ∧ (andI n 2 != 0) = ((W (n.tdiv 2)).tmod 2 == 1) := by
 have h : n = 0 ∨ n = 1 ∨ n = 2 ∨ n = 3 ∨ n = 4 ∨ n = 5 ∨ n = 6 ∨ n = 7 ∨ n = 8 ∨ n = 9 ∨ n = 10 ∨ n = 11 ∨ n = 12 ∨ n = 13 ∨ n = 14 ∨ n = 15 := by omega
 rcases h with rfl | rfl | rfl | rfl | rfl | rfl | rfl | rfl | rfl | rfl | rfl | rfl | rfl | rfl | rfl | rfl <;> exact ⟨rfl, rfl, rfl⟩
set_option maxHeartbeats 4000000 in
theorem c228 (nm : ByteArray) : Pf Tryz.prog 228 [.str nm] (.tup [.d (.int .i64 (methR nm).1), .d (.str (methR nm).2.1), .d (.str (methR nm).2.2)]) := by
 refine pf_body (rvs := [.tmp 2, .tmp 3, .tmp 4]) [(0, .d (.str nm))] Tryz.func228 Tryz.ntmps228 Tryz.results228 (fun S0 O0 w0 m0 hm0 => ?_)
 refine Z318 ?_;refine Z1 ?_;refine Z373 ?_
 refine gN (tN (G_block (gS (gS (gR ?_)))))
 refine Z367 ?_
 refine gC ?_ ?_ <;> intro hb0
 ·
  refine Z127 ?_
  refine gC ?_ ?_ <;> intro hb1
  ·
   refine Z429 ?_
   exact ⟨by rw [oR hb0]; rfl, rfl⟩
  exact absurd (hb0.symm.trans hb1) (by decide)
 refine Z410 ?_
 refine gC ?_ ?_ <;> intro hb2
 ·
  refine Z127 ?_
  refine gC ?_ ?_ <;> intro hb3
  ·
   refine Z429 ?_
   exact ⟨by rw [oR hb2]; rfl, rfl⟩
  exact absurd (hb2.symm.trans hb3) (by decide)
 refine Z14 ?_;refine Z367 ?_
 refine gC ?_ ?_ <;> intro hb4
 ·
  refine Z429 ?_
  exact ⟨by rw [oR hb4]; rfl, rfl⟩
 refine Z410 ?_
 refine gC ?_ ?_ <;> intro hb5
 ·
  refine Z51 ?_;refine Z287 ?_;refine Z14 ?_;refine Z1 ?_;refine Z409 ?_
  exact ⟨by rw [oR hb5]; rfl, rfl⟩
 refine Z51 ?_;refine Z287 ?_;refine Z14 ?_;refine Z367 ?_
 refine gC ?_ ?_ <;> intro hb6
 ·
  refine Z429 ?_
  exact ⟨by rw [oR hb6]; rfl, rfl⟩
 refine Z44 ?_;refine Z367 ?_
 refine gC ?_ ?_ <;> intro hb7
 ·
  refine Z127 ?_
  refine gC ?_ ?_ <;> intro hb8
  ·
   refine Z429 ?_
   exact ⟨by rw [oR hb7]; rfl, rfl⟩
  exact absurd (hb7.symm.trans hb8) (by decide)
 refine Z410 ?_
 refine gC ?_ ?_ <;> intro hb9
 ·
  refine Z127 ?_
  refine gC ?_ ?_ <;> intro hb10
  ·
   refine Z429 ?_
   exact ⟨by rw [oR hb9]; rfl, rfl⟩
  exact absurd (hb9.symm.trans hb10) (by decide)
 refine Z14 ?_;refine Z367 ?_
 refine gC ?_ ?_ <;> intro hb11
 ·
  refine Z429 ?_
  exact ⟨by rw [oR hb11]; rfl, rfl⟩
 refine Z410 ?_
 refine gC ?_ ?_ <;> intro hb12
 ·
  refine Z429 ?_
  exact ⟨by rw [oR hb12]; rfl, rfl⟩
 refine Z44 ?_;refine Z367 ?_
 refine gC ?_ ?_ <;> intro hb13
 ·
  refine Z127 ?_
  refine gC ?_ ?_ <;> intro hb14
  ·
   refine Z51 ?_;refine Z287 ?_;refine Z14 ?_;refine Z1 ?_;refine Z409 ?_
   exact ⟨by rw [oR hb13]; rfl, rfl⟩
  exact absurd (hb13.symm.trans hb14) (by decide)
 refine Z287 ?_;refine Z14 ?_;refine Z367 ?_
 refine gC ?_ ?_ <;> intro hb15
 ·
  refine Z429 ?_
  exact ⟨by rw [oR hb15]; rfl, rfl⟩
 refine Z44 ?_;refine Z367 ?_
 refine gC ?_ ?_ <;> intro hb16
 ·
  refine Z127 ?_
  refine gC ?_ ?_ <;> intro hb17
  ·
   refine Z429 ?_
   exact ⟨by rw [oR hb16]; rfl, rfl⟩
  exact absurd (hb16.symm.trans hb17) (by decide)
 refine Z14 ?_;refine Z367 ?_
 refine gC ?_ ?_ <;> intro hb18
 ·
  refine Z429 ?_
  exact ⟨by rw [oR hb18]; rfl, rfl⟩
 refine Z410 ?_
 refine gC ?_ ?_ <;> intro hb19
 ·
  refine Z429 ?_
  exact ⟨by rw [oR hb19]; rfl, rfl⟩
 refine Z82 ?_;refine Z1 ?_;refine Z1 ?_;refine Z317 ?_
 have hnone : opTab.find? (fun x => decide (x.1 = nm)) = none := by
  rw [List.find?_eq_none]
  intro x hx
  simp only [opTab, List.mem_cons, List.not_mem_nil, or_false] at hx
  rcases hx with rfl | rfl | rfl | rfl | rfl | rfl | rfl | rfl | rfl | rfl | rfl | rfl | rfl | rfl <;> (simp only [decide_eq_true_eq]; intro e; subst e; simp at *)
 refine Z147 ?_
 exact ⟨by rw [methR, hnone], rfl⟩
set_option maxHeartbeats 1000000 in
theorem c175 (t : Tr) : Pf Tryz.prog 175 [t.d] (.d (.bool (typedB t))) := by
 obtain ⟨op, name, num, ks⟩ := t
 rw [Tr.d_mk]
 try simp only [Tr.op_mk, Tr.nm_mk, Tr.nu_mk, Tr.kids_mk]
 refine pf_body (rvs := [.tmp 2]) [(0, .d (.agg [.int .i64 op, .str name, .int .i64 num, .sl (ks.map Tr.d)]))] Tryz.func175 Tryz.ntmps175 Tryz.results175 (fun S0 O0 w0 m0 hm0 => ?_)
 refine Z404 ?_;refine Z323 ?_;refine Z56 ?_;refine Z337 ?_;refine Z176 ?_
 refine sg rfl (fun hg => sP 8 rfl hg q_neq) ?_
 refine Z28 ?_;refine Z391 ?_
 refine sg rfl (fun hg => sP 12 rfl hg (qL u22)) ?_
 refine sg rfl (fun hg => sP 13 rfl hg (q_len u22)) ?_
 refine sg rfl (fun hg => sP 14 rfl hg q_gtr) ?_
 refine Z333 ?_
 refine gC ?_ ?_ <;> intro hb0
 ·
  refine Z51 ?_;refine Z233 ?_;refine Z388 ?_
  exact ⟨by rw [typedB, show ((op == 30 && num == 0) && (ks.length : Int) == 0) = false from by (simp only [Bool.or_eq_true, bne_iff_ne, decide_eq_true_eq, List.length_map] at hb0; rw [Bool.eq_false_iff]; intro h; simp only [Bool.and_eq_true, beq_iff_eq, decide_eq_true_eq] at h; omega)]; rfl, rfl⟩
 have hp := pre_q name
 refine Z110 ?_;refine Z233 ?_;refine Z14 ?_;refine Z336 ?_;refine Z131 ?_;refine Z94 ?_;refine Z0 ?_;refine Z65 ?_
 refine sg rfl (fun hg => sP 22 rfl hg (qL u9)) ?_
 refine sg rfl (fun hg => sP 23 rfl hg (q_strindex u9 (h0 := by decide) (h1 := by simp at hg; omega))) ?_
 refine sg rfl (fun hg => sP 24 rfl hg q_eql) ?_
 refine Z369 ?_
 refine gC ?_ ?_ <;> intro hb1
 ·
  have hpt : preB name qmB = true := by rw [hp]; exact hb1
  have hle : (qmB.size : Int) ≤ name.size := by
   unfold preB at hpt
   rw [Bool.and_eq_true, decide_eq_true_eq] at hpt
   exact hpt.1
  refine Z3 ?_;refine Z336 ?_
  refine vq rfl ((q_strl u9 (h1 := by exact hle))) ?_
  refine gL (xs := [.tmp 29]) rfl (c174 _) ?_
  refine Z365 ?_
  exact ⟨by rw [typedB, show ((op == 30 && num == 0) && (ks.length : Int) == 0) = true from by (simp only [Bool.or_eq_false_iff, bne_eq_false_iff_eq, decide_eq_false_iff_not, List.length_map] at hb0; simp only [Bool.and_eq_true, beq_iff_eq, decide_eq_true_eq]; omega), trimB, if_pos hpt]; rfl, rfl⟩
 have hpf : preB name qmB = false := by rw [hp]; exact hb1
 refine Z46 ?_;refine Z336 ?_
 refine gL (xs := [.tmp 32]) rfl (c174 name) ?_
 refine Z320 ?_
 exact ⟨by rw [typedB, show ((op == 30 && num == 0) && (ks.length : Int) == 0) = true from by (simp only [Bool.or_eq_false_iff, bne_eq_false_iff_eq, decide_eq_false_iff_not, List.length_map] at hb0; simp only [Bool.and_eq_true, beq_iff_eq, decide_eq_true_eq]; omega), trimB, if_neg (by rw [hpf]; decide)]; rfl, rfl⟩
def textR : Tr → Bool
 | .mk _ name num ks => ((num == 0 && (ks.length : Int) == 0) && decide ((name.size : Int) ≤ 200)) && plainTx name
set_option maxHeartbeats 1000000 in
theorem c236 (t : Tr) : Pf Tryz.prog 236 [t.d] (.d (.bool (textR t))) := by
 obtain ⟨op, name, num, ks⟩ := t
 rw [Tr.d_mk]
 try simp only [Tr.op_mk, Tr.nm_mk, Tr.nu_mk, Tr.kids_mk]
 refine pf_body (rvs := [.tmp 2]) [(0, .d (.agg [.int .i64 op, .str name, .int .i64 num, .sl (ks.map Tr.d)]))] Tryz.func236 Tryz.ntmps236 Tryz.results236 (fun S0 O0 w0 m0 hm0 => ?_)
 refine Z404 ?_;refine Z323 ?_;refine Z56 ?_;refine Z391 ?_
 refine sg rfl (fun hg => sP 8 rfl hg (qL u22)) ?_
 refine sg rfl (fun hg => sP 9 rfl hg (q_len u22)) ?_
 refine sg rfl (fun hg => sP 10 rfl hg q_gtr) ?_
 refine Z422 ?_;refine Z65 ?_
 refine sg rfl (fun hg => sP 14 rfl hg (qL u9)) ?_
 refine sg rfl (fun hg => sP 15 rfl hg (q_lenstr u9)) ?_
 refine sg rfl (fun hg => sP 16 rfl hg q_gtr) ?_
 refine Z333 ?_
 refine gC ?_ ?_ <;> intro hb0
 ·
  refine Z405 ?_;refine Z388 ?_
  exact ⟨by rw [textR, show ((num == 0 && (ks.length : Int) == 0) && decide ((name.size : Int) ≤ 200)) = false from by (simp only [Bool.or_eq_true, bne_iff_ne, decide_eq_true_eq, List.length_map] at hb0; rw [Bool.eq_false_iff]; intro h; simp only [Bool.and_eq_true, beq_iff_eq, decide_eq_true_eq] at h; omega)]; rfl, rfl⟩
 have hn2 : (name.size : Int) ≤ 200 := by
  simp only [Bool.or_eq_false_iff, decide_eq_false_iff_not] at hb0
  omega
 refine Z110 ?_;refine Z92 ?_;refine Z14 ?_;refine Z357 ?_
 refine g_loop (α := Nat) (fun z => ⟨[(3, .d (.int .i64 (z : Nat))), (1, .d (.ptr (.agg [.int .i64 op, .str name, .int .i64 num, .sl (ks.map Tr.d)])))], []⟩) (fun z => name.size - z) (fun z => z ≤ name.size ∧ idxRune badR name z = idxRune badR name 0) 0 ⟨Nat.zero_le _, rfl⟩ (fun z hz Q' hn0 he0 hr0 => ?_) (le_of)
 obtain ⟨hz1, hz2⟩ := hz
 refine Z355 ?_;refine Z336 ?_;refine Z131 ?_;refine Z346 ?_
 refine gC ?_ ?_ <;> intro hb1
 ·
  have hlt : z < name.size := by
   have : (z : Int) < (name.size : Nat) := by simpa using hb1
   omega
  obtain ⟨c, hc⟩ : ∃ c, name.data.toList[z]? = some c := ⟨_, gE (by rw [bytes_len]; exact hlt)⟩
  have hcc := by_get hc
  refine Z26 ?_;refine Z336 ?_;refine Z0 ?_
  refine vq rfl ((q_strindex u9)) ?_
  refine Z34 ?_;refine Z0 ?_;refine Z65 ?_
  refine sg rfl (fun hg => sP 32 rfl hg (qL u9)) ?_
  refine Z18 ?_
  refine sg rfl (fun hg => sP 34 rfl hg (sP 33 rfl hg (q_strindex u9))) ?_
  refine sg rfl (fun hg => sP 35 rfl hg q_gtr) ?_
  refine Z333 ?_
  refine gC ?_ ?_ <;> intro hb2
  ·
   have hbr : badR (Utf8.decode name z).1 = true := by
    simp only [Int.toNat_natCast, hcc] at hb2
    by_cases h8 : c.toNat < 128
    · rw [decode_lo hc h8]; exact hb2
    · have := decode_hi hc h8
      unfold badR; rw [Bool.or_eq_true, decide_eq_true_eq, decide_eq_true_eq]; omega
   refine Z405 ?_;refine Z14 ?_;refine Z322 ?_;refine Z394 ?_
   exact ⟨by rw [textR, show ((num == 0 && (ks.length : Int) == 0) && decide ((name.size : Int) ≤ 200)) = true from by (simp only [Bool.or_eq_false_iff, bne_eq_false_iff_eq, decide_eq_false_iff_not, List.length_map] at hb0; simp only [Bool.and_eq_true, beq_iff_eq, decide_eq_true_eq]; omega), plainTx, ← hz2, idxRune_hit hlt hbr, decide_eq_true (by omega)]; rfl, rfl⟩
  have hb2' := hb2
  simp only [Int.toNat_natCast, hcc] at hb2'
  have hbr : badR ((c.toNat : Nat) : Int) = false := hb2'
  have h8 : c.toNat < 128 := by unfold badR at hbr; rw [Bool.or_eq_false_iff, decide_eq_false_iff_not, decide_eq_false_iff_not] at hbr; omega
  have hdc := decode_lo hc h8
  refine Z248 ?_;refine Z92 ?_;refine Z426 ?_
  refine hn0 _ (z + 1) ⟨by omega, by rw [← hz2]; have h := idxRune_miss (p := badR) hlt (by rw [hdc]; exact hbr); rw [hdc] at h; exact h⟩ (by omega) le_of
 have hge : ¬ z < name.size := by
  have : ¬ (z : Int) < (name.size : Nat) := by simpa using hb1
  omega
 refine Z419 ?_
 exact ⟨by rw [textR, show ((num == 0 && (ks.length : Int) == 0) && decide ((name.size : Int) ≤ 200)) = true from by (simp only [Bool.or_eq_false_iff, bne_eq_false_iff_eq, decide_eq_false_iff_not, List.length_map] at hb0; simp only [Bool.and_eq_true, beq_iff_eq, decide_eq_true_eq]; omega), plainTx, ← hz2, idxRune_end hge, decide_eq_false (by omega)]; rfl, rfl⟩
end
end Go.Proofs.YtklkbfpjimeaoaaGreat
