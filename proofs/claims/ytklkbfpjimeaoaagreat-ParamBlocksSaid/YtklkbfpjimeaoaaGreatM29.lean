import Derived.Test.YtklkbfpjimeaoaaGreatM21
import Derived.Test.YtklkbfpjimeaoaaGreatM28
/- Contracts of functions. Conditions: none. -/
set_option linter.unusedSimpArgs false
set_option linter.unusedVariables false
set_option maxRecDepth 20000
namespace Go.Proofs.YtklkbfpjimeaoaaGreat
open Go Go.Proofs.YtklkbfpjimeaoaaGreat.E
def isVarP (op num : Int) : Bool := op == 50 && andI num 8 != 0
def intTy : ByteArray := ⟨#[105, 110, 116]⟩
def boolTy : ByteArray := ⟨#[98, 111, 111, 108]⟩
def wantB (op : Int) : ByteArray := if (op == 2) = true then boolTy else intTy
def lastV (l : KL) (ks : List Tr) : Option Tr := match ks.getLast? with
 | some k => k.value l
 | none => none
def unfit (ks : List Tr) (v : Tr) : Bool := match ks with
 | [] => true
 | t :: _ => t.op != 30 || !decide (t.nm = wantB v.op)
def staticV (l : KL) : Tr → Option Tr
 | .mk _ _ num ks =>
  if (andI num 2 == 0) = true then none
  else match lastV l ks with
   | none => none
   | some v => if (andI num 1 == 0) = true then some v else if unfit ks v = true then none else some v
def part (vs : List (Option Tr)) : Int := 2 - nuV (v0 vs 0)
mutual
/-- A statement without params, or an error. -/
def Tr.fold : Tr → KL → Tr × Int
 | .mk op nm num ks, l =>
  if (op == 52 && isV (v0 (Tr.values l ks) 0) 2) = true then
   (if decide (part (Tr.values l ks) < ks.length) = true then
    (if (((Tr.kblocks ks l).getD (part (Tr.values l ks)).toNat ([], 0)).2 != 0) = true then (z0, ((Tr.kblocks ks l).getD (part (Tr.values l ks)).toNat ([], 0)).2) else (.mk 66 ⟨#[]⟩ 0 ((Tr.kblocks ks l).getD (part (Tr.values l ks)).toNat ([], 0)).1, 0))
    else (.mk 66 ⟨#[]⟩ 0 [], 0))
  else if (op == 66) = true then (.mk 66 ⟨#[]⟩ 0 (Tr.block ks l).1, (Tr.block ks l).2)
  else if ((Tr.bodies ks (if loopsB op num ks.length = true then bindK (ks.take num.toNat) l else l) (Tr.puts op num ks l 0 l ks)).2 != 0) = true then (z0, (Tr.bodies ks (if loopsB op num ks.length = true then bindK (ks.take num.toNat) l else l) (Tr.puts op num ks l 0 l ks)).2)
  else (.mk op nm num (Tr.bodies ks (if loopsB op num ks.length = true then bindK (ks.take num.toNat) l else l) (Tr.puts op num ks l 0 l ks)).1, 0)
def Tr.kblock : Tr → KL → List Tr × Int
 | .mk _ _ _ ks, l => Tr.block ks l
def Tr.kblocks : List Tr → KL → List (List Tr × Int)
 | [], _ => []
 | k :: r, l => k.kblock l :: Tr.kblocks r l
/-- The Kids of a statement, those that are blocks folded. -/
def Tr.bodies : List Tr → KL → List Tr → List Tr × Int
 | [], _, _ => ([], 0)
 | k :: r, l, ps =>
  if (k.op != 66) = true then (ps.headD z0 :: (Tr.bodies r l ps.tail).1, (Tr.bodies r l ps.tail).2)
  else if ((k.kblock l).2 != 0) = true then ([], (k.kblock l).2)
  else (.mk 66 ⟨#[]⟩ 0 (k.kblock l).1 :: (Tr.bodies r l ps.tail).1, (Tr.bodies r l ps.tail).2)
def Tr.block : List Tr → KL → List Tr × Int
 | [], _ => ([], 0)
 | t :: r, l =>
  if isVarP t.op t.nu = true then (match staticV l t with
   | none => ([], 140)
   | some v => Tr.block r ((t.nm, some v) :: l))
  else if ((t.fold l).2 != 0) = true then ([], (t.fold l).2)
  else if ((Tr.block r (hideV t l)).2 != 0) = true then ([], (Tr.block r (hideV t l)).2)
  else ((t.fold l).1 :: (Tr.block r (hideV t l)).1, 0)
end
theorem var_facts {nm : ByteArray} {num : Int} {ks : List Tr} (h : (Tr.mk 50 nm num ks).shaped = true) : 0 ≤ num ∧ num ≤ 15 ∧ (andI num 2 ≠ 0 → ∃ pre k, ks = pre ++ [k] ∧ isExprB k.op = true) ∧ (andI num 1 ≠ 0 → ∃ t r, ks = t :: r) := by
 have h1 := (Tr.shaped_mk h).1
 have h2 : varB (.mk 50 nm num ks) = true := by
  rw [rightB, if_pos (show (otherB (.mk 50 nm num ks)).2 = true from rfl)] at h1
  exact h1
 rw [varB] at h2
 split at h2
 · cases h2
 · rename_i h3
   simp only [Bool.or_eq_true, Bool.not_eq_true', decide_eq_true_eq, beq_iff_eq, not_or] at h3
   refine ⟨by omega, by omega, fun hn => ?_, fun hn => ?_⟩
   · have tail : ∀ l : List Tr, varTail num l = true → ∃ k, l = [k] ∧ isExprB k.op = true := fun l hl => by
      unfold varTail at hl
      rw [if_pos (by simpa using hn)] at hl
      match l, hl with
      | [k], hl => exact ⟨k, rfl, by simpa using hl⟩
      | _ :: _ :: _, hl => simp at hl; omega
     split at h2
     · match ks, h2 with
       | k :: r, h2 =>
        unfold varTy at h2
        obtain ⟨x, hx, hx2⟩ := tail r (Bool.and_eq_true_iff.1 h2).2
        exact ⟨[k], x, by rw [hx]; rfl, hx2⟩
     · obtain ⟨x, hx, hx2⟩ := tail ks h2
       exact ⟨[], x, hx, hx2⟩
   · rw [if_pos (by simpa using hn)] at h2
     match ks, h2 with
     | k :: r, _ => exact ⟨k, r, rfl⟩
theorem andI_bits {n : Int} (h : 0 ≤ n ∧ n ≤ 15) : (andI n 2 = 0 ↔ n / 2 % 2 = 0) ∧ (andI n 1 = 0 ↔ n % 2 = 0) ∧ (andI n 8 = 0 ↔ n / 8 % 2 = 0) := by
 have : n = 0 ∨ n = 1 ∨ n = 2 ∨ n = 3 ∨ n = 4 ∨ n = 5 ∨ n = 6 ∨ n = 7 ∨ n = 8 ∨ n = 9 ∨ n = 10 ∨ n = 11 ∨ n = 12 ∨ n = 13 ∨ n = 14 ∨ n = 15 := by omega
 rcases this with rfl | rfl | rfl | rfl | rfl | rfl | rfl | rfl | rfl | rfl | rfl | rfl | rfl | rfl | rfl | rfl <;> decide
theorem lastV_app (l : KL) (pre : List Tr) (k : Tr) : lastV l (pre ++ [k]) = k.value l := by
 unfold lastV
 rw [List.getLast?_append]
 rfl
variable {l : KL}
theorem KOk.klens (h : KOk l) : KLens l := fun x hx t ht => (h x hx t ht).lens
theorem KOk.okT (h : KOk l) : KOkT l := fun x hx t ht => (h x hx t ht).okT
theorem KOk.cons (h : KOk l) (nm : ByteArray) {v : Tr} (hv : ValOk v) : KOk ((nm, some v) :: l) := fun x hx t ht => by
 rcases List.mem_cons.1 hx with rfl | hx
 · injection ht with ht; subst ht; exact hv
 · exact h x hx t ht
theorem KOk.hide (h : KOk l) (nm : ByteArray) : KOk (hideK nm l) := fun x hx t ht => by
 rcases List.mem_cons.1 hx with rfl | hx
 · cases ht
 · exact h x hx t ht
theorem KOk.hideV (h : KOk l) (k : Tr) : KOk (hideV k l) := by
 unfold Go.Proofs.YtklkbfpjimeaoaaGreat.hideV
 split
 · exact h.hide _
 · exact h
theorem KOk.bind : ∀ (ks : List Tr) {l : KL}, KOk l → KOk (bindK ks l)
 | [], l, h => h
 | k :: r, l, h => by
  show KOk (bindK r (hideK k.nm l))
  exact KOk.bind r (h.hide _)
theorem static_ok (hl : KOk l) {nm : ByteArray} {num : Int} {ks : List Tr} (hok : (Tr.mk 50 nm num ks).Ok) (hsh : (Tr.mk 50 nm num ks).shaped = true) {v : Tr} (h : staticV l (.mk 50 nm num ks) = some v) : ValOk v := by
 rw [staticV] at h
 split at h
 · cases h
 · rename_i h1
   obtain ⟨pre, k, rfl, _⟩ := (var_facts hsh).2.2.1 (by simpa using h1)
   rw [lastV_app] at h
   have hv : ∀ v, k.value l = some v → ValOk v := value_ok l hl _ k (Nat.le_refl _) (Tr.kids_ok hok k (by simp [Tr.kids])) ((Tr.shaped_mk hsh).2 k (by simp))
   cases hk : k.value l with
   | none => rw [hk] at h; cases h
   | some u =>
    rw [hk] at h
    dsimp only at h
    split at h
    · injection h with h; subst h; exact hv u hk
    · split at h
      · cases h
      · injection h with h; subst h; exact hv u hk
set_option maxHeartbeats 4000000 in
theorem c131 (l : KL) (hl : KOk l) (name : ByteArray) (num : Int) (ks : List Tr) (hok : (Tr.mk 50 name num ks).Ok) (hsh : (Tr.mk 50 name num ks).shaped = true) : Pf Tryz.prog 131 [.agg [.int .i64 50, .str name, .int .i64 num, .sl (ks.map Tr.d)], knD l] (.d (valD (staticV l (Tr.mk 50 name num ks)))) := by
 refine pf_body (rvs := [.tmp 4]) [(0, .d (.agg [.int .i64 50, .str name, .int .i64 num, .sl (ks.map Tr.d)])), (1, .d (knD l))] Tryz.func131 Tryz.ntmps131 Tryz.results131 (fun S0 O0 w0 m0 hm0 => ?_)
 refine Z202 ?_
 refine gF 0 [] (.agg [.int .i64 50, .str name, .int .i64 num, .sl (ks.map Tr.d)]) rfl ?_
 refine Z271 ?_
 refine vq rfl (q_bits (show _ = pure (Value.int .i64 (andI _ _)) from rfl)) ?_
 refine Z272 ?_
 refine gC (fun hb0 => ?_) (fun hb0 => ?_)
 ·
  refine Z264 ?_
  exact ⟨by rw [staticV, if_pos hb0]; rfl, rfl⟩
 obtain ⟨f0, f1, f2, f3⟩ := var_facts hsh
 obtain ⟨pre, k, hke, _⟩ := f2 (by simpa using hb0)
 have hln := Tr.kids_len hok
 replace hln : ks.length ≤ 140737488355328 := hln
 have hpl : ks.length = pre.length + 1 := by rw [hke]; simp
 obtain ⟨kop, knm, knu, kks, hka⟩ := k.d_agg
 have hkx : (ks.map Tr.d)[pre.length]? = some (.agg [.int .i64 kop, .str knm, .int .i64 knu, .sl (kks.map Tr.d)]) := by rw [← hka, hke, List.map_append, List.getElem?_append_right (by simp)]; simp
 have hkm : k ∈ ks := by rw [hke]; simp
 have hkok := Tr.kids_ok hok k hkm
 have hksh := (Tr.shaped_mk hsh).2 k hkm
 have hlv : lastV l ks = k.value l := by rw [hke, lastV_app]
 refine Z45 ?_;refine Z203 ?_;refine Z236 ?_
 rw [show (((ks.map Tr.d).length : Nat) : Int) = (pre.length : Int) + 1 from by rw [List.length_map, hpl]; rfl]
 refine vq rfl (q_sub (hw := (show IntKind.i64.wrap ((pre.length : Int) + 1 - 1) = (pre.length : Int) from by rw [show (pre.length : Int) + 1 - 1 = pre.length from by omega]; exact wrap_i64 (by omega) (by omega)))) ?_
 refine vq rfl (qI u22 sz27 (h0 := by omega) (hd := by rw [show ((pre.length : Int)).toNat = pre.length from Int.toNat_natCast _]; exact hkx)) ?_
 refine Z11 ?_;refine Z1 ?_
 refine gL (xs := [.tmp 19, .tmp 20]) rfl ((hka ▸ c104 l hl k hkok hksh)) ?_
 refine Z289 ?_
 rcases hv : k.value l with _ | v
 ·
  refine Z89 ?_;refine Z4 ?_
  rw [valD]
  refine Z1 ?_;refine Z150 ?_;refine Z206 ?_;refine Z189 ?_
  refine sg rfl (fun hg => sP 26 rfl hg (q_bits (show _ = pure (Value.int .i64 (andI _ _)) from rfl))) ?_
  refine Z140 ?_;refine Z209 ?_
  refine gC (fun hb1 => ?_) (fun hb1 => ?_)
  ·
   refine Z220 ?_;refine Z214 ?_
   exact ⟨by rw [staticV, if_neg (by rw [hb0]; decide), hlv, hv]; rfl, rfl⟩
  exact absurd hb1 (by simp)
 refine Z89 ?_;refine Z4 ?_
 rw [valD, v.d_eta]
 refine Z1 ?_;refine Z150 ?_;refine Z206 ?_;refine Z189 ?_
 refine sg rfl (fun hg => sP 26 rfl hg (q_bits (show _ = pure (Value.int .i64 (andI _ _)) from rfl))) ?_
 refine Z140 ?_;refine Z209 ?_
 refine gC (fun hb2 => ?_) (fun hb2 => ?_)
 ·
  refine Z220 ?_;refine Z214 ?_
  exact ⟨by rw [staticV, if_neg (by rw [hb0]; decide), hlv, hv]; dsimp only; rw [if_pos (by simpa using hb2), valD, v.d_eta], rfl⟩
 obtain ⟨t0, r0, hks⟩ := f3 (by simpa using hb2)
 obtain ⟨top, tnm, tnu, tks, hta⟩ := t0.d_agg
 have htx : (ks.map Tr.d)[0]? = some (.agg [.int .i64 top, .str tnm, .int .i64 tnu, .sl (tks.map Tr.d)]) := by rw [← hta, hks]; rfl
 have hte : t0.op = top ∧ t0.nm = tnm := by obtain ⟨a, b, c, d⟩ := t0; rw [Tr.d_mk] at hta; injection hta with hta; injection hta with h1 hta; injection hta with h2 hta; injection h1 with _ h1; injection h2 with h2; exact ⟨h1, h2⟩
 refine Z45 ?_;refine Z196 ?_
 refine G_seq_cut (α := ByteArray) (fun s => ⟨[(2, .d (.ptr (.agg [.int .i64 50, .str name, .int .i64 num, .sl (ks.map Tr.d)]))), (5, .d (.ptr (.agg [.int .i64 v.op, .str v.nm, .int .i64 v.nu, .sl (v.kids.map Tr.d)]))), (6, .d (.str s))], []⟩) (fun s => s = wantB v.op) (fun Q' hn he hr => ?_) (fun s hs => ?_)
 ·
  refine Z220 ?_
  refine sv rfl y_nilCheck ?_
  refine Z268 ?_
  refine gC (fun hb3 => ?_) (fun hb3 => ?_)
  ·
   refine Z89 ?_;refine Z4 ?_;refine Z210 ?_
   refine hn _ boolTy (by rw [wantB, if_pos hb3]) le_of
  refine Z69 ?_
  refine hn _ intTy (by rw [wantB, if_neg (by rw [hb3]; decide)]) le_of
 skip
 refine Z145 ?_;refine Z89 ?_;refine Z4 ?_;refine Z246 ?_;refine Z218 ?_;refine Z7 ?_;refine Z186 ?_;refine Z47 ?_;refine Z46 ?_;refine Z1 ?_
 refine sg rfl (fun hg => q_fieldAddr u27 rfl sz9) ?_
 refine sg rfl (fun hg => sP 44 rfl hg (qO u9)) ?_
 refine Z21 ?_
 refine sg rfl (fun hg => sP 46 rfl hg (sP 45 rfl hg q_strne)) ?_
 refine Z209 ?_
 refine gC (fun hb4 => ?_) (fun hb4 => ?_)
 ·
  refine Z15 ?_;refine Z89 ?_;refine Z247 ?_
  exact ⟨by rw [staticV, if_neg (by rw [hb0]; decide), hlv, hv]; dsimp only; rw [if_neg (by simpa using hb2), if_pos (by rw [hks, unfit, hte.1, hte.2, ← hs]; exact hb4)]; rfl, rfl⟩
 refine Z43 ?_;refine Z89 ?_;refine Z208 ?_;refine Z195 ?_
 exact ⟨by rw [staticV, if_neg (by rw [hb0]; decide), hlv, hv]; dsimp only; rw [if_neg (by simpa using hb2), if_neg (by rw [hks, unfit, hte.1, hte.2, ← hs]; rw [show (top != 30 || !decide (tnm = s)) = false from hb4]; decide), valD, v.d_eta], rfl⟩
def paramO (nm : ByteArray) : Option Tr → (ByteArray × Tr) × Int
 | none => ((⟨#[]⟩, z0), 140)
 | some v => ((nm, v), 0)
theorem cD_mk (nm : ByteArray) (op : Int) (n : ByteArray) (num : Int) (ks : List Tr) : cD (nm, .mk op n num ks) = .agg [.str nm, .int .i64 op, .str n, .int .i64 num, .sl (ks.map Tr.d)] := by unfold cD; rw [Tr.d_mk]; rfl
set_option maxHeartbeats 8000000 in
theorem c134 (l : List (ByteArray × Tr)) (hl : COk l) (hK : KOk (kl l)) (name : ByteArray) (num : Int) (ks : List Tr) (hok : (Tr.mk 50 name num ks).Ok) (hsh : (Tr.mk 50 name num ks).shaped = true) : Pf Tryz.prog 134 [.agg [.int .i64 50, .str name, .int .i64 num, .sl (ks.map Tr.d)], .sl (l.map cD)] (.tup [.d (cD (paramO name (staticV (kl l) (Tr.mk 50 name num ks))).1), .d (.int .i64 (paramO name (staticV (kl l) (Tr.mk 50 name num ks))).2)]) := by
 refine pf_body (rvs := [.cell 4 59, .tmp 5]) [(0, .d (.agg [.int .i64 50, .str name, .int .i64 num, .sl (ks.map Tr.d)])), (1, .d (.sl (l.map cD)))] Tryz.func134 Tryz.ntmps134 Tryz.results134 (fun S0 O0 w0 m0 hm0 => ?_)
 refine Z2 ?_
 obtain ⟨f0, f1, f2, f3⟩ := var_facts hsh
 obtain ⟨a2, a1, _⟩ := andI_bits ⟨f0, f1⟩
 refine Z18 ?_
 refine gF 0 [] (.agg [.int .i64 50, .str name, .int .i64 num, .sl (ks.map Tr.d)]) rfl ?_
 refine Z191 ?_;refine Z271 ?_
 refine vq rfl (q_quo (show (2 : Int) ≠ 0 by decide) (show IntKind.i64.wrap (num.tdiv 2) = num / 2 from by rw [Int.tdiv_eq_ediv_of_nonneg (by omega)]; exact wrap_i64 (by omega) (by omega))) ?_
 refine vq rfl (q_rem (show (2 : Int) ≠ 0 by decide) (show (num / 2).tmod 2 = num / 2 % 2 from Int.tmod_eq_emod_of_nonneg (by omega))) ?_
 refine Z272 ?_
 refine gC (fun hb0 => ?_) (fun hb0 => ?_)
 ·
  have hs0 : (andI num 2 == 0) = true := by rw [beq_iff_eq]; exact a2.2 (by simpa using hb0)
  refine Z2 ?_;refine Z119 ?_;refine Z101 ?_;refine Z200 ?_
  refine fincd sz59 u59 (by simp) ?_
  exact ⟨by rw [show staticV (kl l) (Tr.mk 50 name num ks) = none from by rw [staticV, if_pos hs0]]; dsimp only [paramO]; rw [show cD (⟨#[]⟩, z0) = _ from cD_mk _ _ _ _ _]; rfl, rfl⟩
 have hs0 : (andI num 2 == 0) = false := by rw [beq_eq_false_iff_ne]; intro h; exact absurd (a2.1 h) (by simpa using hb0)
 obtain ⟨pre, k, hke, _⟩ := f2 (by simpa using hs0)
 have hln := Tr.kids_len hok
 replace hln : ks.length ≤ 140737488355328 := hln
 have hpl : ks.length = pre.length + 1 := by rw [hke]; simp
 obtain ⟨kop, knm, knu, kks, hka⟩ := k.d_agg
 have hkx : (ks.map Tr.d)[pre.length]? = some (.agg [.int .i64 kop, .str knm, .int .i64 knu, .sl (kks.map Tr.d)]) := by rw [← hka, hke, List.map_append, List.getElem?_append_right (by simp)]; simp
 have hkm : k ∈ ks := by rw [hke]; simp
 have hkok := Tr.kids_ok hok k hkm
 have hksh := (Tr.shaped_mk hsh).2 k hkm
 have hlv : lastV (kl l) ks = k.value (kl l) := by rw [hke, lastV_app]
 obtain ⟨⟨⟨⟨xop, xnm, xnu, xks⟩, xb⟩, hxv, q0⟩, _, _⟩ := c108n l hl hK _ k (Nat.le_refl _) hkok hksh
 dsimp only at q0
 rw [Tr.d_mk] at q0
 refine Z45 ?_;refine Z203 ?_;refine Z236 ?_
 rw [show (((ks.map Tr.d).length : Nat) : Int) = (pre.length : Int) + 1 from by rw [List.length_map, hpl]; rfl]
 refine vq rfl (q_sub (hw := (show IntKind.i64.wrap ((pre.length : Int) + 1 - 1) = (pre.length : Int) from by rw [show (pre.length : Int) + 1 - 1 = pre.length from by omega]; exact wrap_i64 (by omega) (by omega)))) ?_
 refine vq rfl (qI u22 sz27 (h0 := by omega) (hd := by rw [show ((pre.length : Int)).toNat = pre.length from Int.toNat_natCast _]; exact hkx)) ?_
 refine Z11 ?_;refine Z218 ?_
 refine gF 1 [[.d (.str ⟨#[]⟩), .d (.int .i64 0), .d (.str ⟨#[]⟩), .d (.int .i64 0), .nils]] (.agg [.int .i64 kop, .str knm, .int .i64 knu, .sl (kks.map Tr.d)]) rfl ?_
 refine Z30 ?_;refine Z120 ?_;refine Z262 ?_;refine Z1 ?_
 refine gL (xs := [.tmp 25, .tmp 26]) rfl ((hka ▸ q0)) ?_
 refine Z283 ?_;refine Z219 ?_;refine Z248 ?_
 refine gC (fun hb1 => ?_) (fun hb1 => ?_)
 ·
  have hxb : xb = false := by simpa using hb1
  have hvk : k.value (kl l) = none := by rw [← hxv, hxb]; rfl
  refine Z2 ?_;refine Z119 ?_;refine Z101 ?_;refine Z200 ?_
  refine fincd sz59 u59 (by simp) ?_
  exact ⟨by rw [show staticV (kl l) (Tr.mk 50 name num ks) = none from by rw [staticV, if_neg (by rw [hs0]; decide), hlv, hvk]]; dsimp only [paramO]; rw [show cD (⟨#[]⟩, z0) = _ from cD_mk _ _ _ _ _]; rfl, rfl⟩
 have hxb : xb = true := by simpa using hb1
 have hvk : k.value (kl l) = some (Tr.mk xop xnm xnu xks) := by rw [← hxv, hxb]; rfl
 have hvo : ValOk (Tr.mk xop xnm xnu xks) := value_ok (kl l) hK _ k (Nat.le_refl _) hkok hksh _ hvk
 have hx12 : xop = 1 ∨ xop = 2 := by
  rcases hvo with ⟨n, _, h⟩ | ⟨b, h⟩
  · injection h with h; exact .inl h
  · injection h with h; exact .inr h
 refine Z58 ?_;refine Z199 ?_
 refine vq rfl (q_rem (show (2 : Int) ≠ 0 by decide) (show num.tmod 2 = num % 2 from Int.tmod_eq_emod_of_nonneg (by omega))) ?_
 refine Z272 ?_
 refine gC (fun hb2 => ?_) (fun hb2 => ?_)
 ·
  have hs1 : (andI num 1 == 0) = false := by
   rw [beq_eq_false_iff_ne]
   intro h
   have h1 := a1.1 h
   have h2 : num % 2 = 1 := by simpa using hb2
   omega
  obtain ⟨t0, r0, hks⟩ := f3 (by simpa using hs1)
  obtain ⟨top, tnm, tnu, tks, hta⟩ := t0.d_agg
  have htx : (ks.map Tr.d)[0]? = some (.agg [.int .i64 top, .str tnm, .int .i64 tnu, .sl (tks.map Tr.d)]) := by rw [← hta, hks]; rfl
  have hte : t0.op = top ∧ t0.nm = tnm := by obtain ⟨a, b, c, d⟩ := t0; rw [Tr.d_mk] at hta; injection hta with hta; injection hta with h1 hta; injection hta with h2 hta; injection h1 with _ h1; injection h2 with h2; exact ⟨h1, h2⟩
  have h3 : ((top != 30) = false ∧ xop = 1) ∨ ((top != 30) = false ∧ xop = 2) ∨ (top != 30) = true := by
   cases hq : (top != 30) with
   | false =>
    rcases hx12 with h | h
    · exact .inl ⟨rfl, h⟩
    · exact .inr (.inl ⟨rfl, h⟩)
   | true => exact .inr (.inr rfl)
  refine Z15 ?_;refine Z120 ?_;refine Z4 ?_;refine Z246 ?_;refine Z218 ?_
  refine gF 2 [[.d (.str ⟨#[]⟩), .d (.int .i64 0), .d (.str ⟨#[]⟩), .d (.int .i64 0), .nils], [.d (.int .i64 xop), .d (.str xnm), .d (.int .i64 xnu), .d (.sl (xks.map Tr.d))]] (.agg [.int .i64 top, .str tnm, .int .i64 tnu, .sl (tks.map Tr.d)]) rfl ?_
  refine Z30 ?_
  rcases h3 with ⟨hq, rfl⟩ | ⟨hq, rfl⟩ | hq
  ·
   refine g_cg0 [41, 42, 43, 44, 45, 46, 47, 48, 49, 50, 51, 52, 53] ?_
   refine Z12 ?_
   refine cS 1 (fun bq rest hc1 hc2 hc3 => vq rfl (qF u27 rfl sz3) (gN ⟨rfl, rfl⟩)) ?_
   refine Z76 ?_
   refine cS 2 (fun bq rest hc1 hc2 hc3 => vq rfl (qL u3) (gN ⟨rfl, rfl⟩)) ?_
   refine Z63 ?_
   refine cS 3 (fun bq rest hc1 hc2 hc3 => vq rfl q_neq (gN ⟨rfl, rfl⟩)) ?_
   rw [hq]
   refine Z59 ?_
   refine cS 4 (fun bq rest hc1 hc2 hc3 => vq rfl qM (gN ⟨rfl, rfl⟩)) ?_
   refine Z57 ?_
   refine cS 5 (fun bq rest hc1 hc2 hc3 => sgo rfl (by rfl) (y_fieldp_leaf u27 rfl sz9) (gN ⟨rfl, rfl⟩)) ?_
   refine cP [4, 3] ?_
   refine cS 6 (fun bq rest hc1 hc2 hc3 => sgo rfl (by rfl) (y_loadp_leaf u9) (gN ⟨rfl, rfl⟩)) ?_
   refine Z57 ?_
   refine cS 7 (fun bq rest hc1 hc2 hc3 => sgo rfl (by rfl) (y_buildSlice (xs := [.const (.string ⟨#[]⟩), .const (.string ⟨#[105, 110, 116]⟩), .const (.string ⟨#[98, 111, 111, 108]⟩)]) u63 inf9) (gN ⟨rfl, rfl⟩)) ?_
   refine Z57 ?_
   refine cS 8 (fun bq rest hc1 hc2 hc3 => sgo rfl (by rfl) (y_fieldAddr u27 rfl sz3) (gN ⟨rfl, rfl⟩)) ?_
   refine cP [7, 3] ?_
   refine cS 9 (fun bq rest hc1 hc2 hc3 => sgo rfl (by rfl) (y_load_leaf u3) (gN ⟨rfl, rfl⟩)) ?_
   refine cP [6, 8, 3] ?_
   refine cS 10 (fun bq rest hc1 hc2 hc3 => sgo rfl (by rfl) (y_indexAddr u63 sz9) (gN ⟨rfl, rfl⟩)) ?_
   refine cP [9, 3] ?_
   refine cS 11 (fun bq rest hc1 hc2 hc3 => sgo rfl (by rfl) (y_loadp_leaf u9) (gN ⟨rfl, rfl⟩)) ?_
   refine cP [5, 10, 3] ?_
   refine cS 12 (fun bq rest hc1 hc2 hc3 => sgo rfl (by rfl) y_strne (gN ⟨rfl, rfl⟩)) ?_
   refine cP [3, 11] ?_
   refine cS 13 (fun bq rest hc1 hc2 hc3 => vq rfl q_or (gN ⟨rfl, rfl⟩)) ?_
   refine Z53 ?_;refine Z123 ?_
   refine gC (fun hb3 => ?_) (fun hb3 => ?_)
   ·
    refine Z15 ?_;refine Z120 ?_;refine Z4 ?_;refine Z119 ?_;refine Z101 ?_;refine Z200 ?_
    refine fincd sz59 u59 (by simp) ?_
    exact ⟨by rw [show staticV (kl l) (Tr.mk 50 name num ks) = none from by rw [staticV, if_neg (by rw [hs0]; decide), hlv, hvk]; dsimp only; rw [if_neg (by rw [hs1]; decide), if_pos (by rw [hks, unfit, hte.1, hte.2, hq]; exact hb3)]]; dsimp only [paramO]; rw [show cD (⟨#[]⟩, z0) = _ from cD_mk _ _ _ _ _]; rfl, rfl⟩
   refine Z43 ?_;refine Z120 ?_;refine Z4 ?_;refine Z212 ?_;refine Z56 ?_;refine Z119 ?_;refine Z101 ?_;refine Z193 ?_
   refine fincd sz59 u59 (by simp) ?_
   exact ⟨by rw [show staticV (kl l) (Tr.mk 50 name num ks) = some (Tr.mk 1 xnm xnu xks) from by rw [staticV, if_neg (by rw [hs0]; decide), hlv, hvk]; dsimp only; rw [if_neg (by rw [hs1]; decide), if_neg (by rw [hks, unfit, hte.1, hte.2, hq]; intro h; exact absurd (h.symm.trans hb3) (by decide))]]; dsimp only [paramO]; rw [show cD (name, (Tr.mk 1 xnm xnu xks)) = _ from cD_mk _ _ _ _ _], rfl⟩
  ·
   refine g_cg0 [41, 42, 43, 44, 45, 46, 47, 48, 49, 50, 51, 52, 53] ?_
   refine Z12 ?_
   refine cS 1 (fun bq rest hc1 hc2 hc3 => vq rfl (qF u27 rfl sz3) (gN ⟨rfl, rfl⟩)) ?_
   refine Z76 ?_
   refine cS 2 (fun bq rest hc1 hc2 hc3 => vq rfl (qL u3) (gN ⟨rfl, rfl⟩)) ?_
   refine Z63 ?_
   refine cS 3 (fun bq rest hc1 hc2 hc3 => vq rfl q_neq (gN ⟨rfl, rfl⟩)) ?_
   rw [hq]
   refine Z59 ?_
   refine cS 4 (fun bq rest hc1 hc2 hc3 => vq rfl qM (gN ⟨rfl, rfl⟩)) ?_
   refine Z57 ?_
   refine cS 5 (fun bq rest hc1 hc2 hc3 => sgo rfl (by rfl) (y_fieldp_leaf u27 rfl sz9) (gN ⟨rfl, rfl⟩)) ?_
   refine cP [4, 3] ?_
   refine cS 6 (fun bq rest hc1 hc2 hc3 => sgo rfl (by rfl) (y_loadp_leaf u9) (gN ⟨rfl, rfl⟩)) ?_
   refine Z57 ?_
   refine cS 7 (fun bq rest hc1 hc2 hc3 => sgo rfl (by rfl) (y_buildSlice (xs := [.const (.string ⟨#[]⟩), .const (.string ⟨#[105, 110, 116]⟩), .const (.string ⟨#[98, 111, 111, 108]⟩)]) u63 inf9) (gN ⟨rfl, rfl⟩)) ?_
   refine Z57 ?_
   refine cS 8 (fun bq rest hc1 hc2 hc3 => sgo rfl (by rfl) (y_fieldAddr u27 rfl sz3) (gN ⟨rfl, rfl⟩)) ?_
   refine cP [7, 3] ?_
   refine cS 9 (fun bq rest hc1 hc2 hc3 => sgo rfl (by rfl) (y_load_leaf u3) (gN ⟨rfl, rfl⟩)) ?_
   refine cP [6, 8, 3] ?_
   refine cS 10 (fun bq rest hc1 hc2 hc3 => sgo rfl (by rfl) (y_indexAddr u63 sz9) (gN ⟨rfl, rfl⟩)) ?_
   refine cP [9, 3] ?_
   refine cS 11 (fun bq rest hc1 hc2 hc3 => sgo rfl (by rfl) (y_loadp_leaf u9) (gN ⟨rfl, rfl⟩)) ?_
   refine cP [5, 10, 3] ?_
   refine cS 12 (fun bq rest hc1 hc2 hc3 => sgo rfl (by rfl) y_strne (gN ⟨rfl, rfl⟩)) ?_
   refine cP [3, 11] ?_
   refine cS 13 (fun bq rest hc1 hc2 hc3 => vq rfl q_or (gN ⟨rfl, rfl⟩)) ?_
   refine Z53 ?_;refine Z123 ?_
   refine gC (fun hb4 => ?_) (fun hb4 => ?_)
   ·
    refine Z15 ?_;refine Z120 ?_;refine Z4 ?_;refine Z119 ?_;refine Z101 ?_;refine Z200 ?_
    refine fincd sz59 u59 (by simp) ?_
    exact ⟨by rw [show staticV (kl l) (Tr.mk 50 name num ks) = none from by rw [staticV, if_neg (by rw [hs0]; decide), hlv, hvk]; dsimp only; rw [if_neg (by rw [hs1]; decide), if_pos (by rw [hks, unfit, hte.1, hte.2, hq]; exact hb4)]]; dsimp only [paramO]; rw [show cD (⟨#[]⟩, z0) = _ from cD_mk _ _ _ _ _]; rfl, rfl⟩
   refine Z43 ?_;refine Z120 ?_;refine Z4 ?_;refine Z212 ?_;refine Z56 ?_;refine Z119 ?_;refine Z101 ?_;refine Z193 ?_
   refine fincd sz59 u59 (by simp) ?_
   exact ⟨by rw [show staticV (kl l) (Tr.mk 50 name num ks) = some (Tr.mk 2 xnm xnu xks) from by rw [staticV, if_neg (by rw [hs0]; decide), hlv, hvk]; dsimp only; rw [if_neg (by rw [hs1]; decide), if_neg (by rw [hks, unfit, hte.1, hte.2, hq]; intro h; exact absurd (h.symm.trans hb4) (by decide))]]; dsimp only [paramO]; rw [show cD (name, (Tr.mk 2 xnm xnu xks)) = _ from cD_mk _ _ _ _ _], rfl⟩
  refine g_cg0 [41, 42, 43, 44, 45, 46, 47, 48, 49, 50, 51, 52, 53] ?_
  refine Z12 ?_
  refine cS 1 (fun bq rest hc1 hc2 hc3 => vq rfl (qF u27 rfl sz3) (gN ⟨rfl, rfl⟩)) ?_
  refine Z76 ?_
  refine cS 2 (fun bq rest hc1 hc2 hc3 => vq rfl (qL u3) (gN ⟨rfl, rfl⟩)) ?_
  refine Z63 ?_
  refine cS 3 (fun bq rest hc1 hc2 hc3 => vq rfl q_neq (gN ⟨rfl, rfl⟩)) ?_
  rw [hq]
  refine Z59 ?_
  refine cS 4 (fun bq rest hc1 hc2 hc3 => vq rfl qM (gN ⟨rfl, rfl⟩)) ?_
  refine Z57 ?_
  refine cS 5 (fun bq rest hc1 hc2 hc3 => sgx rfl (by rfl) (gN ⟨rfl, rfl⟩)) ?_
  refine cP [4, 3] ?_
  refine cS 6 (fun bq rest hc1 hc2 hc3 => sgx rfl (by rfl) (gN ⟨rfl, rfl⟩)) ?_
  refine Z57 ?_
  refine cS 7 (fun bq rest hc1 hc2 hc3 => sgx rfl (by rfl) (gN ⟨rfl, rfl⟩)) ?_
  refine Z57 ?_
  refine cS 8 (fun bq rest hc1 hc2 hc3 => sgx rfl (by rfl) (gN ⟨rfl, rfl⟩)) ?_
  refine cP [7, 3] ?_
  refine cS 9 (fun bq rest hc1 hc2 hc3 => sgx rfl (by rfl) (gN ⟨rfl, rfl⟩)) ?_
  refine cP [6, 8, 3] ?_
  refine cS 10 (fun bq rest hc1 hc2 hc3 => sgx rfl (by rfl) (gN ⟨rfl, rfl⟩)) ?_
  refine cP [9, 3] ?_
  refine cS 11 (fun bq rest hc1 hc2 hc3 => sgx rfl (by rfl) (gN ⟨rfl, rfl⟩)) ?_
  refine cP [5, 10, 3] ?_
  refine cS 12 (fun bq rest hc1 hc2 hc3 => sgx rfl (by rfl) (gN ⟨rfl, rfl⟩)) ?_
  refine cP [3, 11] ?_
  refine cS 13 (fun bq rest hc1 hc2 hc3 => vq rfl q_or (gN ⟨rfl, rfl⟩)) ?_
  refine Z53 ?_;refine Z123 ?_
  refine gC (fun hb5 => ?_) (fun hb5 => ?_)
  ·
   refine Z15 ?_;refine Z120 ?_;refine Z4 ?_;refine Z119 ?_;refine Z101 ?_;refine Z200 ?_
   refine fincd sz59 u59 (by simp) ?_
   exact ⟨by rw [show staticV (kl l) (Tr.mk 50 name num ks) = none from by rw [staticV, if_neg (by rw [hs0]; decide), hlv, hvk]; dsimp only; rw [if_neg (by rw [hs1]; decide), if_pos (by rw [hks, unfit, hte.1, hte.2, hq]; rfl)]]; dsimp only [paramO]; rw [show cD (⟨#[]⟩, z0) = _ from cD_mk _ _ _ _ _]; rfl, rfl⟩
  exact absurd hb5 (by simp)
 have hs1 : (andI num 1 == 0) = true := by
  rw [beq_iff_eq]
  have h2 : ¬ num % 2 = 1 := by simpa using hb2
  exact a1.2 (by omega)
 refine Z43 ?_;refine Z120 ?_;refine Z4 ?_;refine Z212 ?_;refine Z56 ?_;refine Z119 ?_;refine Z101 ?_;refine Z193 ?_
 refine fincd sz59 u59 (by simp) ?_
 exact ⟨by rw [show staticV (kl l) (Tr.mk 50 name num ks) = some (Tr.mk xop xnm xnu xks) from by rw [staticV, if_neg (by rw [hs0]; decide), hlv, hvk]; dsimp only; rw [if_pos hs1]]; dsimp only [paramO]; rw [show cD (name, (Tr.mk xop xnm xnu xks)) = _ from cD_mk _ _ _ _ _], rfl⟩
end Go.Proofs.YtklkbfpjimeaoaaGreat
