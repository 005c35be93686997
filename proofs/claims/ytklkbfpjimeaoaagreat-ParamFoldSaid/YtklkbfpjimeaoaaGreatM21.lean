import Derived.Test.YtklkbfpjimeaoaaGreatM20
import Derived.Test.YtklkbfpjimeaoaaGreatM12
/- Contracts of functions. Conditions: none. -/
set_option linter.unusedSimpArgs false
set_option linter.unusedVariables false
set_option maxRecDepth 20000
namespace Go.Proofs.YtklkbfpjimeaoaaGreat
open Go Go.Proofs.YtklkbfpjimeaoaaGreat.E
section
def isVarP (op num : Int) : Bool := op == 50 && andI num 8 != 0
def intTy : ByteArray := ⟨#[105, 110, 116]⟩
def boolTy : ByteArray := ⟨#[98, 111, 111, 108]⟩
def wantB (op : Int) : ByteArray := if (op == 2) = true then boolTy else intTy
def lastV (l : KL) (ks : List Tr) : Option Tr := match ks.getLast? with
 | some k => k.value l
 | none => none
def unfit (ks : List Tr) (v : Tr) : Bool := match ks with
 | [] => true
 | t :: _ => t.op != 30 || !decide (t.nm = wantB v.op)
def staticV (l : KL) : Tr → Option Tr
 | .mk _ _ num ks =>
  if (andI num 2 == 0) = true then none
  else match lastV l ks with
   | none => none
   | some v => if (andI num 1 == 0) = true then some v else if unfit ks v = true then none else some v
def part (vs : List (Option Tr)) : Int := 2 - nuV (v0 vs 0)
mutual
/-- A statement without params, or an error. -/
def Tr.fold : Tr → KL → Tr × Int
 | .mk op nm num ks, l =>
  if (op == 52 && isV (v0 (Tr.values l ks) 0) 2) = true then
   (if decide (part (Tr.values l ks) < ks.length) = true then
    (if (((Tr.kblocks ks l).getD (part (Tr.values l ks)).toNat ([], 0)).2 != 0) = true then (z0, ((Tr.kblocks ks l).getD (part (Tr.values l ks)).toNat ([], 0)).2) else (.mk 66 ⟨#[]⟩ 0 ((Tr.kblocks ks l).getD (part (Tr.values l ks)).toNat ([], 0)).1, 0))
    else (.mk 66 ⟨#[]⟩ 0 [], 0))
  else if (op == 66) = true then (.mk 66 ⟨#[]⟩ 0 (Tr.block ks l).1, (Tr.block ks l).2)
  else if ((Tr.bodies ks (if loopsB op num ks.length = true then bindK (ks.take num.toNat) l else l) (Tr.puts op num ks l 0 l ks)).2 != 0) = true then (z0, (Tr.bodies ks (if loopsB op num ks.length = true then bindK (ks.take num.toNat) l else l) (Tr.puts op num ks l 0 l ks)).2)
  else (.mk op nm num (Tr.bodies ks (if loopsB op num ks.length = true then bindK (ks.take num.toNat) l else l) (Tr.puts op num ks l 0 l ks)).1, 0)
def Tr.kblock : Tr → KL → List Tr × Int
 | .mk _ _ _ ks, l => Tr.block ks l
def Tr.kblocks : List Tr → KL → List (List Tr × Int)
 | [], _ => []
 | k :: r, l => k.kblock l :: Tr.kblocks r l
/-- The Kids of a statement, those that are blocks folded. -/
def Tr.bodies : List Tr → KL → List Tr → List Tr × Int
 | [], _, _ => ([], 0)
 | k :: r, l, ps =>
  if (k.op != 66) = true then (ps.headD z0 :: (Tr.bodies r l ps.tail).1, (Tr.bodies r l ps.tail).2)
  else if ((k.kblock l).2 != 0) = true then ([], (k.kblock l).2)
  else (.mk 66 ⟨#[]⟩ 0 (k.kblock l).1 :: (Tr.bodies r l ps.tail).1, (Tr.bodies r l ps.tail).2)
def Tr.block : List Tr → KL → List Tr × Int
 | [], _ => ([], 0)
 | t :: r, l =>
  if isVarP t.op t.nu = true then (match staticV l t with
   | none => ([], 140)
   | some v => Tr.block r ((t.nm, some v) :: l))
  else if ((t.fold l).2 != 0) = true then ([], (t.fold l).2)
  else if ((Tr.block r (hideV t l)).2 != 0) = true then ([], (Tr.block r (hideV t l)).2)
  else ((t.fold l).1 :: (Tr.block r (hideV t l)).1, 0)
end
theorem var_facts {nm : ByteArray} {num : Int} {ks : List Tr} (h : (Tr.mk 50 nm num ks).shaped = true) : 0 ≤ num ∧ num ≤ 15 ∧ (andI num 2 ≠ 0 → ∃ pre k, ks = pre ++ [k] ∧ isExprB k.op = true) ∧ (andI num 1 ≠ 0 → ∃ t r, ks = t :: r) := by
 have h1 := (Tr.shaped_mk h).1
 have h2 : varB (.mk 50 nm num ks) = true := by
  rw [rightB, if_pos (show (otherB (.mk 50 nm num ks)).2 = true from rfl)] at h1
  exact h1
 rw [varB] at h2
 split at h2
 · cases h2
 · rename_i h3
   simp only [Bool.or_eq_true, Bool.not_eq_true', decide_eq_true_eq, beq_iff_eq, not_or] at h3
   refine ⟨by omega, by omega, fun hn => ?_, fun hn => ?_⟩
   · have tail : ∀ l : List Tr, varTail num l = true → ∃ k, l = [k] ∧ isExprB k.op = true := fun l hl => by
      unfold varTail at hl
      rw [if_pos (by simpa using hn)] at hl
      match l, hl with
      | [k], hl => exact ⟨k, rfl, by simpa using hl⟩
      | _ :: _ :: _, hl => simp at hl; omega
     split at h2
     · match ks, h2 with
       | k :: r, h2 =>
        unfold varTy at h2
        obtain ⟨x, hx, hx2⟩ := tail r (Bool.and_eq_true_iff.1 h2).2
        exact ⟨[k], x, by rw [hx]; rfl, hx2⟩
     · obtain ⟨x, hx, hx2⟩ := tail ks h2
       exact ⟨[], x, hx, hx2⟩
   · rw [if_pos (by simpa using hn)] at h2
     match ks, h2 with
     | k :: r, _ => exact ⟨k, r, rfl⟩
theorem lastV_app (l : KL) (pre : List Tr) (k : Tr) : lastV l (pre ++ [k]) = k.value l := by
 unfold lastV
 rw [List.getLast?_append]
 rfl
variable {l : KL}
theorem KOk.klens (h : KOk l) : KLens l := fun x hx t ht => (h x hx t ht).lens
theorem KOk.okT (h : KOk l) : KOkT l := fun x hx t ht => (h x hx t ht).okT
theorem KOk.cons (h : KOk l) (nm : ByteArray) {v : Tr} (hv : ValOk v) : KOk ((nm, some v) :: l) := fun x hx t ht => by
 rcases List.mem_cons.1 hx with rfl | hx
 · injection ht with ht; subst ht; exact hv
 · exact h x hx t ht
theorem KOk.hide (h : KOk l) (nm : ByteArray) : KOk (hideK nm l) := fun x hx t ht => by
 rcases List.mem_cons.1 hx with rfl | hx
 · cases ht
 · exact h x hx t ht
theorem KOk.hideV (h : KOk l) (k : Tr) : KOk (hideV k l) := by
 unfold Go.Proofs.YtklkbfpjimeaoaaGreat.hideV
 split
 · exact h.hide _
 · exact h
theorem KOk.bind : ∀ (ks : List Tr) {l : KL}, KOk l → KOk (bindK ks l)
 | [], l, h => h
 | k :: r, l, h => by
  show KOk (bindK r (hideK k.nm l))
  exact KOk.bind r (h.hide _)
theorem static_ok (hl : KOk l) {nm : ByteArray} {num : Int} {ks : List Tr} (hok : (Tr.mk 50 nm num ks).Ok) (hsh : (Tr.mk 50 nm num ks).shaped = true) {v : Tr} (h : staticV l (.mk 50 nm num ks) = some v) : ValOk v := by
 rw [staticV] at h
 split at h
 · cases h
 · rename_i h1
   obtain ⟨pre, k, rfl, _⟩ := (var_facts hsh).2.2.1 (by simpa using h1)
   rw [lastV_app] at h
   have hv : ∀ v, k.value l = some v → ValOk v := value_ok l hl _ k (Nat.le_refl _) (Tr.kids_ok hok k (by simp [Tr.kids])) ((Tr.shaped_mk hsh).2 k (by simp))
   cases hk : k.value l with
   | none => rw [hk] at h; cases h
   | some u =>
    rw [hk] at h
    dsimp only at h
    split at h
    · injection h with h; subst h; exact hv u hk
    · split at h
      · cases h
      · injection h with h; subst h; exact hv u hk
set_option maxHeartbeats 4000000 in
theorem c131 (l : KL) (hl : KOk l) (name : ByteArray) (num : Int) (ks : List Tr) (hok : (Tr.mk 50 name num ks).Ok) (hsh : (Tr.mk 50 name num ks).shaped = true) : Pf Tryz.prog 131 [.agg [.int .i64 50, .str name, .int .i64 num, .sl (ks.map Tr.d)], knD l] (.d (valD (staticV l (Tr.mk 50 name num ks)))) := by
 refine pf_body (rvs := [.tmp 4]) [(0, .d (.agg [.int .i64 50, .str name, .int .i64 num, .sl (ks.map Tr.d)])), (1, .d (knD l))] Tryz.func131 Tryz.ntmps131 Tryz.results131 (fun S0 O0 w0 m0 hm0 => ?_)
 refine Z232 ?_
 refine gF 0 [] (.agg [.int .i64 50, .str name, .int .i64 num, .sl (ks.map Tr.d)]) rfl ?_
 refine Z233 ?_;refine Z238 ?_;refine Z143 ?_;refine Z20 ?_;refine Z10 ?_
 refine gC ?_ ?_ <;> intro hb0
 ·
  refine Z286 ?_
  exact ⟨by rw [staticV, if_pos hb0]; rfl, rfl⟩
 obtain ⟨f0, f1, f2, f3⟩ := var_facts hsh
 obtain ⟨pre, k, hke, _⟩ := f2 (by simpa using hb0)
 have hln := Tr.kids_len hok
 replace hln : ks.length ≤ 140737488355328 := hln
 have hpl : ks.length = pre.length + 1 := by rw [hke]; simp
 obtain ⟨kop, knm, knu, kks, hka⟩ := k.d_agg
 have hkx : (ks.map Tr.d)[pre.length]? = some (.agg [.int .i64 kop, .str knm, .int .i64 knu, .sl (kks.map Tr.d)]) := by rw [← hka, hke, List.map_append, List.getElem?_append_right (by simp)]; simp
 have hkm : k ∈ ks := by rw [hke]; simp
 have hkok := Tr.kids_ok hok k hkm
 have hksh := (Tr.shaped_mk hsh).2 k hkm
 have hlv : lastV l ks = k.value l := by rw [hke, lastV_app]
 refine Z43 ?_;refine Z250 ?_;refine Z250 ?_;refine Z47 ?_
 rw [show (((ks.map Tr.d).length : Nat) : Int) = (pre.length : Int) + 1 from by rw [List.length_map, hpl]; rfl]
 refine vq rfl (q_sub (hw := (show IntKind.i64.wrap ((pre.length : Int) + 1 - 1) = (pre.length : Int) from by rw [show (pre.length : Int) + 1 - 1 = pre.length from by omega]; exact wrap_i64 (by omega) (by omega)))) ?_
 refine vq rfl (qI u22 sz27 (h0 := by omega) (hd := by rw [show ((pre.length : Int)).toNat = pre.length from Int.toNat_natCast _]; exact hkx)) ?_
 refine Z8 ?_;refine Z0 ?_
 refine gL (xs := [.tmp 19, .tmp 20]) rfl ((hka ▸ c104 l hl k hkok hksh)) ?_
 refine Z1 ?_;refine Z136 ?_
 rcases hv : k.value l with _ | v
 ·
  refine Z68 ?_;refine Z14 ?_
  rw [valD]
  refine Z0 ?_;refine Z141 ?_;refine Z263 ?_
  refine sg rfl (fun hg => sP 25 rfl hg (qL u3)) ?_
  refine sg rfl (fun hg => sP 26 rfl hg (q_bits (show _ = pure (Value.int .i64 (andI _ _)) from rfl))) ?_
  refine Z172 ?_;refine Z251 ?_
  refine gC ?_ ?_ <;> intro hb1
  ·
   refine Z254 ?_;refine Z243 ?_
   exact ⟨by rw [staticV, if_neg (by rw [hb0]; decide), hlv, hv]; rfl, rfl⟩
  exact absurd hb1 (by simp)
 refine Z68 ?_;refine Z14 ?_
 rw [valD, v.d_eta]
 refine Z0 ?_;refine Z141 ?_;refine Z263 ?_
 refine sg rfl (fun hg => sP 25 rfl hg (qL u3)) ?_
 refine sg rfl (fun hg => sP 26 rfl hg (q_bits (show _ = pure (Value.int .i64 (andI _ _)) from rfl))) ?_
 refine Z172 ?_;refine Z251 ?_
 refine gC ?_ ?_ <;> intro hb2
 ·
  refine Z254 ?_;refine Z243 ?_
  exact ⟨by rw [staticV, if_neg (by rw [hb0]; decide), hlv, hv]; dsimp only; rw [if_pos (by simpa using hb2), valD, v.d_eta], rfl⟩
 obtain ⟨t0, r0, hks⟩ := f3 (by simpa using hb2)
 obtain ⟨top, tnm, tnu, tks, hta⟩ := t0.d_agg
 have htx : (ks.map Tr.d)[0]? = some (.agg [.int .i64 top, .str tnm, .int .i64 tnu, .sl (tks.map Tr.d)]) := by rw [← hta, hks]; rfl
 have hte : t0.op = top ∧ t0.nm = tnm := by obtain ⟨a, b, c, d⟩ := t0; rw [Tr.d_mk] at hta; injection hta with hta; injection hta with h1 hta; injection hta with h2 hta; injection h1 with _ h1; injection h2 with h2; exact ⟨h1, h2⟩
 refine Z43 ?_;refine Z234 ?_
 refine G_seq_cut (α := ByteArray) (fun s => ⟨[(2, .d (.ptr (.agg [.int .i64 50, .str name, .int .i64 num, .sl (ks.map Tr.d)]))), (5, .d (.ptr (.agg [.int .i64 v.op, .str v.nm, .int .i64 v.nu, .sl (v.kids.map Tr.d)]))), (6, .d (.str s))], []⟩) (fun s => s = wantB v.op) (fun Q' hn he hr => ?_) (fun s hs => ?_)
 ·
  refine Z254 ?_
  refine sv rfl y_nilCheck ?_
  refine Z266 ?_;refine Z10 ?_
  refine gC ?_ ?_ <;> intro hb3
  ·
   refine Z68 ?_;refine Z14 ?_;refine Z1 ?_;refine Z52 ?_
   refine hn _ boolTy (by rw [wantB, if_pos hb3]) le_of
  refine Z167 ?_
  refine hn _ intTy (by rw [wantB, if_neg (by rw [hb3]; decide)]) le_of
 skip
 refine gS (gS ?_)
 refine Z68 ?_;refine Z14 ?_;refine Z250 ?_;refine Z258 ?_;refine Z269 ?_;refine Z5 ?_;refine Z207 ?_;refine Z54 ?_;refine Z57 ?_;refine Z0 ?_
 refine sg rfl (fun hg => q_fieldAddr u27 rfl sz9) ?_
 refine sg rfl (fun hg => sP 44 rfl hg (qO u9)) ?_
 refine Z19 ?_
 refine sg rfl (fun hg => sP 46 rfl hg (sP 45 rfl hg q_strne)) ?_
 refine Z251 ?_
 refine gC ?_ ?_ <;> intro hb4
 ·
  refine Z53 ?_;refine Z68 ?_;refine Z282 ?_
  exact ⟨by rw [staticV, if_neg (by rw [hb0]; decide), hlv, hv]; dsimp only; rw [if_neg (by simpa using hb2), if_pos (by rw [hks, unfit, hte.1, hte.2, ← hs]; exact hb4)]; rfl, rfl⟩
 refine Z58 ?_;refine Z68 ?_;refine Z253 ?_;refine Z229 ?_
 exact ⟨by rw [staticV, if_neg (by rw [hb0]; decide), hlv, hv]; dsimp only; rw [if_neg (by simpa using hb2), if_neg (by rw [hks, unfit, hte.1, hte.2, ← hs]; rw [show (top != 30 || !decide (tnm = s)) = false from hb4]; decide), valD, v.d_eta], rfl⟩
end
section
theorem block_err (ks : List Tr) : ∀ l : KL, (Tr.block ks l).2 ≠ 0 → (Tr.block ks l).1 = [] := by
 induction ks with
 | nil => intro l h; rw [Tr.block] at h; exact absurd rfl h
 | cons t r ih =>
  intro l h
  rw [Tr.block] at h ⊢
  split at h
  · rename_i h1
    rw [if_pos h1]
    cases hs : staticV l t with
    | none => rfl
    | some v => rw [hs] at h; exact ih _ h
  · rename_i h1
    rw [if_neg h1]
    split at h
    · rename_i h2; rw [if_pos h2]
    · rename_i h2
      rw [if_neg h2]
      split at h
      · rename_i h3; rw [if_pos h3]
      · exact absurd rfl h
def contB (acc : List Tr) (x : List Tr × Int) : List Tr × Int := if (x.2 != 0) = true then ([], x.2) else (acc ++ x.1, 0)
variable {ks : List Tr} {l : KL}
theorem contB_nil : contB [] (Tr.block ks l) = Tr.block ks l := by
 unfold contB
 split
 · rename_i h
   have := block_err ks l (by simpa using h)
   exact Prod.ext this.symm rfl
 · rename_i h
   refine Prod.ext rfl ?_
   have : (Tr.block ks l).2 = 0 := by simpa using h
   exact this.symm
variable {t : Tr}
theorem block_drop {z : Nat} (h : ks[z]? = some t) (l : KL) : Tr.block (ks.drop z) l = Tr.block (t :: ks.drop (z + 1)) l := by
 obtain ⟨hlt, rfl⟩ := List.getElem?_eq_some_iff.1 h
 rw [List.drop_eq_getElem_cons hlt]
variable {r : List Tr}
theorem block_param (h : isVarP t.op t.nu = true) : Tr.block (t :: r) l = (match staticV l t with | none => ([], 140) | some v => Tr.block r ((t.nm, some v) :: l)) := by
 rw [Tr.block, if_pos h]
 try (cases staticV l t <;> rfl)
variable {acc : List Tr}
theorem contB_err (h : isVarP t.op t.nu = false) (he : ((t.fold l).2 != 0) = true) : contB acc (Tr.block (t :: r) l) = ([], (t.fold l).2) := by
 rw [Tr.block, if_neg (by rw [h]; decide), if_pos he, contB, if_pos he]
theorem contB_step (h : isVarP t.op t.nu = false) (he : ((t.fold l).2 != 0) = false) : contB acc (Tr.block (t :: r) l) = contB (acc ++ [(t.fold l).1]) (Tr.block r (hideV t l)) := by
 rw [Tr.block, if_neg (by rw [h]; decide), if_neg (by rw [he]; decide)]
 unfold contB
 cases h3 : ((Tr.block r (hideV t l)).2 != 0) with
 | true => rw [if_pos rfl, if_pos h3, if_pos rfl]
 | false =>
  simp only [Bool.false_eq_true, if_false, bne_self_eq_false, List.append_assoc, List.singleton_append]
def BI (x y : List Tr × Int) (pre : List Tr) : Prop := x.2 = y.2 ∧ (x.2 = 0 → x.1 = pre ++ y.1)
variable {k : Tr}
theorem bodies_drop {z : Nat} (h : ks[z]? = some k) (l : KL) (ps : List Tr) : Tr.bodies (ks.drop z) l ps = Tr.bodies (k :: ks.drop (z + 1)) l ps := by
 obtain ⟨hlt, rfl⟩ := List.getElem?_eq_some_iff.1 h
 rw [List.drop_eq_getElem_cons hlt]
variable {p : Tr} {ps pre : List Tr}
theorem BI.keep {x : List Tr × Int} (h : BI x (Tr.bodies (k :: r) l (p :: ps)) pre) (hk : (k.op != 66) = true) : BI x (Tr.bodies r l ps) (pre ++ [p]) := by
 rw [Tr.bodies, if_pos hk] at h
 exact ⟨h.1, fun h0 => by rw [h.2 h0, List.append_assoc]; rfl⟩
theorem BI.block {x : List Tr × Int} (h : BI x (Tr.bodies (k :: r) l (p :: ps)) pre) (hk : (k.op != 66) = false) (he : ((k.kblock l).2 != 0) = false) : BI x (Tr.bodies r l ps) (pre ++ [.mk 66 ⟨#[]⟩ 0 (k.kblock l).1]) := by
 rw [Tr.bodies, if_neg (by rw [hk]; decide), if_neg (by rw [he]; decide)] at h
 exact ⟨h.1, fun h0 => by rw [h.2 h0, List.append_assoc]; rfl⟩
theorem BI.err {x : List Tr × Int} (h : BI x (Tr.bodies (k :: r) l (p :: ps)) pre) (hk : (k.op != 66) = false) (he : ((k.kblock l).2 != 0) = true) : x.2 = (k.kblock l).2 := by
 rw [Tr.bodies, if_neg (by rw [hk]; decide), if_pos he] at h
 exact h.1
theorem kblocks_get : ∀ (ks : List Tr) (l : KL) (i : Nat) {k : Tr}, ks[i]? = some k → (Tr.kblocks ks l).getD i ([], 0) = k.kblock l
 | [], _, _, _, h => by cases h
 | x :: r, l, i, k, h => by
  rw [Tr.kblocks]
  cases i with
  | zero => injection h with h; subst h; rfl
  | succ i => exact kblocks_get r l i (by simpa using h)
theorem Tr.kblock_kids (t : Tr) (l : KL) : t.kblock l = Tr.block t.kids l := by obtain ⟨o, n, u, ks⟩ := t; rw [Tr.kblock]; rfl
theorem contB_end : contB acc (Tr.block [] l) = (acc, 0) := by
 rw [Tr.block, contB, if_neg (by decide), List.append_nil]
variable {nm : ByteArray} {num : Int}
theorem if_facts (h : (Tr.mk 52 nm num ks).shaped = true) : ∃ c r, ks = c :: r ∧ ks.length ≤ 3 := by
 have h1 := (Tr.shaped_mk h).1
 rw [right52, Bool.and_eq_true, Bool.or_eq_true] at h1
 have h2 : ks.length = 2 ∨ ks.length = 3 := by
  rcases h1.2 with h2 | h2
  · exact .inl (kidsB_len h2)
  · exact .inr (kidsB_len h2)
 match ks, h2 with
 | c :: r, h2 => exact ⟨c, r, rfl, by omega⟩
 | [], h2 => simp at h2
theorem kidsB_at {s : ByteArray} (h : kidsB ks s = true) {i : Nat} {k : Tr} (hk : ks[i]? = some k) : kindOk ((s[i]!).toNat : Nat) k.op = true := by
 unfold kidsB at h
 rw [Bool.and_eq_true, List.all_eq_true] at h
 exact h.2 (k, i) (List.mem_zipIdx_iff_getElem?.2 hk)
theorem if_blocks (h : (Tr.mk 52 nm num ks).shaped = true) {i : Nat} {k : Tr} (hk : ks[i]? = some k) (hi : i = 1 ∨ i = 2) : (k.op == 66) = true := by
 have h1 := (Tr.shaped_mk h).1
 rw [right52, Bool.and_eq_true, Bool.or_eq_true] at h1
 have hlt := (lG hk)
 rcases h1.2 with h2 | h2
 · have hl : ks.length = 2 := kidsB_len h2
   rcases hi with rfl | rfl
   · have h3 : kindOk 98 k.op = true := kidsB_at h2 hk
     simpa [kindOk] using h3
   · omega
 · rcases hi with rfl | rfl
   · have h3 : kindOk 98 k.op = true := kidsB_at h2 hk
     simpa [kindOk] using h3
   · have h3 : kindOk 98 k.op = true := kidsB_at h2 hk
     simpa [kindOk] using h3
theorem stmt_ne {op : Int} (h : isStmtB op = true) : ¬ op = 4 ∧ ¬ op = 67 := by
 unfold isStmtB at h
 simp only [Bool.and_eq_true, decide_eq_true_eq] at h
 omega
theorem KOk.ite {b : Bool} {x y : KL} (hx : KOk x) (hy : KOk y) : KOk (if b = true then x else y) := by
 cases b
 · exact hy
 · exact hx
set_option maxHeartbeats 8000000 in
theorem c116x (ks : List Tr) (hlim : ks.length ≤ 1000000) (hks : ∀ t ∈ ks, t.Ok ∧ t.shaped = true) (hA : ∀ t ∈ ks, ∀ l, KOk l → Pf Tryz.prog 201 [t.d, knD l] (.tup [.d (t.fold l).1.d, .d (.int .i64 (t.fold l).2)])) (l : KL) (hl : KOk l) : Pf Tryz.prog 116 [.sl (ks.map Tr.d), knD l] (.tup [.d (.sl ((Tr.block ks l).1.map Tr.d)), .d (.int .i64 (Tr.block ks l).2)]) := by
 refine pf_body (rvs := [.tmp 4, .tmp 5]) [(0, .d (.sl (ks.map Tr.d))), (1, .d (knD l))] Tryz.func116 Tryz.ntmps116 Tryz.results116 (fun S0 O0 w0 m0 hm0 => ?_)
 refine Z288 ?_;refine Z1 ?_
 refine gN (tN (G_scope (gS (gR ?_))))
 refine Z1 ?_
 refine gN (tN (gS (G_label (tN (gS (gS (gR ?_)))))))
 refine Z0 ?_;refine Z273 ?_
 refine g_loop (α := Nat × List Tr × KL) (fun z => ⟨[(14, .d (.int .i64 (z.1 : Nat))), (13, .d (.int .i64 ((ks.map Tr.d).length : Nat))), (12, .d (.sl (ks.map Tr.d))), (6, .osl 4 (z.2.1.map Tr.d)), (1, .d (knD z.2.2))], []⟩) (fun z => ks.length - z.1) (fun z => z.1 ≤ ks.length ∧ z.2.1.length ≤ z.1 ∧ KOk z.2.2 ∧ Tr.block ks l = contB z.2.1 (Tr.block (ks.drop z.1) z.2.2)) (0, [], l) ⟨Nat.zero_le _, Nat.le_refl _, hl, by rw [List.drop_zero, contB_nil]⟩ (fun z hz Q' hn0 he0 hr0 => ?_) (le_of)
 obtain ⟨z, acc, c⟩ := z
 obtain ⟨hz1, hz2, hz3, hz4⟩ := hz
 replace hz1 : z ≤ ks.length := hz1
 replace hz2 : acc.length ≤ z := hz2
 replace hz3 : KOk c := hz3
 replace hz4 : Tr.block ks l = contB acc (Tr.block (ks.drop z) c) := hz4
 refine Z248 ?_
 refine gC ?_ ?_ <;> intro hb0
 ·
  have hlt : z < ks.length := by simpa using hb0
  obtain ⟨k, hk⟩ : ∃ k, ks[z]? = some k := ⟨_, gE hlt⟩
  have hmem := mG hk
  obtain ⟨kop, knm, knu, kks⟩ := k
  have hxa := Tr.ds_get hk
  rw [Tr.d_mk] at hxa
  refine Z25 ?_;refine Z258 ?_;refine Z269 ?_;refine Z63 ?_;refine Z11 ?_;refine Z266 ?_;refine Z263 ?_
  refine sg rfl (fun hg => sP 22 rfl hg (qL u3)) ?_
  refine sg rfl (fun hg => sP 23 rfl hg (q_bits (show _ = pure (Value.int .i64 (andI _ _)) from rfl))) ?_
  refine sg rfl (fun hg => sP 24 rfl hg q_neq) ?_
  refine Z287 ?_
  refine gC ?_ ?_ <;> intro hb1
  ·
   have hvp : isVarP (Tr.mk kop knm knu kks).op (Tr.mk kop knm knu kks).nu = true := hb1
   obtain rfl : kop = 50 := by have := (Bool.and_eq_true_iff.1 hb1).1; simpa using this
   obtain ⟨hok1, hsh1⟩ := hks _ hmem
   refine Z53 ?_;refine Z154 ?_;refine Z14 ?_;refine Z8 ?_;refine Z0 ?_
   refine gL (xs := [.tmp 27, .tmp 28]) rfl (c131 c hz3 knm knu kks hok1 hsh1) ?_
   refine Z1 ?_;refine Z136 ?_
   rcases hv : staticV c (Tr.mk 50 knm knu kks) with _ | v
   ·
    refine Z14 ?_
    rw [valD]
    refine Z0 ?_;refine Z141 ?_;refine Z10 ?_
    refine gC ?_ ?_ <;> intro hb2
    ·
     refine Z288 ?_;refine Z1 ?_
     refine gN (tN (gT (tR (tR (bR (tR ?_))))))
     refine Z146 ?_
     refine bR (tR (scp_ret ?_))
     refine Z112 ?_
     exact ⟨by rw [hz4, block_drop hk, block_param hvp, hv]; rfl, rfl⟩
    exact Y6
   refine Z14 ?_
   rw [valD, v.d_eta]
   refine Z0 ?_;refine Z141 ?_;refine Z10 ?_
   refine gC ?_ ?_ <;> intro hb3
   · exact absurd hb3 (by decide)
   have hvo := static_ok hz3 hok1 hsh1 hv
   refine Z58 ?_
   rcases knD_or c with hkd | ⟨kd, hkd⟩ <;> rw [hkd]
   ·
    refine Z14 ?_;refine Z270 ?_;refine Z231 ?_;refine Z124 ?_;refine Z13 ?_
    refine gF 0 [] (.agg [.str knm, .ptr (.agg [.int .i64 v.op, .str v.nm, .int .i64 v.nu, .sl (v.kids.map Tr.d)]), .nil]) rfl ?_
    rw [show D.ptr (.agg [.str knm, .ptr (.agg [.int .i64 v.op, .str v.nm, .int .i64 v.nu, .sl (v.kids.map Tr.d)]), .nil]) = knD ((knm, some v) :: c) from by rw [knD, valD, hkd, v.d_eta]]
    refine Z1 ?_
    refine gN (tN (G_exit (thn_exit (blk_exit (tN ?_)))))
    refine Z154 ?_;refine Z285 ?_
    refine hn0 _ (z + 1, acc, (knm, some v) :: c) ⟨by show z + 1 ≤ ks.length; omega, by show acc.length ≤ z + 1; omega, hz3.cons knm hvo, by rw [hz4, block_drop hk, block_param hvp, hv]; rfl⟩ (by show ks.length - (z + 1) < ks.length - z; omega) le_of
   refine Z14 ?_;refine Z270 ?_;refine Z231 ?_;refine Z124 ?_;refine Z13 ?_
   refine gF 0 [] (.agg [.str knm, .ptr (.agg [.int .i64 v.op, .str v.nm, .int .i64 v.nu, .sl (v.kids.map Tr.d)]), .ptr kd]) rfl ?_
   rw [show D.ptr (.agg [.str knm, .ptr (.agg [.int .i64 v.op, .str v.nm, .int .i64 v.nu, .sl (v.kids.map Tr.d)]), .ptr kd]) = knD ((knm, some v) :: c) from by rw [knD, valD, hkd, v.d_eta]]
   refine Z1 ?_
   refine gN (tN (G_exit (thn_exit (blk_exit (tN ?_)))))
   refine Z154 ?_;refine Z285 ?_
   refine hn0 _ (z + 1, acc, (knm, some v) :: c) ⟨by show z + 1 ≤ ks.length; omega, by show acc.length ≤ z + 1; omega, hz3.cons knm hvo, by rw [hz4, block_drop hk, block_param hvp, hv]; rfl⟩ (by show ks.length - (z + 1) < ks.length - z; omega) le_of
  have hvp : isVarP (Tr.mk kop knm knu kks).op (Tr.mk kop knm knu kks).nu = false := hb1
  have hsd := ((Tr.mk kop knm knu kks).fold c).1.d_eta
  obtain ⟨hok1, hsh1⟩ := hks _ hmem
  refine Z58 ?_;refine Z154 ?_;refine Z14 ?_;refine Z8 ?_;refine Z0 ?_
  refine gL (xs := [.tmp 39, .tmp 40]) rfl ((hsd ▸ Tr.d_mk kop knm knu kks ▸ hA _ hmem c hz3)) ?_
  refine Z271 ?_;refine Z269 ?_
  refine gF 0 [] (.agg [.int .i64 ((Tr.mk kop knm knu kks).fold c).1.op, .str ((Tr.mk kop knm knu kks).fold c).1.nm, .int .i64 ((Tr.mk kop knm knu kks).fold c).1.nu, .sl (((Tr.mk kop knm knu kks).fold c).1.kids.map Tr.d)]) rfl ?_
  refine Z256 ?_;refine Z261 ?_
  refine gC ?_ ?_ <;> intro hb4
  ·
   have he : (((Tr.mk kop knm knu kks).fold c).2 != 0) = true := by simpa using hb4
   refine Z254 ?_;refine Z1 ?_;refine Z1 ?_;refine Z132 ?_;refine Z146 ?_
   refine bR (tR (scp_ret ?_))
   refine Z112 ?_
   exact ⟨by rw [hz4, block_drop hk, contB_err hvp he]; rfl, rfl⟩
  have he : (((Tr.mk kop knm knu kks).fold c).2 != 0) = false := by simpa using hb4
  refine Z43 ?_;refine Z184 ?_;refine Z8 ?_
  refine sv rfl (y_buildSlice (xs := [.tmp 48]) u22 inf27) ?_
  refine sv rfl (y_append u22 inf27) ?_
  rw [← hsd, show acc.map Tr.d ++ [((Tr.mk kop knm knu kks).fold c).1.d] = (acc ++ [((Tr.mk kop knm knu kks).fold c).1]).map Tr.d from by rw [List.map_append]; rfl]
  refine Z125 ?_;refine Z30 ?_;refine Z154 ?_;refine Z14 ?_;refine Z266 ?_;refine Z10 ?_
  refine gC ?_ ?_ <;> intro hb5
  ·
   refine Z253 ?_;refine Z270 ?_
   refine gL (xs := [.tmp 54, .tmp 56]) rfl (c132 c knm) ?_
   refine Z1 ?_;refine Z137 ?_;refine Z239 ?_
   refine hn0 _ (z + 1, acc ++ [((Tr.mk kop knm knu kks).fold c).1], hideK knm c) ⟨by show z + 1 ≤ ks.length; omega, by show (acc ++ [_]).length ≤ z + 1; rw [List.length_append, List.length_singleton]; omega, hz3.hide knm, by rw [hz4, block_drop hk, contB_step hvp he, show hideV (Tr.mk kop knm knu kks) c = hideK knm c from hideV_t hb5]⟩ (by show ks.length - (z + 1) < ks.length - z; omega) le_of
  refine Z284 ?_
  refine hn0 _ (z + 1, acc ++ [((Tr.mk kop knm knu kks).fold c).1], c) ⟨by show z + 1 ≤ ks.length; omega, by show (acc ++ [_]).length ≤ z + 1; rw [List.length_append, List.length_singleton]; omega, hz3, by rw [hz4, block_drop hk, contB_step hvp he, show hideV (Tr.mk kop knm knu kks) c = c from hideV_f hb5]⟩ (by show ks.length - (z + 1) < ks.length - z; omega) le_of
 have hge : z = ks.length := by
  have : ¬ (z : Int) < (ks.map Tr.d).length := by simpa using hb0
  rw [List.length_map] at this
  omega
 refine Z259 ?_;refine Z0 ?_;refine Z1 ?_;refine Z1 ?_
 refine gN (tN (gT (scp_ret ?_)))
 refine Z112 ?_
 exact ⟨by subst hge; rw [hz4, List.drop_length]; show _ = PV.tup [.d (.sl ((contB acc (Tr.block [] c)).1.map Tr.d)), .d (.int .i64 (contB acc (Tr.block [] c)).2)]; rw [contB_end], rfl⟩
set_option maxHeartbeats 16000000 in
theorem c201x (op num : Int) (name : ByteArray) (ks : List Tr) (hok : (Tr.mk op name num ks).Ok) (hsh : (Tr.mk op name num ks).shaped = true) (hst : isStmtB op = true) (hlim : ks.length ≤ 1000000) (hlen : ∀ k ∈ ks, k.Lens) (l : KL) (hl : KOk l)
 (hB : (op == 66) = true → Pf Tryz.prog 116 [.sl (ks.map Tr.d), knD l] (.tup [.d (.sl (((Tr.block ks l)).1.map Tr.d)), .d (.int .i64 ((Tr.block ks l)).2)])) (hK : ∀ k ∈ ks, (k.op == 66) = true → ∀ y : KL, KOk y → Pf Tryz.prog 116 [.sl (k.kids.map Tr.d), knD y] (.tup [.d (.sl (((Tr.block k.kids y)).1.map Tr.d)), .d (.int .i64 ((Tr.block k.kids y)).2)])) : Pf Tryz.prog 201 [.agg [.int .i64 op, .str name, .int .i64 num, .sl (ks.map Tr.d)], knD l] (.tup [.d ((Tr.mk op name num ks).fold l).1.d, .d (.int .i64 ((Tr.mk op name num ks).fold l).2)]) := by
 refine pf_body (rvs := [.cell 4 27, .tmp 5]) [(0, .d (.agg [.int .i64 op, .str name, .int .i64 num, .sl (ks.map Tr.d)])), (1, .d (knD l))] Tryz.func201 Tryz.ntmps201 Tryz.results201 (fun S0 O0 w0 m0 hm0 => ?_)
 refine Z245 ?_;refine Z29 ?_;refine Z234 ?_
 refine G_seq_cut (α := Unit) (fun u => ⟨[(2, .d (.ptr (.agg [.int .i64 op, .str name, .int .i64 num, .sl (ks.map Tr.d)]))), (1, .d (knD l)), (4, .ref 0 0)], [[.d (.int .i64 0), .d (.str ⟨#[]⟩), .d (.int .i64 0), .nils]]⟩) (fun u => (op == 52 && isV (v0 (Tr.values l ks) 0) 2) = false) (fun Q' hn he hr => ?_) (fun u hu => ?_)
 ·
  refine Z3 ?_;refine Z266 ?_;refine Z10 ?_
  refine gC ?_ ?_ <;> intro hb0
  ·
   obtain rfl : op = 52 := by simpa using hb0
   obtain ⟨c0, r0, hks, hlen3⟩ := if_facts hsh
   obtain ⟨cop, cnm, cnu, cks, hca⟩ := c0.d_agg
   have hcx : (ks.map Tr.d)[0]? = some (.agg [.int .i64 cop, .str cnm, .int .i64 cnu, .sl (cks.map Tr.d)]) := by rw [← hca, hks]; rfl
   have hcm : c0 ∈ ks := by rw [hks]; simp
   have hcok := Tr.kids_ok hok c0 hcm
   have hcsh := (Tr.shaped_mk hsh).2 c0 hcm
   have hv0 : v0 (Tr.values l ks) 0 = c0.value l := by rw [hks]; rfl
   refine Z3 ?_;refine Z250 ?_;refine Z258 ?_;refine Z0 ?_
   refine gL (xs := [.tmp 25, .tmp 26]) rfl ((hca ▸ c104 l hl c0 hcok hcsh)) ?_
   refine Z277 ?_
   refine gL (xs := [.tmp 28, .const (.int .i64 (2))]) rfl (c184 (c0.value l) 2) ?_
   refine Z10 ?_
   refine gC ?_ ?_ <;> intro hb1
   ·
    have hvb : isV (c0.value l) 2 = true := hb1
    obtain ⟨v, hv, hv2⟩ : ∃ v, c0.value l = some v ∧ v.op = 2 := by
     cases hq : c0.value l with
     | none => rw [hq] at hvb; cases hvb
     | some v => rw [hq] at hvb; exact ⟨v, rfl, by simpa [isV] using hvb⟩
    have hnu := (value_ok l hl _ c0 (Nat.le_refl _) hcok hcsh v hv).num hv2
    obtain ⟨p, hp, hp2⟩ : ∃ p : Nat, 2 - v.nu = (p : Int) ∧ p ≤ 2 := by
     rcases hnu with h | h
     · exact ⟨2, by omega, by omega⟩
     · exact ⟨1, by omega, by omega⟩
    have hpt : part (Tr.values l ks) = (p : Int) := by unfold part; rw [hv0, hv]; exact hp
    have hgd : ((52 : Int) == 52 && isV (v0 (Tr.values l ks) 0) 2) = true := by rw [hv0, hvb]; rfl
    rw [hv, valD, v.d_eta]
    refine Z3 ?_;refine Z64 ?_;refine Z269 ?_;refine Z11 ?_;refine Z0 ?_;refine Z171 ?_;refine Z238 ?_
    refine vq rfl (q_sub (hw := (show IntKind.i64.wrap (2 - v.nu) = ((p : Nat) : Int) from by rw [hp]; exact wrap_i64 (by omega) (by omega)))) ?_
    refine Z277 ?_;refine Z250 ?_;refine Z47 ?_;refine Z40 ?_;refine Z10 ?_
    refine gC ?_ ?_ <;> intro hb2
    ·
     have hlt : p < ks.length := by simpa using hb2
     obtain ⟨k, hk⟩ : ∃ k, ks[p]? = some k := ⟨_, gE hlt⟩
     have hmem := mG hk
     have hkb : (k.op == 66) = true := if_blocks hsh hk (by rcases hnu with h | h <;> omega)
     have hq := hK k hmem hkb l hl
     have hkg := kblocks_get ks l p hk
     obtain ⟨pop, pnm, pnu, pks⟩ := k
     have hpx := Tr.ds_get hk
     rw [Tr.d_mk] at hpx
     replace hq : Pf Tryz.prog 116 [.sl (pks.map Tr.d), knD l] (.tup [.d (.sl (((Tr.block pks l)).1.map Tr.d)), .d (.int .i64 ((Tr.block pks l)).2)]) := hq
     have hfo : (Tr.mk 52 name num ks).fold l = (if ((Tr.block pks l).2 != 0) = true then (z0, (Tr.block pks l).2) else (.mk 66 ⟨#[]⟩ 0 (Tr.block pks l).1, 0)) := by
      rw [Tr.fold, if_pos hgd, hpt, if_pos (by simpa using hlt), show ((p : Int)).toNat = p from Int.toNat_natCast p, hkg]; rfl
     refine Z3 ?_;refine Z250 ?_;refine Z0 ?_
     refine vq rfl (qI u22 sz27 (h0 := by omega) (hd := by rw [show ((p : Int)).toNat = p from Int.toNat_natCast _]; exact hpx)) ?_
     refine Z250 ?_;refine Z0 ?_
     refine gL (xs := [.tmp 47, .tmp 48]) rfl (hq) ?_
     refine Z271 ?_;refine Z1 ?_;refine Z256 ?_;refine Z261 ?_
     refine gC ?_ ?_ <;> intro hb3
     ·
      refine Z3 ?_;refine Z64 ?_;refine Z0 ?_;refine Z21 ?_;refine Z1 ?_;refine Z187 ?_;refine Z226 ?_;refine Z94 ?_
      exact ⟨by rw [hfo, if_pos (show ((Tr.block pks l).2 != 0) = true from hb3)]; rfl, rfl⟩
     refine gK (tN (gR ?_))
     refine Z0 ?_;refine Z82 ?_;refine Z175 ?_;refine Z5 ?_;refine Z60 ?_;refine Z21 ?_;refine Z228 ?_;refine Z226 ?_;refine Z94 ?_
     exact ⟨by rw [hfo, if_neg (by rw [show ((Tr.block pks l).2 != 0) = false from hb3]; decide), Tr.d_mk], rfl⟩
    have hnl : ¬ (part (Tr.values l ks) < (ks.length : Int)) := by
     have h : ¬ (p : Int) < (ks.map Tr.d).length := by simpa using hb2
     rw [List.length_map] at h
     rw [hpt]
     exact h
    have hfo : (Tr.mk 52 name num ks).fold l = (.mk 66 ⟨#[]⟩ 0 [], 0) := by rw [Tr.fold, if_pos hgd, if_neg (by simpa using hnl)]
    refine Z43 ?_;refine Z60 ?_;refine Z21 ?_;refine Z228 ?_;refine Z226 ?_;refine Z94 ?_
    exact ⟨by rw [hfo, Tr.d_mk]; rfl, rfl⟩
   have hvb : isV (c0.value l) 2 = false := hb1
   refine Z167 ?_
   refine hn _ () (by rw [hv0, hvb]; rfl) le_of
  refine Z167 ?_
  refine hn _ () (by rw [show (op == 52) = false from hb0]; rfl) le_of
 skip
 refine Z153 ?_;refine Z266 ?_;refine Z10 ?_
 refine gC ?_ ?_ <;> intro hb4
 ·
  have hq := hB hb4
  refine Z3 ?_;refine Z250 ?_;refine Z0 ?_
  refine gL (xs := [.tmp 64, .tmp 65]) rfl (hq) ?_
  refine Z271 ?_;refine Z1 ?_;refine Z277 ?_;refine Z64 ?_;refine Z0 ?_;refine Z21 ?_;refine Z235 ?_;refine Z94 ?_
  exact ⟨by rw [Tr.fold, if_neg (by rw [hu]; decide), if_pos hb4, Tr.d_mk], rfl⟩
 obtain ⟨h4, h67⟩ := stmt_ne hst
 have hps : (Tr.puts op num ks l 0 l ks).length = ks.length := puts_len _ _ _ _ _ _ _
 refine Z43 ?_;refine Z8 ?_;refine Z0 ?_
 refine g_callmn [] (.agg [.d (.int .i64 op), .d (.str name), .d (.int .i64 num), .rsl 5 0 ks.length 4]) [[.d (.int .i64 0), .d (.str ⟨#[]⟩), .d (.int .i64 0), .nils], [.undef, .undef, .undef, .undef], [.undef], [.undef, .undef, .undef, .undef], [.undef], flat ((Tr.puts op num ks l 0 l ks).map Tr.d)] rfl (c110r op num name ks l hlim hlen hl.klens h4 h67) ?_ (hm := by show [_] ++ [_, _, _, _, PV.rens _ (flat _)] = _; rw [rens_flat]; rfl)
 refine Z269 ?_;refine Z11 ?_;refine Z250 ?_;refine Z273 ?_
 refine g_loop (α := Nat × List Tr) (fun z => ⟨[(78, .d (.int .i64 (z.1 : Nat))), (77, .d (.int .i64 ((ks.map Tr.d).length : Nat))), (76, .d (.sl (ks.map Tr.d))), (2, .d (.ptr (.agg [.int .i64 op, .str name, .int .i64 num, .sl (ks.map Tr.d)]))), (1, .d (knD l)), (4, .ref 0 0), (13, .ref 6 0)], [[.d (.int .i64 0), .d (.str ⟨#[]⟩), .d (.int .i64 0), .nils], [.undef, .undef, .undef, .undef], [.undef], [.undef, .undef, .undef, .undef], [.undef], flat ((z.2 ++ (Tr.puts op num ks l 0 l ks).drop z.1).map Tr.d), [.d (.int .i64 op), .d (.str name), .d (.int .i64 num), .rsl 5 0 ks.length 4]]⟩) (fun z => ks.length - z.1) (fun z => z.1 ≤ ks.length ∧ z.2.length = z.1 ∧ BI (Tr.bodies ks (if loopsB op num ks.length = true then bindK (ks.take num.toNat) l else l) (Tr.puts op num ks l 0 l ks)) (Tr.bodies (ks.drop z.1) (if loopsB op num ks.length = true then bindK (ks.take num.toNat) l else l) ((Tr.puts op num ks l 0 l ks).drop z.1)) z.2) (0, []) ⟨Nat.zero_le _, rfl, rfl, fun _ => rfl⟩ (fun z hz Q' hn0 he0 hr0 => ?_) (le_of)
 obtain ⟨z, pre⟩ := z
 obtain ⟨hz1, hz2, hz3⟩ := hz
 replace hz1 : z ≤ ks.length := hz1
 replace hz2 : pre.length = z := hz2
 replace hz3 : BI (Tr.bodies ks (if loopsB op num ks.length = true then bindK (ks.take num.toNat) l else l) (Tr.puts op num ks l 0 l ks)) (Tr.bodies (ks.drop z) (if loopsB op num ks.length = true then bindK (ks.take num.toNat) l else l) ((Tr.puts op num ks l 0 l ks).drop z)) pre := hz3
 refine Z248 ?_
 refine gC ?_ ?_ <;> intro hb5
 ·
  have hlt : z < ks.length := by simpa using hb5
  obtain ⟨k, hk⟩ : ∃ k, ks[z]? = some k := ⟨_, gE hlt⟩
  have hmem := mG hk
  obtain ⟨kop, knm, knu, kks⟩ := k
  have hxa := Tr.ds_get hk
  rw [Tr.d_mk] at hxa
  obtain ⟨pz, hpz⟩ : ∃ p, (Tr.puts op num ks l 0 l ks)[z]? = some p := ⟨_, gE (by omega)⟩
  have hdp : (Tr.puts op num ks l 0 l ks).drop z = pz :: (Tr.puts op num ks l 0 l ks).drop (z + 1) := by
   obtain ⟨h1, rfl⟩ := List.getElem?_eq_some_iff.1 hpz
   exact List.drop_eq_getElem_cons h1
  rw [bodies_drop hk, hdp] at hz3
  have hrow : pre ++ (Tr.puts op num ks l 0 l ks).drop z = (pre ++ [pz]) ++ (Tr.puts op num ks l 0 l ks).drop (z + 1) := by rw [hdp, List.append_assoc]; rfl
  refine Z268 ?_;refine Z258 ?_;refine Z29 ?_;refine Z1 ?_;refine Z21 ?_
  refine gF 7 [[.d (.int .i64 0), .d (.str ⟨#[]⟩), .d (.int .i64 0), .nils], [.undef, .undef, .undef, .undef], [.undef], [.undef, .undef, .undef, .undef], [.undef], flat ((pre ++ (Tr.puts op num ks l 0 l ks).drop z).map Tr.d), [.d (.int .i64 op), .d (.str name), .d (.int .i64 num), .rsl 5 0 ks.length 4]] (.agg [.int .i64 kop, .str knm, .int .i64 knu, .sl (kks.map Tr.d)]) (hrf := by (simp only [List.all_cons, List.all_nil, PV.refsBs, PV.refsB, refsBs_flat, Bool.and_true, Bool.and_self]) <;> rfl) rfl ?_
  refine Z11 ?_;refine Z238 ?_;refine Z261 ?_
  refine gC ?_ ?_ <;> intro hb6
  ·
   refine G_exit (thn_exit (blk_exit (tN (gR ?_))))
   rw [hrow]
   refine Z239 ?_
   refine hn0 _ (z + 1, pre ++ [pz]) ⟨by show z + 1 ≤ ks.length; omega, by show (pre ++ [_]).length = z + 1; rw [List.length_append, List.length_singleton]; omega, hz3.keep (show (kop != 66) = true from hb6)⟩ (by show ks.length - (z + 1) < ks.length - z; omega) le_of
  have hkb : (kop == 66) = true := by simpa using hb6
  refine Z43 ?_;refine Z0 ?_;refine Z234 ?_
  refine G_seq_cut (α := KL) (fun y => ⟨[(16, .d (knD y)), (15, .d (.ptr (.agg [.int .i64 kop, .str knm, .int .i64 knu, .sl (kks.map Tr.d)]))), (14, .d (.int .i64 (z : Nat))), (78, .d (.int .i64 (z : Nat))), (77, .d (.int .i64 ((ks.map Tr.d).length : Nat))), (76, .d (.sl (ks.map Tr.d))), (2, .d (.ptr (.agg [.int .i64 op, .str name, .int .i64 num, .sl (ks.map Tr.d)]))), (1, .d (knD l)), (4, .ref 0 0), (13, .ref 6 0)], [[.d (.int .i64 0), .d (.str ⟨#[]⟩), .d (.int .i64 0), .nils], [.undef, .undef, .undef, .undef], [.undef], [.undef, .undef, .undef, .undef], [.undef], flat ((pre ++ (Tr.puts op num ks l 0 l ks).drop z).map Tr.d), [.d (.int .i64 op), .d (.str name), .d (.int .i64 num), .rsl 5 0 ks.length 4]]⟩) (fun y => y = (if loopsB op num ks.length = true then bindK (ks.take num.toNat) l else l)) (fun Q' hn he hr => ?_) (fun y hy => ?_)
  ·
   refine Z3 ?_;refine Z8 ?_
   refine gL (xs := [.tmp 87]) rfl (l196 op num name ks) ?_
   refine Z10 ?_
   refine gC ?_ ?_ <;> intro hb7
   ·
    refine Z253 ?_;refine Z8 ?_
    refine gL (xs := [.tmp 89, .tmp 90]) rfl ((Tr.d_mk op name num ks ▸ c197 (.mk op name num ks) l (loops_num (show loopsB op num ks.length = true from hb7)).1 (by have := (loops_num (show loopsB op num ks.length = true from hb7)).2; show num ≤ ks.length; omega) hlim)) ?_
    refine Z1 ?_;refine Z52 ?_
    refine hn _ (bindK (ks.take num.toNat) l) (by rw [if_pos (show loopsB op num ks.length = true from hb7)]) le_of
   refine Z167 ?_
   refine hn _ l (by rw [if_neg (by rw [show loopsB op num ks.length = false from hb7]; decide)]) le_of
  have hyk : KOk y := hy ▸ KOk.ite (KOk.bind _ hl) hl
  have hq : Pf Tryz.prog 116 [.sl (kks.map Tr.d), knD y] (.tup [.d (.sl (((Tr.block kks y)).1.map Tr.d)), .d (.int .i64 ((Tr.block kks y)).2)]) := hK _ hmem hkb y hyk
  refine Z3 ?_;refine Z250 ?_;refine Z0 ?_
  refine gL (xs := [.tmp 94, .tmp 95]) rfl (hq) ?_
  refine Z271 ?_;refine Z1 ?_;refine Z256 ?_;refine Z261 ?_
  refine gC ?_ ?_ <;> intro hb8
  ·
   have he : ((Tr.block kks y).2 != 0) = true := hb8
   have hX : (Tr.bodies ks (if loopsB op num ks.length = true then bindK (ks.take num.toNat) l else l) (Tr.puts op num ks l 0 l ks)).2 = (Tr.block kks y).2 := by rw [hz3.err (show (kop != 66) = false from hb6) (by rw [Tr.kblock, ← hy]; exact he), Tr.kblock, ← hy]
   refine Z3 ?_;refine Z64 ?_;refine Z0 ?_;refine Z21 ?_;refine Z1 ?_;refine Z132 ?_;refine Z276 ?_;refine Z94 ?_
   exact ⟨by rw [Tr.fold, if_neg (by rw [hu]; decide), if_neg (by rw [show (op == 66) = false from hb4]; decide), if_pos (by rw [hX]; exact he), hX]; rfl, rfl⟩
  have he : ((Tr.block kks y).2 != 0) = false := hb8
  have hrs : (pre ++ (Tr.puts op num ks l 0 l ks).drop z).set z (Tr.mk 66 ⟨#[]⟩ 0 (Tr.block kks y).1) = (pre ++ [Tr.mk 66 ⟨#[]⟩ 0 (Tr.block kks y).1]) ++ (Tr.puts op num ks l 0 l ks).drop (z + 1) := by rw [hdp, List.append_assoc, ← hz2, List.set_append_right _ _ (Nat.le_refl _), Nat.sub_self]; rfl
  refine gK (tN (gR ?_))
  refine Z82 ?_
  refine sv rfl (y_load_leaf u22) ?_
  refine Z231 ?_;refine Z64 ?_
  refine vq rfl ((q_rowIndex u22 sz27)) ?_
  refine sa rfl (d_rowStore (i := z) (xs := (pre ++ (Tr.puts op num ks l 0 l ks).drop z).map Tr.d) (d := (.agg [.int .i64 66, .str ⟨#[]⟩, .int .i64 0, .sl ((Tr.block kks y).1.map Tr.d)])) (hi := by rw [hrow]; simp; omega) (hk := Tr.ds_cells _) (hk0 := by decide) (hz := sz27)) ?_
  rw [← Tr.d_mk 66 ⟨#[]⟩ 0 (Tr.block kks y).1, ← List.map_set, hrs]
  refine Z137 ?_;refine Z239 ?_
  refine hn0 _ (z + 1, pre ++ [Tr.mk 66 ⟨#[]⟩ 0 (Tr.block kks y).1]) ⟨by show z + 1 ≤ ks.length; omega, by show (pre ++ [_]).length = z + 1; rw [List.length_append, List.length_singleton]; omega, hy ▸ hz3.block (show (kop != 66) = false from hb6) (by rw [Tr.kblock, ← hy]; exact he)⟩ (by show ks.length - (z + 1) < ks.length - z; omega) le_of
 have hge : z = ks.length := by
  have : ¬ (z : Int) < (ks.map Tr.d).length := by simpa using hb5
  rw [List.length_map] at this
  omega
 subst hge
 have hps2 : (Tr.puts op num ks l 0 l ks).drop ks.length = [] := List.drop_eq_nil_of_le (by omega)
 rw [List.drop_length, hps2, Tr.bodies] at hz3
 have hX2 : (Tr.bodies ks (if loopsB op num ks.length = true then bindK (ks.take num.toNat) l else l) (Tr.puts op num ks l 0 l ks)).2 = 0 := hz3.1
 have hX1 := hz3.2 hX2
 rw [List.append_nil] at hX1
 rw [hps2, List.append_nil]
 have hll : ks.length = (pre.map Tr.d).length := by rw [List.length_map]; omega
 refine Z259 ?_;refine Z60 ?_
 refine g_forget 6 [[.d (.int .i64 0), .d (.str ⟨#[]⟩), .d (.int .i64 0), .nils], [.undef, .undef, .undef, .undef], [.undef], [.undef, .undef, .undef, .undef], [.undef], flat (pre.map Tr.d)] rfl ?_ (hrf := by (simp only [List.all_cons, List.all_nil, PV.refsBs, PV.refsB, refsBs_flat, Bool.and_true, Bool.and_self]) <;> rfl)
 refine g_freezeR 5 4 [[.d (.int .i64 0), .d (.str ⟨#[]⟩), .d (.int .i64 0), .nils], [.undef, .undef, .undef, .undef], [.undef], [.undef, .undef, .undef, .undef], [.undef]] (pre.map Tr.d) (Tr.ds_cells _) rfl ?_ (hs := by simp only [List.map_cons, List.map_nil, PV.frz, PV.frzs, noF, rowH, ← hll, if_true, if_false, Nat.reduceEqDiff, and_self] <;> rfl)
 refine Z21 ?_;refine Z228 ?_;refine Z94 ?_
 exact ⟨by rw [Tr.fold, if_neg (by rw [hu]; decide), if_neg (by rw [show (op == 66) = false from hb4]; decide), if_neg (by rw [hX2]; decide), hX1, Tr.d_mk], rfl⟩
theorem stmt_kids (h : (Tr.mk 66 nm num ks).shaped = true) : ∀ k ∈ ks, isStmtB k.op = true := by
 have h1 := (Tr.shaped_mk h).1
 rw [right66, Bool.and_eq_true] at h1
 have h2 := h1.1
 unfold everyB at h2
 intro k hk
 simp only [Bool.not_eq_true', List.any_eq_false] at h2
 simpa using h2 k hk
def SFit (t : Tr) : Prop := t.Ok ∧ t.shaped = true ∧ isStmtB t.op = true ∧ t.Lens
theorem SFit.kid (hok : (Tr.mk 66 nm num ks).Ok) (hsh : (Tr.mk 66 nm num ks).shaped = true) (hl : (Tr.mk 66 nm num ks).Lens) : ∀ k ∈ ks, SFit k := fun k hk =>
 ⟨Tr.kids_ok hok k hk, (Tr.shaped_mk hsh).2 k hk, stmt_kids hsh k hk, hl.mk'.2 k hk⟩
theorem c201 : ∀ (n : Nat) (t : Tr), t.size ≤ n → SFit t → ∀ l : KL, KOk l → Pf Tryz.prog 201 [t.d, knD l] (.tup [.d (t.fold l).1.d, .d (.int .i64 (t.fold l).2)]) := by
 intro n
 induction n with
 | zero => intro t h; exact absurd t.size_pos (by omega)
 | succ n ih =>
  intro t hsz hf l hl
  obtain ⟨op, name, num, ks⟩ := t
  obtain ⟨hok, hsh, hst, hlen⟩ := hf
  obtain ⟨hlim, hks⟩ := hlen.mk'
  have hkd : ∀ k ∈ ks, k.size ≤ n := fun k hk => by
   have := Tr.size_mem hk
   rw [Tr.size] at hsz
   omega
  rw [Tr.d_mk]
  refine c201x op num name ks hok hsh hst hlim hks l hl (fun h66 => ?_) (fun k hk hkb y hy => ?_)
  · obtain rfl : op = 66 := by simpa using h66
    have hfit := SFit.kid hok hsh hlen
    exact c116x ks hlim (fun t ht => ⟨(hfit t ht).1, (hfit t ht).2.1⟩) (fun t ht l hl => ih t (hkd t ht) (hfit t ht) l hl) l hl
  · have hkok := Tr.kids_ok hok k hk
    have hksh := (Tr.shaped_mk hsh).2 k hk
    have hkl := hks k hk
    have hkz := hkd k hk
    obtain ⟨kop, knm, knu, kks⟩ := k
    obtain rfl : kop = 66 := by simpa [Tr.op] using hkb
    have hfit := SFit.kid hkok hksh hkl
    exact c116x kks hkl.mk'.1 (fun t ht => ⟨(hfit t ht).1, (hfit t ht).2.1⟩) (fun t ht l hl => ih t (by
     have := Tr.size_mem ht
     rw [Tr.size] at hkz
     omega) (hfit t ht) l hl) y hy
theorem c116 (ks : List Tr) (hlim : ks.length ≤ 1000000) (hf : ∀ t ∈ ks, SFit t) (l : KL) (hl : KOk l) : Pf Tryz.prog 116 [.sl (ks.map Tr.d), knD l] (.tup [.d (.sl ((Tr.block ks l).1.map Tr.d)), .d (.int .i64 (Tr.block ks l).2)]) :=
 c116x ks hlim (fun t ht => ⟨(hf t ht).1, (hf t ht).2.1⟩) (fun t ht l hl => c201 _ t (Nat.le_refl _) (hf t ht) l hl) l hl
end
section
variable {K : KL}
theorem value_agree {K' : KL} (h : ∀ nm, findK nm K = findK nm K') : ∀ n (t : Tr), t.size ≤ n → t.value K = t.value K' ∧ t.span K = t.span K' := by
 intro n
 induction n with
 | zero => intro t h; exact absurd t.size_pos (by omega)
 | succ n ih =>
  intro t hsz
  obtain ⟨op, nm, num, ks⟩ := t
  have hI : ∀ k ∈ ks, k.value K = k.value K' ∧ k.span K = k.span K' := fun k hk => ih k (by have := Tr.size_mem hk; rw [Tr.size] at hsz; omega)
  have hvs : Tr.values K ks = Tr.values K' ks := by
   rw [values_get, values_get]
   exact List.map_congr_left fun k hk => (hI k hk).1
  have hss : Tr.spans K ks = Tr.spans K' ks := by
   rw [spans_get, spans_get]
   exact List.map_congr_left fun k hk => (hI k hk).2
  rw [Tr.value, Tr.value, Tr.span, Tr.span, hvs, hss]
  refine ⟨?_, rfl⟩
  unfold valN
  rw [h nm]
theorem Agree.value {l : List (ByteArray × Tr)} (h : Agree K l) (t : Tr) : t.value (kl l) = t.value K := ((value_agree h t.size t (Nat.le_refl _)).1).symm
theorem Agree.cons {l : List (ByteArray × Tr)} (h : Agree K l) (nm : ByteArray) (v : Tr) : Agree ((nm, some v) :: K) (l ++ [(nm, v)]) := fun x => by
 rw [kl_snoc, findK, findK, h x]
theorem Agree.hideV {l : List (ByteArray × Tr)} (h : Agree K l) (t : Tr) : Agree (hideV t K) (if (t.op == 50) = true then woL l t.nm else l) := by
 unfold Go.Proofs.YtklkbfpjimeaoaaGreat.hideV
 cases t.op == 50
 · exact h
 · exact h.hide t.nm
def CV (n : Nat) (l : List (ByteArray × Tr)) : Prop := l.length ≤ n ∧ ∀ c ∈ l, ValOk c.2
theorem CV.mono {n m : Nat} {l : List (ByteArray × Tr)} (h : CV n l) (hm : n ≤ m) : CV m l := ⟨Nat.le_trans h.1 hm, h.2⟩
end
section
theorem sizes_get : ∀ {ks : List Tr} {z : Nat} {k : Tr}, ks[z]? = some k → z + k.size ≤ Tr.sizes ks
 | x :: r, 0, k, h => by
  injection h with h
  subst h
  rw [Tr.sizes]; omega
 | x :: r, z + 1, k, h => by
  have h1 := sizes_get (ks := r) (z := z) (k := k) (by simpa using h)
  have := x.size_pos
  rw [Tr.sizes]; omega
end
end Go.Proofs.YtklkbfpjimeaoaaGreat
