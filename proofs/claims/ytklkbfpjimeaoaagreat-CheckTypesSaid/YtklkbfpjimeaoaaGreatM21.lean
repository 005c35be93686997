import Derived.Test.YtklkbfpjimeaoaaGreatM20
import Derived.Test.YtklkbfpjimeaoaaGreatM11
/- Contracts of functions. Conditions: none. -/
set_option linter.unusedSimpArgs false
set_option linter.unusedVariables false
set_option maxRecDepth 20000
namespace Go.Proofs.YtklkbfpjimeaoaaGreat
open Go Go.Proofs.YtklkbfpjimeaoaaGreat.E
section
def intT (n : Int) : Tr := .mk 1 ⟨#[]⟩ n []
def boolT (b : Bool) : Tr := .mk 2 ⟨#[]⟩ (if b = true then 1 else 0) []
def isV : Option Tr → Int → Bool
 | none, _ => false
 | some t, k => t.op == k
def nuV : Option Tr → Int
 | none => 0
 | some t => t.nu
def minI : Int := -9223372036854775808
def maxI : Int := 9223372036854775807
def mB : ByteArray := ⟨#[45]⟩
def bangB : ByteArray := ⟨#[33]⟩
def unaryV (nm : ByteArray) : Option Tr → Option Tr
 | none => none
 | some (.mk op _ num _) =>
  if ((decide (nm = mB) && op == 1) && num != minI) = true then some (intT (W (0 - num)))
  else if (decide (nm = bangB) && op == 2) = true then some (boolT (num == 0)) else none
def fitsV (n : Int) (ok : Bool) : Option Tr := if ok = true then some (intT n) else none
def divB (a b : Int) : Bool := b != 0 && (a != minI || b != -1)
def addV (a b : Int) : Option Tr := fitsV (W (a + b)) ((decide (b ≤ 0) || decide (a ≤ W (maxI - b))) && (decide (b ≥ 0) || decide (a ≥ W (minI - b))))
def subV (a b : Int) : Option Tr := fitsV (W (a - b)) ((decide (b ≥ 0) || decide (a ≤ W (maxI + b))) && (decide (b ≤ 0) || decide (a ≥ W (minI + b))))
def mulV (a b : Int) : Option Tr := fitsV (W (a * b)) ((a == 0 || b == 0) || (((a != -1 || b != minI) && (b != -1 || a != minI)) && W ((W (a * b)).tdiv b) == a))
def quoV (a b : Int) : Option Tr := if (!divB a b) = true then none else some (intT (W (a.tdiv b)))
def remV (a b : Int) : Option Tr := if (!divB a b) = true then none else some (intT (a.tmod b))
structure Op2 (α : Type) where
 g : Nat
 caps : List D
 f : Int → Int → α
def Op2.d {α : Type} (o : Op2 α) : D := .fn (.func o.g) [] o.caps
def intTab : List (ByteArray × Op2 (Option Tr)) := [(⟨#[43]⟩, ⟨292, [.ptr (.fn (.func 290) [] [])], addV⟩), (⟨#[45]⟩, ⟨293, [.ptr (.fn (.func 290) [] [])], subV⟩), (⟨#[42]⟩, ⟨294, [.ptr (.fn (.func 290) [] [])], mulV⟩), (⟨#[47]⟩, ⟨295, [.ptr (.fn (.func 291) [] [])], quoV⟩), (⟨#[37]⟩, ⟨296, [.ptr (.fn (.func 291) [] [])], remV⟩)]
def cmpTab : List (ByteArray × Op2 Bool) := [(⟨#[61, 61]⟩, ⟨297, [], fun a b => a == b⟩), (⟨#[33, 61]⟩, ⟨298, [], fun a b => a != b⟩), (⟨#[60]⟩, ⟨299, [], fun a b => decide (a < b)⟩), (⟨#[60, 61]⟩, ⟨300, [], fun a b => decide (a ≤ b)⟩), (⟨#[62]⟩, ⟨301, [], fun a b => decide (a > b)⟩), (⟨#[62, 61]⟩, ⟨302, [], fun a b => decide (a ≥ b)⟩)]
def tabGet {α : Type} (l : List (ByteArray × Op2 α)) (nm : ByteArray) : Option (Op2 α) := (l.find? fun x => decide (x.1 = nm)).map (·.2)
theorem tabGet_mem {α : Type} {l : List (ByteArray × Op2 α)} {nm : ByteArray} {o : Op2 α} (h : tabGet l nm = some o) : ∃ x ∈ l, x.2 = o := by
 unfold tabGet at h
 cases hf : l.find? (fun x => decide (x.1 = nm)) with
 | none => rw [hf] at h; cases h
 | some x =>
  rw [hf] at h
  injection h with h
  exact ⟨x, List.mem_of_find?_eq_some hf, h⟩
end
section
abbrev KL := List (ByteArray × Option Tr)
def findK (nm : ByteArray) : KL → Option Tr
 | [] => none
 | x :: r => if x.1 = nm then x.2 else findK nm r
def andB : ByteArray := ⟨#[38, 38]⟩
def orB : ByteArray := ⟨#[124, 124]⟩
def eqB : ByteArray := ⟨#[61, 61]⟩
def neB : ByteArray := ⟨#[33, 61]⟩
def cmpV (nm : ByteArray) (a b : Option Tr) : Option Tr := match tabGet cmpTab nm with
 | none => none
 | some o => if ((isV a 1 && isV b 1) || ((isV a 2 && isV b 2) && (decide (nm = eqB) || decide (nm = neB)))) = true then some (boolT (o.f (nuV a) (nuV b))) else none
def binV (nm : ByteArray) (a b : Option Tr) : Option Tr :=
 if (decide (nm = andB) || decide (nm = orB)) = true then
  (if (!isV a 2) = true then none else if (decide (nm = orB) == (nuV a == 1)) = true then a else if isV b 2 = true then b else none)
 else match tabGet intTab nm with
  | some o => if (isV a 1 && isV b 1) = true then o.f (nuV a) (nuV b) else cmpV nm a b
  | none => cmpV nm a b
end
section
abbrev SP := (Int × Int × Int) × Bool
def noSP : SP := ((0, 0, 0), false)
def v0 (vs : List (Option Tr)) (i : Nat) : Option Tr := vs.getD i none
def s0 (ss : List SP) : SP := ss.getD 0 noSP
def okSP (x : (Int × Int × Int) × Int) : SP := (x.1, x.2 == 0)
def sizeB : ByteArray := ⟨#[115, 105, 122, 101]⟩
def spanN (op : Int) (vs : List (Option Tr)) (ss : List SP) : SP :=
 if (op == 7) = true then (if (!isV (v0 vs 0) 1 || !isV (v0 vs 1) 1) = true then noSP else okSP (ofS (nuV (v0 vs 0)) (nuV (v0 vs 1))))
 else if (op == 8 || op == 9) = true then
  (if (!(s0 ss).2 || !isV (v0 vs 1) 1) = true then noSP
   else if (op == 9) = true then okSP (countS (s0 ss).1.1 (s0 ss).1.2.1 (s0 ss).1.2.2 (nuV (v0 vs 1))) else okSP (byS (s0 ss).1.1 (s0 ss).1.2.1 (s0 ss).1.2.2 (nuV (v0 vs 1))))
 else noSP
def valN (l : KL) (op : Int) (nm : ByteArray) (num : Int) (ks : List Tr) (vs : List (Option Tr)) (ss : List SP) : Option Tr :=
 if (op == 1 || op == 2) = true then some (.mk op nm num ks)
 else if (op == 4) = true then findK nm l
 else if (op == 5) = true then unaryV nm (v0 vs 0)
 else if (op == 6) = true then binV nm (v0 vs 0) (v0 vs 1)
 else if (op == 19) = true then (if (!isV (v0 vs 0) 2) = true then none else v0 vs (2 - nuV (v0 vs 0)).toNat)
 else if (op == 14) = true then (if ((s0 ss).2 && decide (nm = sizeB)) = true then some (intT (sizeS (s0 ss).1.1 (s0 ss).1.2.1 (s0 ss).1.2.2)) else none)
 else none
end
section
mutual
def Tr.value (l : KL) : Tr → Option Tr
 | .mk op nm num ks => valN l op nm num ks (Tr.values l ks) (Tr.spans l ks)
def Tr.span (l : KL) : Tr → SP
 | .mk op _ _ ks => spanN op (Tr.values l ks) (Tr.spans l ks)
def Tr.values (l : KL) : List Tr → List (Option Tr)
 | [] => []
 | k :: r => k.value l :: Tr.values l r
def Tr.spans (l : KL) : List Tr → List SP
 | [] => []
 | k :: r => k.span l :: Tr.spans l r
end
def ValOk (v : Tr) : Prop := (∃ n, wf64 n ∧ v = intT n) ∨ ∃ b, v = boolT b
def KOk (l : KL) : Prop := ∀ x ∈ l, ∀ t, x.2 = some t → ValOk t
variable {v : Tr}
theorem ValOk.num (h : ValOk v) (h2 : v.op = 2) : v.nu = 0 ∨ v.nu = 1 := by
 rcases h with ⟨n, _, rfl⟩ | ⟨b, rfl⟩
 · cases h2
 · cases b
   · exact .inl rfl
   · exact .inr rfl
variable {nm : ByteArray}
theorem findK_ok : ∀ {l : KL}, KOk l → ∀ v, findK nm l = some v → ValOk v
 | [], _, v, h => by cases h
 | x :: r, hl, v, h => by
  rw [findK] at h
  split at h
  · exact hl x (by simp) v h
  · exact findK_ok (fun y hy => hl y (by simp [hy])) v h
theorem wf0 : wf64 0 := by unfold wf64; omega
theorem wf1 : wf64 1 := by unfold wf64; omega
variable {a : Option Tr}
theorem unaryV_ok (h : unaryV nm a = some v) : ValOk v := by
 rcases a with _ | ⟨op, m, num, ks⟩
 · cases h
 · rw [unaryV] at h
   split at h
   · injection h with h; subst h; exact .inl ⟨_, W_wf _, rfl⟩
   · split at h
     · injection h with h; subst h; exact .inr ⟨_, rfl⟩
     · cases h
theorem fitsV_ok {n : Int} {ok : Bool} (hn : wf64 n) (h : fitsV n ok = some v) : ValOk v := by
 unfold fitsV at h
 split at h
 · injection h with h; subst h; exact .inl ⟨n, hn, rfl⟩
 · cases h
theorem tmod_wf {a b : Int} (h : wf64 a) : wf64 (a.tmod b) := by
 have h1 : (a.tmod b).natAbs ≤ a.natAbs := by rw [Int.natAbs_tmod]; exact Nat.mod_le _ _
 have h2 : 0 ≤ a → 0 ≤ a.tmod b := fun h => Int.tmod_nonneg b h
 have h3 : a ≤ 0 → a.tmod b ≤ 0 := fun h => by
  have h4 := Int.tmod_nonneg b (show 0 ≤ -a by omega)
  rw [Int.neg_tmod] at h4
  omega
 unfold wf64 at h ⊢
 omega
theorem intTab_val {o : Op2 (Option Tr)} (h : tabGet intTab nm = some o) {a b : Int} (ha : wf64 a) {v : Tr} (hv : o.f a b = some v) : ValOk v := by
 obtain ⟨x, hx, rfl⟩ := tabGet_mem h
 simp only [intTab, List.mem_cons, List.not_mem_nil, or_false] at hx
 rcases hx with rfl | rfl | rfl | rfl | rfl
 · exact fitsV_ok (W_wf _) hv
 · exact fitsV_ok (W_wf _) hv
 · exact fitsV_ok (W_wf _) hv
 · replace hv : quoV a b = some v := hv
   unfold quoV at hv
   split at hv
   · cases hv
   · injection hv with hv; subst hv; exact .inl ⟨_, W_wf _, rfl⟩
 · replace hv : remV a b = some v := hv
   unfold remV at hv
   split at hv
   · cases hv
   · injection hv with hv; subst hv; exact .inl ⟨_, tmod_wf ha, rfl⟩
theorem cmpV_ok {b : Option Tr} (h : cmpV nm a b = some v) : ValOk v := by
 unfold cmpV at h
 split at h
 · cases h
 · split at h
   · injection h with h; subst h; exact .inr ⟨_, rfl⟩
   · cases h
theorem nuV_wf (h : ∀ v, a = some v → ValOk v) : wf64 (nuV a) := by
 cases a with
 | none => exact wf0
 | some t =>
  rcases h t rfl with ⟨n, hn, rfl⟩ | ⟨b, rfl⟩
  · exact hn
  · cases b
    · exact wf0
    · exact wf1
theorem binV_ok {b : Option Tr} (ha : ∀ v, a = some v → ValOk v) (hb : ∀ v, b = some v → ValOk v) {v : Tr} (h : binV nm a b = some v) : ValOk v := by
 unfold binV at h
 split at h
 · split at h
   · cases h
   · split at h
     · exact ha v h
     · split at h
       · exact hb v h
       · cases h
 · split at h
   · split at h
     · rename_i ht _; exact intTab_val ht (nuV_wf ha) h
     · exact cmpV_ok h
   · exact cmpV_ok h
theorem sizeS_wf (lo hi st : Int) : wf64 (sizeS lo hi st) := by
 unfold sizeS
 split
 · exact wf0
 · unfold seriesS
   split
   · exact wf0
   · split
     · exact W_wf _
     · exact W_wf _
variable {op num : Int} {ks : List Tr}
theorem right_ok {s : Sh} (ho : (otherB (.mk op nm num ks)).2 = false) (hs : shGet op = some s) (h : rightB (.mk op nm num ks) = true) :
 s.ok (.mk op nm num ks) = true ∧ (s.num = false → num = 0) ∧ (s.names = none → nm = ⟨#[]⟩) := by
 obtain ⟨nms, nb, g, caps, ok⟩ := s
 rw [rightB, if_neg (by rw [ho]; decide), hs] at h
 dsimp only at h
 split at h
 · cases h
 · rename_i h1
   rcases nms with _ | x
   · dsimp only at h
     split at h
     · cases h
     · rename_i h2
       refine ⟨h, fun hn => ?_, fun _ => by simpa using h2⟩
       replace hn : nb = false := hn
       subst hn
       simp at h1
       exact h1.2
   · dsimp only at h
     split at h
     · cases h
     · refine ⟨h, fun hn => ?_, fun hn => by cases hn⟩
       replace hn : nb = false := hn
       subst hn
       simp at h1
       exact h1.2
theorem len_forms {s : ByteArray} (h : formsB [s] (.mk op nm num ks) = true) : ks.length = s.size := by
 unfold formsB at h
 rw [List.any_cons, List.any_nil, Bool.or_false] at h
 exact kidsB_len h
theorem Tr.shaped_mk (h : (Tr.mk op nm num ks).shaped = true) : rightB (.mk op nm num ks) = true ∧ ∀ k ∈ ks, k.shaped = true := by
 rw [Tr.shaped, Tr.shapeds_all, Bool.and_eq_true, Bool.not_eq_true', List.any_eq_false] at h
 exact ⟨h.1, fun k hk => by simpa using h.2 k hk⟩
theorem shGet1 : shGet 1 = some ⟨none, true, 229, [.ptr (.sl ([⟨#[]⟩].map .str))], (formsB [⟨#[]⟩])⟩ := rfl
theorem shGet2 : shGet 2 = some ⟨none, true, 154, [], rule154⟩ := rfl
theorem shGet5 : shGet 5 = some ⟨(some (⟨#[45]⟩, [⟨#[33]⟩])), false, 229, [.ptr (.sl ([⟨#[101]⟩].map .str))], (formsB [⟨#[101]⟩])⟩ := rfl
theorem shGet6 : shGet 6 = some ⟨(some (⟨#[43]⟩, [⟨#[45]⟩, ⟨#[42]⟩, ⟨#[47]⟩, ⟨#[37]⟩, ⟨#[61, 61]⟩, ⟨#[33, 61]⟩, ⟨#[60]⟩, ⟨#[60, 61]⟩, ⟨#[62]⟩, ⟨#[62, 61]⟩, ⟨#[38, 38]⟩, ⟨#[124, 124]⟩])), false, 229, [.ptr (.sl ([⟨#[101, 101]⟩].map .str))], (formsB [⟨#[101, 101]⟩])⟩ := rfl
theorem shGet7 : shGet 7 = some ⟨none, false, 229, [.ptr (.sl ([⟨#[101, 101]⟩].map .str))], (formsB [⟨#[101, 101]⟩])⟩ := rfl
theorem shGet8 : shGet 8 = some ⟨none, false, 229, [.ptr (.sl ([⟨#[101, 101]⟩].map .str))], (formsB [⟨#[101, 101]⟩])⟩ := rfl
theorem shGet9 : shGet 9 = some ⟨none, false, 229, [.ptr (.sl ([⟨#[101, 101]⟩].map .str))], (formsB [⟨#[101, 101]⟩])⟩ := rfl
theorem shGet14 : shGet 14 = some ⟨(some (⟨#[115, 105, 122, 101]⟩, [⟨#[108, 111, 119]⟩, ⟨#[104, 105, 103, 104]⟩, ⟨#[115, 116, 114, 105, 100, 101]⟩, ⟨#[100, 111, 109, 97, 105, 110]⟩])), false, 229, [.ptr (.sl ([⟨#[101]⟩].map .str))], (formsB [⟨#[101]⟩])⟩ := rfl
theorem shGet19 : shGet 19 = some ⟨none, false, 229, [.ptr (.sl ([⟨#[101, 101, 101]⟩].map .str))], (formsB [⟨#[101, 101, 101]⟩])⟩ := rfl
theorem len1 (h : (Tr.mk 1 nm num ks).shaped = true) : ks.length = 0 := len_forms (right_ok (s := ⟨_, _, _, _, _⟩) rfl shGet1 (Tr.shaped_mk h).1).1
theorem lit1 (h : (Tr.mk 1 nm num ks).shaped = true) : nm = ⟨#[]⟩ ∧ ks = [] :=
 ⟨(right_ok (s := ⟨_, _, _, _, _⟩) rfl shGet1 (Tr.shaped_mk h).1).2.2 rfl, List.length_eq_zero_iff.1 (len1 h)⟩
theorem lit2 (h : (Tr.mk 2 nm num ks).shaped = true) : nm = ⟨#[]⟩ ∧ ks = [] ∧ (num = 0 ∨ num = 1) := by
 obtain ⟨h1, _, h3⟩ := right_ok (s := ⟨_, _, _, _, _⟩) rfl shGet2 (Tr.shaped_mk h).1
 replace h1 : rule154 (.mk 2 nm num ks) = true := h1
 unfold rule154 at h1
 simp only [Tr.nu_mk, Tr.kids_mk, Bool.and_eq_true, Bool.or_eq_true, beq_iff_eq] at h1
 exact ⟨h3 rfl, List.length_eq_zero_iff.1 (by omega), h1.1⟩
theorem values_get (l : KL) (ks : List Tr) : Tr.values l ks = ks.map (Tr.value l) := by
 induction ks with
 | nil => rw [Tr.values]; rfl
 | cons k r ih => rw [Tr.values, ih]; rfl
theorem v0_map (l : KL) (ks : List Tr) (i : Nat) : v0 (Tr.values l ks) i = match ks[i]? with | some k => k.value l | none => none := by
 rw [values_get]
 unfold v0
 rw [List.getD_eq_getElem?_getD, List.getElem?_map]
 cases ks[i]? <;> rfl
theorem value_ok (l : KL) (hl : KOk l) : ∀ n (t : Tr), t.size ≤ n → t.Ok → t.shaped = true → ∀ v, t.value l = some v → ValOk v := by
 intro n
 induction n with
 | zero => intro t h; exact absurd t.size_pos (by omega)
 | succ n ih =>
  intro t hsz hok hsh v hv
  obtain ⟨op, nm, num, ks⟩ := t
  have hkd : ∀ k ∈ ks, ∀ v, k.value l = some v → ValOk v := fun k hk => by
   have h1 := Tr.size_mem hk
   rw [Tr.size] at hsz
   exact ih k (by omega) (Tr.kids_ok hok k hk) ((Tr.shaped_mk hsh).2 k hk)
  have hv0 : ∀ i v, v0 (Tr.values l ks) i = some v → ValOk v := fun i v h => by
   rw [v0_map] at h
   cases hk : ks[i]? with
   | none => rw [hk] at h; cases h
   | some k => rw [hk] at h; exact hkd k (mG hk) v h
  rw [Tr.value, valN] at hv
  split at hv
  · rename_i h
    injection hv with hv
    subst hv
    rw [Bool.or_eq_true, beq_iff_eq, beq_iff_eq] at h
    rcases h with rfl | rfl
    · obtain ⟨rfl, rfl⟩ := lit1 hsh
      refine .inl ⟨num, ?_, rfl⟩
      cases hok with | mk h1 h2 h3 h4 h5 =>
      simpa [Lit.wf, IntKind.min, IntKind.max, IntKind.signed, IntKind.bits, wf64] using h3
    · obtain ⟨rfl, rfl, rfl | rfl⟩ := lit2 hsh
      · exact .inr ⟨false, rfl⟩
      · exact .inr ⟨true, rfl⟩
  · split at hv
    · exact findK_ok hl v hv
    · split at hv
      · exact unaryV_ok hv
      · split at hv
        · exact binV_ok (hv0 0) (hv0 1) hv
        · split at hv
          · split at hv
            · cases hv
            · exact hv0 _ v hv
          · split at hv
            · split at hv
              · injection hv with hv; subst hv; exact .inl ⟨_, sizeS_wf _ _ _, rfl⟩
              · cases hv
            · cases hv
end
section
inductive Tr.Lens : Tr → Prop
 | mk {op : Int} {name : ByteArray} {num : Int} {ks : List Tr} (h4 : ks.length ≤ 1000000) (h5 : ∀ k ∈ ks, Tr.Lens k) : Tr.Lens (.mk op name num ks)
def badC : ByteArray × Tr → Bool
 | (_, .mk op name num ks) => (op != 1 && op != 2) || nodeE (.mk op name num ks) != 0
def constsB (l : List (ByteArray × Tr)) : Bool := !(l.any badC)
theorem badC_nil : constsB [] = true := rfl
def kl (l : List (ByteArray × Tr)) : KL := (l.map fun c => (c.1, some c.2)).reverse
end
section
theorem c1_3 : Tryz.prog.cellsOf 3 = 1 := by kernel_rfl
theorem c1_9 : Tryz.prog.cellsOf 9 = 1 := by kernel_rfl
theorem c1_22 : Tryz.prog.cellsOf 22 = 1 := by kernel_rfl
theorem c1_27 : Tryz.prog.cellsOf 27 = 4 := by kernel_rfl
theorem list4 : ∀ (ds : List D), ds.length = 4 → ∃ d0 d1 d2 d3, ds = [d0, d1, d2, d3]
 | [d0, d1, d2, d3], _ => ⟨d0, d1, d2, d3, rfl⟩
theorem tree_of {e : TypeId} {ds : List D} (h : DT Tryz.prog e ds) : (e = 27 → ∃ t : Tr, t.Ok ∧ D.agg ds = t.d) ∧ (e = 22 → ∃ ts : List Tr, ds = [.sl (ts.map Tr.d)] ∧ ts.length ≤ 140737488355328 ∧ ∀ t ∈ ts, t.Ok) := by
 induction h with
 | bool t b hu => exact ⟨fun h => (by subst h; rw [u27] at hu; cases hu), fun h => (by subst h; rw [u22] at hu; cases hu)⟩
 | int t k n hu => exact ⟨fun h => (by subst h; rw [u27] at hu; cases hu), fun h => (by subst h; rw [u22] at hu; cases hu)⟩
 | str t s hu => exact ⟨fun h => (by subst h; rw [u27] at hu; cases hu), fun h => (by subst h; rw [u22] at hu; cases hu)⟩
 | nil t e hu => exact ⟨fun h => (by subst h; rw [u27] at hu; cases hu), fun h => (by subst h; rw [u22] at hu; cases hu)⟩
 | ptr t e ds hu => exact ⟨fun h => (by subst h; rw [u27] at hu; cases hu), fun h => (by subst h; rw [u22] at hu; cases hu)⟩
 | sl t e dss hu hl hall ih =>
  refine ⟨fun h => (by subst h; rw [u27] at hu; cases hu), fun h => ?_⟩
  subst h
  rw [u22] at hu
  injection hu with hu
  injection hu with hu
  subst hu
  obtain ⟨ts, h1, h2, h3⟩ := list_at (P := Tryz.prog) (e := 27) (f := Tr.d) (Q := Tr.Ok) dss (fun i ds hi => by
   obtain ⟨t, ho, ht⟩ := (ih i ds hi).1 rfl
   exact ⟨t, ho, by simpa [D.mk, u27] using ht⟩)
  exact ⟨ts, by rw [h1], by rw [h3]; unfold reachBytes at hl; omega, h2⟩
 | struct t fs ds hu hl hall ih =>
  refine ⟨fun h => ?_, fun h => (by subst h; rw [u22] at hu; cases hu)⟩
  subst h
  rw [u27] at hu
  injection hu with hu
  injection hu with hu
  subst hu
  rw [c1_27] at hl
  obtain ⟨d0, d1, d2, d3, rfl⟩ := list4 ds hl
  have h0 : DT Tryz.prog 3 ((List.drop 0 [d0, d1, d2, d3]).take (Tryz.prog.cellsOf 3)) := hall 0 _ rfl
  have h1 : DT Tryz.prog 9 ((List.drop 1 [d0, d1, d2, d3]).take (Tryz.prog.cellsOf 9)) := hall 1 _ rfl
  have h2 : DT Tryz.prog 3 ((List.drop 2 [d0, d1, d2, d3]).take (Tryz.prog.cellsOf 3)) := hall 2 _ rfl
  obtain ⟨ts, h3, hlen, hok⟩ := (ih 3 _ rfl).2 rfl
  replace h3 : (List.drop 3 [d0, d1, d2, d3]).take (Tryz.prog.cellsOf 22) = [.sl (ts.map Tr.d)] := h3
  simp only [c1_3, c1_9, c1_22, List.drop_zero, List.drop_succ_cons, List.take_succ_cons, List.take_zero] at h0 h1 h2 h3
  obtain ⟨n0, e0, w0⟩ := h0.int_of u3
  obtain ⟨s1, e1, w1⟩ := h1.str_of u9
  obtain ⟨n2, e2, w2⟩ := h2.int_of u3
  obtain rfl := (List.cons.inj e0).1
  obtain rfl := (List.cons.inj e1).1
  obtain rfl := (List.cons.inj e2).1
  obtain rfl := (List.cons.inj h3).1
  exact ⟨.mk n0 s1 n2 ts, .mk w0 (by unfold reachBytes at w1; omega) w2 hlen hok, by rw [Tr.d_mk]⟩
theorem node_of {ds : List D} (h : DT Tryz.prog 27 ds) : ∃ t : Tr, t.Ok ∧ D.agg ds = t.d := (tree_of h).1 rfl
end
section
def z0 : Tr := .mk 0 ⟨#[]⟩ 0 []
def evalT : Tr → List (ByteArray × Tr) → Tr × Int
 | .mk op name num ks, l =>
  if (nodeE (.mk op name num ks) != 0) = true then (z0, nodeE (.mk op name num ks))
  else if (!isExprB op) = true then (z0, 2)
  else if (!constsB l) = true then (z0, 1)
  else match (Tr.mk op name num ks).value (kl l) with
   | none => (z0, 140)
   | some v => (v, 0)
theorem nodeE_shaped {op : Int} {name : ByteArray} {num : Int} {ks : List Tr} (h : nodeE (.mk op name num ks) = 0) : (Tr.mk op name num ks).shaped = true := by
 rw [nodeE] at h
 split at h
 · rename_i h1
   rw [h] at h1
   cases h1
 · split at h
   · cases h
   · rename_i h2
     cases hs : (Tr.mk op name num ks).shaped with
     | true => rfl
     | false => rw [hs] at h2; simp at h2
mutual
/-- An expression whose largest parts with a value are replaced by it. -/
def Tr.expr : Tr → Tr
 | .mk op name num ks =>
  if (!isExprB op) = true then .mk op name num ks
  else if ((evalT (.mk op name num ks) []).2 == 0) = true then (evalT (.mk op name num ks) []).1 else .mk op name num (Tr.exprs ks)
def Tr.exprs : List Tr → List Tr
 | [] => []
 | k :: r => k.expr :: Tr.exprs r
end
theorem Tr.exprs_map (ks : List Tr) : Tr.exprs ks = ks.map Tr.expr := by
 induction ks with
 | nil => rw [Tr.exprs]; rfl
 | cons k r ih => rw [Tr.exprs, ih]; rfl
end
section
theorem depth_mem : ∀ {ks : List Tr} {k : Tr} (d : Int), k ∈ ks → k.depth ≤ Tr.deeps ks d
 | x :: r, k, d, h => by
  rw [Tr.deeps]
  have h1 := Tr.deeps_bd r (if x.depth > d then x.depth else d)
  rcases List.mem_cons.1 h with rfl | h
  · split at h1 <;> rename_i h2 <;> first | rw [if_pos h2] | rw [if_neg h2]
    all_goals omega
  · exact depth_mem _ h
theorem lim_iff (t : Tr) : limitsE [t] = 0 ↔ (t.size : Int) ≤ 4000 ∧ t.depth ≤ 60 := by
 have hd := Tr.depth_bd t
 have hs : Tr.sizes [t] = t.size := by simp [Tr.sizes]
 have hp : Tr.deeps [t] 0 = t.depth := by
  rw [Tr.deeps, Tr.deeps, if_pos (by omega)]
 unfold limitsE
 rw [hs, hp]
 by_cases h1 : (t.size : Int) > 4000
 · rw [if_pos h1]; constructor
   · intro h; cases h
   · intro h; omega
 · rw [if_neg h1]
   by_cases h2 : t.depth > 60
   · rw [if_pos h2]; constructor
     · intro h; cases h
     · intro h; omega
   · rw [if_neg h2]; constructor
     · intro _; omega
     · intro _; rfl
def QT (t : Tr) : Prop := limitsE [t] = 0 ∧ t.shaped = true ∧ t.Ok
variable {op num : Int} {nm : ByteArray} {ks : List Tr}
theorem QT.kid (h : QT (.mk op nm num ks)) {k : Tr} (hk : k ∈ ks) : QT k := by
 obtain ⟨h1, h2, h3⟩ := h
 refine ⟨?_, (Tr.shaped_mk h2).2 k hk, Tr.kids_ok h3 k hk⟩
 rw [lim_iff] at h1 ⊢
 have hs := Tr.size_mem hk
 have hd := depth_mem 0 hk
 rw [Tr.size, Tr.depth] at h1
 omega
theorem QT.of {t : Tr} (h : nodeE t = 0) (hok : t.Ok) : QT t := by
 obtain ⟨op, nm, num, ks⟩ := t
 refine ⟨?_, nodeE_shaped h, hok⟩
 rw [nodeE] at h
 split at h
 · exact h
 · rename_i h1
   simpa using h1
theorem nodeE_expr (h : QT (.mk op nm num ks)) (ho : isExprB op = true) : nodeE (.mk op nm num ks) = 0 := by
 rw [nodeE, if_neg (by rw [h.1]; decide), if_neg (by rw [ho, h.2.1]; simp)]
theorem kl_nil : kl [] = [] := rfl
def evR : Option Tr → Tr × Int
 | none => (z0, 140)
 | some v => (v, 0)
theorem evalT_expr (h : QT (.mk op nm num ks)) (ho : isExprB op = true) : evalT (.mk op nm num ks) [] = evR ((Tr.mk op nm num ks).value []) := by
 rw [evalT, nodeE_expr h ho, if_neg (by decide), ho, if_neg (by decide), badC_nil, if_neg (by decide), kl_nil]
 cases (Tr.mk op nm num ks).value [] <;> rfl
def exR (op : Int) (nm : ByteArray) (num : Int) (ks : List Tr) : Option Tr → Tr
 | none => .mk op nm num (ks.map Tr.expr)
 | some v => v
theorem expr_expr (h : QT (.mk op nm num ks)) (ho : isExprB op = true) : (Tr.mk op nm num ks).expr = exR op nm num ks ((Tr.mk op nm num ks).value []) := by
 rw [Tr.expr, ho, if_neg (by decide), evalT_expr h ho]
 cases (Tr.mk op nm num ks).value [] with
 | none => rw [Tr.exprs_map]; rfl
 | some v => rfl
variable {v : Tr}
theorem ValOk.shaped (h : ValOk v) : v.shaped = true := by
 rcases h with ⟨n, _, rfl⟩ | ⟨b, rfl⟩
 · rfl
 · cases b <;> rfl
theorem ValOk.okT (h : ValOk v) : v.Ok := by
 rcases h with ⟨n, hn, rfl⟩ | ⟨b, rfl⟩
 · refine .mk (by decide) (by decide) ?_ (by decide) (by simp)
   simpa [Lit.wf, IntKind.min, IntKind.max, IntKind.signed, IntKind.bits, wf64] using hn
 · cases b
   · exact .mk (by decide) (by decide) (by decide) (by decide) (by simp)
   · exact .mk (by decide) (by decide) (by decide) (by decide) (by simp)
theorem ValOk.one (h : ValOk v) : v.size = 1 := by
 rcases h with ⟨n, _, rfl⟩ | ⟨b, rfl⟩
 · rw [intT, Tr.size, Tr.sizes]
 · rw [boolT, Tr.size, Tr.sizes]
theorem ValOk.QT (h : ValOk v) : QT v := by
 refine ⟨?_, h.shaped, h.okT⟩
 rw [lim_iff, h.one]
 have := Tr.depth_bd v
 have := h.one
 omega
theorem ValOk.self (h : ValOk v) (l : KL) : v.value l = some v ∧ v.span l = noSP := by
 rcases h with ⟨n, _, rfl⟩ | ⟨b, rfl⟩
 · exact ⟨rfl, rfl⟩
 · exact ⟨rfl, rfl⟩
theorem ValOk.eval (h : ValOk v) : evalT v [] = (v, 0) ∧ v.expr = v := by
 have hq := h.QT
 have hv := (h.self []).1
 rcases h with ⟨n, hn, rfl⟩ | ⟨b, rfl⟩
 · refine ⟨?_, ?_⟩
   · rw [intT] at hq hv ⊢; rw [evalT_expr hq rfl, hv]; rfl
   · rw [intT] at hq hv ⊢; rw [expr_expr hq rfl, hv]; rfl
 · refine ⟨?_, ?_⟩
   · rw [boolT] at hq hv ⊢; rw [evalT_expr hq rfl, hv]; rfl
   · rw [boolT] at hq hv ⊢; rw [expr_expr hq rfl, hv]; rfl
theorem spans_get (l : KL) (ks : List Tr) : Tr.spans l ks = ks.map (Tr.span l) := by
 induction ks with
 | nil => rw [Tr.spans]; rfl
 | cons k r ih => rw [Tr.spans, ih]; rfl
theorem KOk_nil : KOk [] := fun x hx => by cases hx
theorem QT.val {t : Tr} (h : QT t) {v : Tr} (hv : t.value [] = some v) : ValOk v := value_ok [] KOk_nil _ t (Nat.le_refl _) h.2.2 h.2.1 v hv
theorem Tr.d_eta (t : Tr) : t.d = .agg [.int .i64 t.op, .str t.nm, .int .i64 t.nu, .sl (t.kids.map Tr.d)] := by
 obtain ⟨op, nm, num, ks⟩ := t
 exact Tr.d_mk ..
end
section
def loopsB (op num : Int) (n : Nat) : Bool := ((((op == 54 || op == 55) || op == 56) && decide (num ≥ 0)) && decide (num ≤ 2)) && decide ((n : Int) ≥ W (num + 2))
def hideK (nm : ByteArray) (l : KL) : KL := (nm, none) :: l
def bindK (ks : List Tr) (l : KL) : KL := ks.foldl (fun l k => hideK k.nm l) l
def keepsB (op num : Int) (n i : Nat) (k : Tr) : Bool := ((op == 51 && (i : Int) == 0) && k.op == 4) || (loopsB op num n && decide ((i : Int) < num))
mutual
def Tr.put : Tr → KL → Tr
 | .mk op nm num ks, l =>
  if (op == 4) = true then (match findK nm l with | some v => v | none => .mk op nm num ks)
  else if (op == 67) = true then .mk op nm num ks
  else .mk op nm num (Tr.puts op num ks l 0 l ks)
def Tr.puts (op num : Int) (all : List Tr) (l : KL) (i : Nat) (inner : KL) : List Tr → List Tr
 | [] => []
 | k :: r =>
  if keepsB op num all.length i k = true then k :: Tr.puts op num all l (i + 1) (if (k.op == 50) = true then hideK k.nm inner else inner) r
  else if (loopsB op num all.length && (i : Int) == W (num + 1)) = true then k.put (bindK (all.take num.toNat) inner) :: Tr.puts op num all l (i + 1) (if (k.op == 50) = true then hideK k.nm l else l) r
  else k.put inner :: Tr.puts op num all l (i + 1) (if (k.op == 50) = true then hideK k.nm inner else inner) r
end
def hideV (k : Tr) (l : KL) : KL := if (k.op == 50) = true then hideK k.nm l else l
def stepT (op num : Int) (all : List Tr) (l : KL) (i : Nat) (inner : KL) (k : Tr) : Tr × KL :=
 if keepsB op num all.length i k = true then (k, hideV k inner)
 else if (loopsB op num all.length && (i : Int) == W (num + 1)) = true then (k.put (bindK (all.take num.toNat) inner), hideV k l)
 else (k.put inner, hideV k inner)
def endK (op num : Int) (all : List Tr) (l : KL) : Nat → KL → List Tr → KL
 | _, inner, [] => inner
 | i, inner, k :: r => endK op num all l (i + 1) (stepT op num all l i inner k).2 r
def KLens (l : KL) : Prop := ∀ x ∈ l, ∀ t, x.2 = some t → t.Lens
variable {l : KL}
theorem KLens.hide (h : KLens l) (nm : ByteArray) : KLens (hideK nm l) := fun x hx t ht => by
 rcases List.mem_cons.1 hx with rfl | hx
 · cases ht
 · exact h x hx t ht
theorem KLens.hideV (h : KLens l) (k : Tr) : KLens (hideV k l) := by
 unfold Go.Proofs.YtklkbfpjimeaoaaGreat.hideV
 split
 · exact h.hide _
 · exact h
theorem KLens.bind : ∀ (ks : List Tr) {l : KL}, KLens l → KLens (bindK ks l)
 | [], l, h => h
 | k :: r, l, h => by
  show KLens (bindK r (hideK k.nm l))
  exact KLens.bind r (h.hide _)
theorem KLens.step {op num : Int} {all : List Tr} {inner : KL} (hl : KLens l) (hi : KLens inner) (i : Nat) (k : Tr) : KLens (stepT op num all l i inner k).2 := by
 unfold stepT
 split
 · exact hi.hideV k
 · split
   · exact hl.hideV k
   · exact hi.hideV k
theorem Tr.Lens.mk' {op num : Int} {nm : ByteArray} {ks : List Tr} (h : (Tr.mk op nm num ks).Lens) : ks.length ≤ 1000000 ∧ ∀ k ∈ ks, k.Lens := by cases h; exact ⟨by assumption, by assumption⟩
end
section
theorem all_zip {α : Type} (q : α → Bool) : ∀ (xs : List α), (xs.zipIdx.all fun x => q x.1) = xs.all q := by
 intro xs
 rw [Bool.eq_iff_iff, List.all_eq_true, List.all_eq_true]
 constructor
 · intro h x hx
   obtain ⟨i, hi⟩ := List.getElem?_of_mem hx
   exact h (x, i) (List.mem_zipIdx_iff_getElem?.2 hi)
 · rintro h ⟨x, i⟩ hx
   exact h x (mG (List.mem_zipIdx_iff_getElem?.1 hx))
def allE (ks : List Tr) : Bool := ks.all fun k => isExprB k.op
theorem kidsB_e {s : ByteArray} (hs : ∀ i, i < s.size → s[i]! = 101) (ks : List Tr) : kidsB ks s = (decide (ks.length = s.size) && allE ks) := by
 unfold kidsB
 by_cases h : ks.length = s.size
 · rw [decide_eq_true h, Bool.true_and, Bool.true_and, allE, ← all_zip (fun k : Tr => isExprB k.op)]
   rw [Bool.eq_iff_iff, List.all_eq_true, List.all_eq_true]
   have hk : ∀ x ∈ ks.zipIdx, kindOk ((s[x.2]!).toNat : Nat) x.1.op = isExprB x.1.op := by
    rintro ⟨k, i⟩ hx
    have hi := (lG (List.mem_zipIdx_iff_getElem?.1 hx))
    show kindOk ((s[i]!).toNat : Nat) k.op = _
    rw [hs i (by omega)]
    rfl
   constructor
   · intro h x hx; rw [← hk x hx]; exact h x hx
   · intro h x hx; rw [hk x hx]; exact h x hx
 · rw [decide_eq_false h, Bool.false_and, Bool.false_and]
theorem e1s : ∀ i, i < e1.size → e1[i]! = 101 := by decide
theorem e2s : ∀ i, i < ee.size → ee[i]! = 101 := by decide
theorem e3s : ∀ i, i < eee.size → eee[i]! = 101 := by decide
theorem exs (n : Nat) : ∀ i, i < (eee.extract 0 n).size → (eee.extract 0 n)[i]! = 101 := by
 intro i hi
 have h3 : eee.size = 3 := rfl
 rw [ByteArray.size_extract] at hi
 have hlt : i < 3 := by omega
 have hn : i < n := by omega
 have hi' : i < (eee.extract 0 n).size := by rw [ByteArray.size_extract]; exact hi
 rw [getElem!_pos (eee.extract 0 n) i hi', ByteArray.getElem_extract]
 have h := e3s i (by rw [h3]; exact hlt)
 rw [getElem!_pos eee i (by rw [h3]; exact hlt)] at h
 simpa using h
def Kin (f : Tr → Tr) (ks : List Tr) : Prop := ∀ k ∈ ks, isExprB (f k).op = isExprB k.op ∧ ((f k).op == 30) = (k.op == 30)
variable {f : Tr → Tr} {ks : List Tr}
theorem Kin.allE (h : Kin f ks) : allE (ks.map f) = allE ks := by
 unfold Go.Proofs.YtklkbfpjimeaoaaGreat.allE
 rw [Bool.eq_iff_iff, List.all_map, List.all_eq_true, List.all_eq_true]
 constructor
 · intro h1 k hk; rw [← (h k hk).1]; exact h1 k hk
 · intro h1 k hk; show isExprB (f k).op = true; rw [(h k hk).1]; exact h1 k hk
theorem Kin.kidsB (h : Kin f ks) {s : ByteArray} (hs : ∀ i, i < s.size → s[i]! = 101) : kidsB (ks.map f) s = kidsB ks s := by
 rw [kidsB_e hs, kidsB_e hs, h.allE, List.length_map]
theorem Kin.every (h : Kin f ks) : everyB (fun op => isExprB op || op == 30) (ks.map f) = everyB (fun op => isExprB op || op == 30) ks := by
 unfold everyB
 rw [List.any_map]
 congr 1
 rw [Bool.eq_iff_iff, List.any_eq_true, List.any_eq_true]
 have he : ∀ k ∈ ks, ((fun k : Tr => !(isExprB k.op || k.op == 30)) ∘ f) k = !(isExprB k.op || k.op == 30) := fun k hk => by
  show (!(isExprB (f k).op || (f k).op == 30)) = _
  rw [(h k hk).1, (h k hk).2]
 constructor
 · rintro ⟨k, hk, h1⟩; exact ⟨k, hk, by rw [← he k hk]; exact h1⟩
 · rintro ⟨k, hk, h1⟩; exact ⟨k, hk, by rw [he k hk]; exact h1⟩
theorem Kin.forms (h : Kin f ks) {op num : Int} {nm : ByteArray} {ts : List ByteArray} (hs : ∀ s ∈ ts, ∀ i, i < s.size → s[i]! = 101) : formsB ts (.mk op nm num (ks.map f)) = formsB ts (.mk op nm num ks) := by
 unfold formsB
 rw [Bool.eq_iff_iff, List.any_eq_true, List.any_eq_true]
 constructor
 · rintro ⟨s, h1, h2⟩; exact ⟨s, h1, by rw [Tr.kids_mk] at h2 ⊢; rw [← h.kidsB (hs s h1)]; exact h2⟩
 · rintro ⟨s, h1, h2⟩; exact ⟨s, h1, by rw [Tr.kids_mk] at h2 ⊢; rw [h.kidsB (hs s h1)]; exact h2⟩
theorem Kin.tab (h : Kin f ks) {op num : Int} {nm : ByteArray} : ∀ x ∈ shapeTab, isExprB x.1 = true → x.2.ok (.mk op nm num (ks.map f)) = x.2.ok (.mk op nm num ks) := by
 intro x hx he
 simp only [shapeTab, List.mem_cons, List.not_mem_nil, or_false] at hx
 rcases hx with rfl | rfl | rfl | rfl | rfl | rfl | rfl | rfl | rfl | rfl | rfl | rfl | rfl | rfl | rfl | rfl | rfl | rfl | rfl | rfl | rfl | rfl | rfl | rfl | rfl | rfl | rfl | rfl | rfl | rfl | rfl | rfl | rfl <;> first | exact absurd he (by decide) | exact h.forms (by decide) | (show rule154 _ = rule154 _; unfold rule154; rw [Tr.kids_mk, Tr.kids_mk, List.length_map]; rfl)
variable {op : Int}
theorem shGet_tab {s : Sh} (h : shGet op = some s) : ∃ x ∈ shapeTab, x.1 = op ∧ x.2 = s := by
 unfold shGet at h
 cases hf : shapeTab.find? (fun x => decide (x.1 = op)) with
 | none => rw [hf] at h; cases h
 | some x =>
  rw [hf] at h
  injection h with h
  exact ⟨x, List.mem_of_find?_eq_some hf, by simpa using List.find?_some hf, h⟩
theorem ne_of_expr {k : Int} (ho : isExprB op = true) (hk : isExprB k = false) : (op == k) = false := by
 rw [beq_eq_false_iff_ne]
 rintro rfl
 rw [ho] at hk
 cases hk
theorem Kin.right (h : Kin f ks) {op num : Int} {nm : ByteArray} (ho : isExprB op = true) : rightB (.mk op nm num (ks.map f)) = rightB (.mk op nm num ks) := by
 have h2 : otherB (.mk op nm num (ks.map f)) = otherB (.mk op nm num ks) := by
  rw [otherB, otherB, h.every, h.kidsB (exs _), h.kidsB e2s, h.kidsB e1s, List.length_map, ne_of_expr ho (show isExprB 30 = false from rfl), ne_of_expr ho (show isExprB 50 = false from rfl)]
  simp only [Bool.false_eq_true, if_false]
 rw [rightB, rightB, h2]
 cases hs : shGet op with
 | none => rfl
 | some s =>
  obtain ⟨x, hx, rfl, rfl⟩ := shGet_tab hs
  have ht := h.tab (op := x.1) (num := num) (nm := nm) x hx ho
  obtain ⟨xo, nms, nb, g, caps, ok⟩ := x
  dsimp only at ht ⊢
  rw [ht]
def EK (op : Int) : Prop := isExprB op = true ∨ op = 30
theorem EK.ne {k : Int} (h : EK op) (h1 : isExprB k = false) (h2 : k ≠ 30) : (op == k) = false := by
 rcases h with h | rfl
 · exact ne_of_expr h h1
 · rw [beq_eq_false_iff_ne]; omega
theorem ValOk.ex {v : Tr} (h : ValOk v) : isExprB v.op = true ∧ (v.op == 30) = false := by
 rcases h with ⟨n, _, rfl⟩ | ⟨b, rfl⟩
 · exact ⟨rfl, rfl⟩
 · exact ⟨rfl, rfl⟩
mutual
/-- A Name that is used. -/
def Tr.uses (x : ByteArray) : Tr → Bool
 | .mk op nm _ ks => if (op == 4) = true then decide (nm = x) else Tr.usess x ks
def Tr.usess (x : ByteArray) : List Tr → Bool
 | [] => false
 | k :: r => k.uses x || Tr.usess x r
end
theorem kl_snoc (l : List (ByteArray × Tr)) (c : ByteArray × Tr) : kl (l ++ [c]) = (c.1, some c.2) :: kl l := by
 unfold kl
 rw [List.map_append, List.reverse_append]; rfl
end
section
theorem c81 (op : Int) : Pf Tryz.prog 81 [.int .i64 op] (.d (.bool (isExprB op))) := by
 refine pf_body (rvs := [.tmp 2]) [(0, .d (.int .i64 op))] Tryz.func81 Tryz.ntmps81 Tryz.results81 (fun S0 O0 w0 m0 hm0 => ?_)
 refine Z194 ?_;refine Z83 ?_;refine Z170 ?_;refine Z102 ?_;refine Z149 ?_;refine Z18 ?_;refine Z114 ?_;refine Z172 ?_
 exact ⟨by simp [isExprB, Bool.and_assoc], rfl⟩
theorem c96 (op : Int) : Pf Tryz.prog 96 [.int .i64 op] (.d (.bool (isStmtB op))) := by
 refine pf_body (rvs := [.tmp 2]) [(0, .d (.int .i64 op))] Tryz.func96 Tryz.ntmps96 Tryz.results96 (fun S0 O0 w0 m0 hm0 => ?_)
 refine Z194 ?_;refine Z83 ?_;refine Z170 ?_;refine Z102 ?_;refine Z172 ?_
 exact ⟨by simp [isStmtB, Bool.and_assoc], rfl⟩
def lettR (c : Int) : Bool := (decide (c ≥ 97) && decide (c ≤ 122)) || (decide (c ≥ 65) && decide (c ≤ 90))
theorem by_get {s : ByteArray} {z : Nat} {c : UInt8} (h : s.data.toList[z]? = some c) : s[z]! = c := by
 obtain ⟨hlt, he⟩ := List.getElem?_eq_some_iff.1 h
 have hs : z < s.size := by rw [← bytes_len]; exact hlt
 rw [getElem!_pos s z hs, ← he]; rfl
theorem kind_eq (c op : Int) : kindOk c op = !(((c == 101 && !isExprB op) || (c == 98 && op != 66)) || (c == 110 && op != 4)) := by
 unfold kindOk
 by_cases h1 : c = 101
 · subst h1; simp
 · by_cases h2 : c = 98
   · subst h2; simp [bne]
     cases h : (op == 66) <;> simp_all
   · by_cases h3 : c = 110
     · subst h3; simp [bne]
       cases h : (op == 4) <;> simp_all
     · simp [h1, h2, h3]
theorem c240 (c : Int) : Pf Tryz.prog 240 [.int .u8 c] (.d (.bool (lettR c))) := by
 refine pf_body (rvs := [.tmp 2]) [(0, .d (.int .u8 c))] Tryz.func240 Tryz.ntmps240 Tryz.results240 (fun S0 O0 w0 m0 hm0 => ?_)
 refine Z194 ?_;refine Z83 ?_;refine Z170 ?_;refine Z102 ?_;refine Z149 ?_;refine Z18 ?_
 refine sg rfl (fun hg => sP 10 rfl hg q_geq) ?_
 refine sg rfl (fun hg => sP 11 rfl hg qM) ?_
 refine Z18 ?_
 refine sg rfl (fun hg => sP 13 rfl hg q_leq) ?_
 refine sg rfl (fun hg => sP 12 rfl hg q_and) ?_
 refine Z22 ?_;refine Z133 ?_
 exact ⟨rfl, rfl⟩
set_option maxHeartbeats 1000000 in
theorem c174 (s : ByteArray) : Pf Tryz.prog 174 [.str s] (.d (.bool (nameB s))) := by
 refine pf_body (rvs := [.tmp 2]) [(0, .d (.str s))] Tryz.func174 Tryz.ntmps174 Tryz.results174 (fun S0 O0 w0 m0 hm0 => ?_)
 refine Z5 ?_;refine Z189 ?_;refine Z64 ?_;refine Z44 ?_;refine Z170 ?_
 refine sg rfl (fun hg => sP 8 rfl hg (q_lenstr u9)) ?_
 refine sg rfl (fun hg => sP 9 rfl hg q_gtr) ?_
 refine Z152 ?_
 refine zgC ?_ ?_ <;> intro hb0
 ·
  have hnm : nameB s = false := by unfold nameB; rw [hb0]; rfl
  refine Z5 ?_;refine Z151 ?_
  exact ⟨by rw [hnm], rfl⟩
 have hsz : 1 ≤ s.size ∧ s.size ≤ 40 := by
  simp only [Bool.or_eq_false_iff, decide_eq_false_iff_not] at hb0
  omega
 refine Z95 ?_;refine Z198 ?_
 refine g_loop (α := Nat) (fun z => ⟨[(3, .d (.int .i64 (z : Nat))), (0, .d (.str s))], []⟩) (fun z => s.size - z) (fun z => z ≤ s.size ∧ ∀ i, i < z → ∀ c, s.data.toList[i]? = some c → charOk i (c.toNat : Nat) = true) 0 ⟨Nat.zero_le _, by simp⟩ (fun z hz Q' hn0 he0 hr0 => ?_) (le_of)
 obtain ⟨hz1, hz2⟩ := hz
 refine Z39 ?_;refine Z144 ?_;refine Z64 ?_;refine Z192 ?_
 refine zgC ?_ ?_ <;> intro hb1
 ·
  have hlt : z < s.size := by
   have : (z : Int) < (s.size : Nat) := by simpa using hb1
   omega
  obtain ⟨c, hc⟩ : ∃ c, s.data.toList[z]? = some c := ⟨_, gE (by rw [bytes_len]; exact hlt)⟩
  have hcc := by_get hc
  refine Z24 ?_;refine Z144 ?_
  refine vq rfl ((q_strindex u9)) ?_
  refine gL (xs := [.tmp 20]) rfl (c240 _) ?_
  refine Z54 ?_;refine Z170 ?_;refine Z18 ?_
  refine sg rfl (fun hg => sP 25 rfl hg (sP 24 rfl hg (q_strindex u9))) ?_
  refine sg rfl (fun hg => sP 26 rfl hg q_neq) ?_
  refine Z149 ?_;refine Z18 ?_
  refine sg rfl (fun hg => sP 30 rfl hg q_eql) ?_
  refine sg rfl (fun hg => sP 31 rfl hg qM) ?_
  refine Z18 ?_;refine Z18 ?_
  refine sg rfl (fun hg => sP 34 rfl hg (sP 33 rfl hg (q_strindex u9))) ?_
  refine sg rfl (fun hg => sP 35 rfl hg q_lss) ?_
  refine sg rfl (fun hg => sP 32 rfl hg q_or) ?_
  refine sg rfl (fun hg => sP 37 rfl hg qM) ?_
  refine Z18 ?_;refine Z18 ?_
  refine sg rfl (fun hg => sP 40 rfl hg (sP 39 rfl hg (q_strindex u9))) ?_
  refine sg rfl (fun hg => sP 41 rfl hg q_gtr) ?_
  refine sg rfl (fun hg => sP 38 rfl hg q_or) ?_
  refine Z11 ?_;refine Z9 ?_
  refine zgC ?_ ?_ <;> intro hb2
  ·
   have hch : charOk z (c.toNat : Nat) = false := by
    simp only [Int.toNat_natCast, hcc, lettR, Bool.and_eq_true, Bool.or_eq_true, Bool.not_eq_true', Bool.not_eq_false', Bool.or_eq_false_iff, Bool.and_eq_false_iff, decide_eq_true_eq, decide_eq_false_iff_not, beq_iff_eq, beq_eq_false_iff_ne, bne_iff_ne, bne_eq_false_iff_eq] at hb2
    simp only [charOk, letterB, Bool.or_eq_false_iff, Bool.and_eq_false_iff, Bool.not_eq_false', decide_eq_true_eq, decide_eq_false_iff_not]
    omega
   refine Z38 ?_
   refine gP [0, 2, 3] ?_
   refine Z17 ?_;refine Z190 ?_;refine Z4 ?_
   exact Y11
  have hch : charOk z (c.toNat : Nat) = true := by
   simp only [Int.toNat_natCast, hcc, lettR, Bool.and_eq_true, Bool.or_eq_true, Bool.not_eq_true', Bool.not_eq_false', Bool.or_eq_false_iff, Bool.and_eq_false_iff, decide_eq_true_eq, decide_eq_false_iff_not, beq_iff_eq, beq_eq_false_iff_ne, bne_iff_ne, bne_eq_false_iff_eq] at hb2
   simp only [charOk, letterB, Bool.or_eq_true, Bool.and_eq_true, Bool.not_eq_true', decide_eq_true_eq, decide_eq_false_iff_not]
   omega
  refine Z103 ?_
  refine gP [0, 2, 3] ?_
  refine Z17 ?_;refine Z179 ?_
  refine hn0 _ (z + 1) ⟨by omega, upto_step (p := fun i (c : UInt8) => charOk i (c.toNat : Nat)) hz2 hc hch⟩ (by omega) le_of
 have hge : z = s.size := by
  have : ¬ (z : Int) < (s.size : Nat) := by simpa using hb1
  omega
 refine Z164 ?_;refine Z133 ?_
 exact Y5
theorem c176 (ts : List ByteArray) (v : ByteArray) (hlim : ts.length ≤ 140737488355328) : Pf Tryz.prog 176 [.sl (ts.map .str), .str v] (.d (.bool (hasB ts v))) := by
 refine pf_body (rvs := [.tmp 4]) [(0, .d (.sl (ts.map .str))), (1, .d (.str v))] Tryz.func176 Tryz.ntmps176 Tryz.results176 (fun S0 O0 w0 m0 hm0 => ?_)
 refine Z5 ?_;refine Z143 ?_;refine Z198 ?_
 refine g_loop (α := Nat) (fun z => ⟨[(5, .d (.int .i64 (z : Nat))), (1, .d (.str v)), (0, .d (.sl (ts.map .str)))], []⟩) (fun z => ts.length - z) (fun z => z ≤ ts.length ∧ ∀ i, i < z → ∀ x, ts[i]? = some x → (fun s => decide (v = s)) x = false) 0 ⟨Nat.zero_le _, by simp⟩ (fun z hz Q' hn0 he0 hr0 => ?_) (le_of)
 obtain ⟨hz1, hz2⟩ := hz
 refine Z39 ?_;refine Z144 ?_
 refine vq rfl (q_len u63) ?_
 refine Z192 ?_
 refine zgC ?_ ?_ <;> intro hb0
 ·
  have hlt : z < ts.length := by simpa using hb0
  obtain ⟨x, hx⟩ : ∃ x, ts[z]? = some x := ⟨_, gE hlt⟩
  have hmem := mG hx
  have hxd := strs_get hx
  refine Z24 ?_;refine Z144 ?_
  refine vq rfl (qI u63 sz9) ?_
  refine Z37 ?_;refine Z2 ?_;refine Z53 ?_;refine Z9 ?_
  refine zgC ?_ ?_ <;> intro hb1
  ·
   refine Z5 ?_;refine Z190 ?_;refine Z4 ?_
   exact ⟨by rw [show hasB ts v = true from List.any_eq_true.2 ⟨x, hmem, by have := oR hb1; exact decide_eq_true this.symm⟩], rfl⟩
  refine Z92 ?_;refine Z179 ?_
  refine hn0 _ (z + 1) ⟨by omega, idxL_step hz2 hx (by have := of_decide_eq_false hb1; exact decide_eq_false (fun e => this e.symm))⟩ (by omega) le_of
 have hge : z = ts.length := by
  have : ¬ (z : Int) < (ts.map D.str).length := by simpa using hb0
  rw [List.length_map] at this
  omega
 refine Z164 ?_;refine Z133 ?_
 exact ⟨by rw [show hasB ts v = false from List.any_eq_false.2 (fun x hx => by obtain ⟨i, hi⟩ := List.getElem?_of_mem hx; have := hz2 i (by have := (lG hi); omega) x hi; simpa using this)], rfl⟩
def bareB (t : Tr) : Bool := decide (t.nm = ⟨#[]⟩) && t.nu == 0
theorem c177 (t : Tr) : Pf Tryz.prog 177 [t.d] (.d (.bool (bareB t))) := by
 obtain ⟨op, name, num, ks⟩ := t
 rw [Tr.d_mk]
 try simp only [Tr.op_mk, Tr.nm_mk, Tr.nu_mk, Tr.kids_mk]
 refine pf_body (rvs := [.tmp 2]) [(0, .d (.agg [.int .i64 op, .str name, .int .i64 num, .sl (ks.map Tr.d)]))] Tryz.func177 Tryz.ntmps177 Tryz.results177 (fun S0 O0 w0 m0 hm0 => ?_)
 refine Z174 ?_;refine Z150 ?_;refine Z53 ?_;refine Z147 ?_;refine Z112 ?_
 refine sg rfl (fun hg => sP 8 rfl hg q_eql) ?_
 refine Z172 ?_
 exact ⟨rfl, rfl⟩
set_option maxHeartbeats 4000000 in
theorem c239 (t : Tr) (s : ByteArray) (hok : t.Ok) : Pf Tryz.prog 239 [t.d, .str s] (.d (.bool (kidsB t.kids s))) := by
 obtain ⟨op, name, num, ks⟩ := t
 rw [Tr.d_mk]
 try simp only [Tr.op_mk, Tr.nm_mk, Tr.nu_mk, Tr.kids_mk]
 cases hok with | mk h1 h2 h3 h4 h5 =>
 refine pf_body (rvs := [.tmp 4]) [(0, .d (.agg [.int .i64 op, .str name, .int .i64 num, .sl (ks.map Tr.d)])), (1, .d (.str s))] Tryz.func239 Tryz.ntmps239 Tryz.results239 (fun S0 O0 w0 m0 hm0 => ?_)
 refine Z186 ?_;refine Z165 ?_;refine Z2 ?_;refine Z64 ?_;refine Z84 ?_;refine Z9 ?_
 refine zgC ?_ ?_ <;> intro hb0
 ·
  have hne : ¬ ks.length = s.size := by
   simp at hb0
   omega
  refine Z5 ?_;refine Z151 ?_
  exact ⟨by rw [kidsB]; simp [Tr.kids, hne], rfl⟩
 have hle : ks.length = s.size := by
  simp at hb0
  omega
 refine Z95 ?_;refine Z198 ?_
 refine g_loop (α := Nat) (fun z => ⟨[(5, .d (.int .i64 (z : Nat))), (2, .d (.ptr (.agg [.int .i64 op, .str name, .int .i64 num, .sl (ks.map Tr.d)]))), (1, .d (.str s))], []⟩) (fun z => ks.length - z) (fun z => z ≤ ks.length ∧ ∀ i, i < z → ∀ k, ks[i]? = some k → kindOk ((s[i]!).toNat : Nat) k.op = true) 0 ⟨Nat.zero_le _, by simp⟩ (fun z hz Q' hn0 he0 hr0 => ?_) (le_of)
 obtain ⟨hz1, hz2⟩ := hz
 refine Z39 ?_;refine Z144 ?_;refine Z64 ?_;refine Z192 ?_
 refine zgC ?_ ?_ <;> intro hb1
 ·
  have hlt : z < s.size := by
   have : (z : Int) < (s.size : Nat) := by simpa using hb1
   omega
  obtain ⟨k, hk⟩ : ∃ k, ks[z]? = some k := ⟨_, gE (by omega)⟩
  have hmem := mG hk
  have hxd := Tr.ds_get hk
  have hxa := hxd
  obtain ⟨kop, knm, knu, kks, hka⟩ := k.d_agg
  rw [hka] at hxa
  have hkop : k.op = kop := by obtain ⟨o, n, u, l⟩ := k; rw [Tr.d_mk] at hka; injection hka with hka; injection hka with hka; injection hka
  refine Z24 ?_;refine Z146 ?_;refine Z2 ?_;refine Z58 ?_;refine Z137 ?_;refine Z134 ?_;refine Z144 ?_
  refine vq rfl ((q_strindex u9)) ?_
  refine Z15 ?_;refine Z170 ?_
  refine g_callg (xs := [.tmp 30]) rfl (fun hg => c81 kop) ?_
  refine sg rfl (fun hg => sP 31 rfl hg q_not) ?_
  refine Z149 ?_;refine Z18 ?_;refine Z18 ?_
  refine sg rfl (fun hg => sP 36 rfl hg (sP 35 rfl hg (q_strindex u9))) ?_
  refine sg rfl (fun hg => sP 37 rfl hg q_eql) ?_
  refine sg rfl (fun hg => sP 38 rfl hg qM) ?_
  refine Z18 ?_
  refine sg rfl (fun hg => sP 40 rfl hg q_neq) ?_
  refine sg rfl (fun hg => sP 39 rfl hg q_and) ?_
  refine Z22 ?_;refine Z170 ?_;refine Z18 ?_
  refine sg rfl (fun hg => sP 46 rfl hg (sP 45 rfl hg (q_strindex u9))) ?_
  refine sg rfl (fun hg => sP 47 rfl hg q_eql) ?_
  refine sg rfl (fun hg => sP 48 rfl hg qM) ?_
  refine Z18 ?_
  refine sg rfl (fun hg => sP 50 rfl hg q_neq) ?_
  refine sg rfl (fun hg => sP 49 rfl hg q_and) ?_
  refine Z152 ?_
  refine zgC ?_ ?_ <;> intro hb2
  ·
   have hkk : kindOk ((s[z]!).toNat : Nat) k.op = false := by
    rw [kind_eq, hkop]
    simp only [Int.toNat_natCast] at hb2
    rw [hb2]; rfl
   refine Z5 ?_;refine Z190 ?_;refine Z4 ?_
   exact ⟨by rw [kidsB, zipIdx_not (p := fun i (k : Tr) => kindOk ((s[i]!).toNat : Nat) k.op) hk hkk, Bool.and_false], rfl⟩
  have hkk : kindOk ((s[z]!).toNat : Nat) k.op = true := by
   rw [kind_eq, hkop]
   simp only [Int.toNat_natCast] at hb2
   rw [hb2]; rfl
  refine Z92 ?_;refine Z179 ?_
  refine hn0 _ (z + 1) ⟨by omega, upto_step (p := fun i (k : Tr) => kindOk ((s[i]!).toNat : Nat) k.op) hz2 hk hkk⟩ (by omega) le_of
 have hge : z = ks.length := by
  have : ¬ (z : Int) < (s.size : Nat) := by simpa using hb1
  omega
 refine Z164 ?_;refine Z133 ?_
 exact Y4
end
end Go.Proofs.YtklkbfpjimeaoaaGreat
