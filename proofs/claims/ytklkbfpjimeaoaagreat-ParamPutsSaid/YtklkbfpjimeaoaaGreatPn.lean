/- Contracts of functions. Conditions: none. -/
import Derived.Test.YtklkbfpjimeaoaaGreatPm
namespace Go.Proofs.YtklkbfpjimeaoaaGreat
open Go Go.Proofs.YtklkbfpjimeaoaaGreat.E
mutual
def Tr.value (l : KL) : Tr → Option Tr
  | .mk op nm num ks => valN l op nm num ks (Tr.values l ks) (Tr.spans l ks)
def Tr.span (l : KL) : Tr → SP
  | .mk op _ _ ks => spanN op (Tr.values l ks) (Tr.spans l ks)
def Tr.values (l : KL) : List Tr → List (Option Tr)
  | [] => []
  | k :: r => k.value l :: Tr.values l r
def Tr.spans (l : KL) : List Tr → List SP
  | [] => []
  | k :: r => k.span l :: Tr.spans l r
end
/-- A value: an Int or a Bool. -/
def ValOk (v : Tr) : Prop := (∃ n, wf64 n ∧ v = intT n) ∨ ∃ b, v = boolT b
def KOk (l : KL) : Prop := ∀ x ∈ l, ∀ t, x.2 = some t → ValOk t
theorem ValOk.num {v : Tr} (h : ValOk v) (h2 : v.op = 2) : v.nu = 0 ∨ v.nu = 1 := by
  rcases h with ⟨n, _, rfl⟩ | ⟨b, rfl⟩
  · cases h2
  · cases b
    · exact .inl rfl
    · exact .inr rfl
theorem findK_ok {nm : ByteArray} : ∀ {l : KL}, KOk l → ∀ v, findK nm l = some v → ValOk v
  | [], _, v, h => by cases h
  | x :: r, hl, v, h => by
    rw [findK] at h
    split at h
    · exact hl x (by simp) v h
    · exact findK_ok (fun y hy => hl y (by simp [hy])) v h
theorem wf0 : wf64 0 := by unfold wf64; omega
theorem wf1 : wf64 1 := by unfold wf64; omega
theorem normal_wf {f b c : Int} (h : wf64 b) : wf64 (normalS f b c).1.2.2 := by
  unfold normalS
  split
  · exact wf1
  · split
    · exact wf0
    · show wf64 (if (c == 1) = true then 1 else b)
      split
      · exact wf1
      · exact h
theorem series_wf {lo hi st : Int} (h : wf64 st) : wf64 (seriesS lo hi st).2.1 := by
  unfold seriesS
  split
  · exact wf0
  · split
    · exact h
    · exact h
theorem ofS_wf (lo hi : Int) : wf64 (ofS lo hi).1.2.2 := by
  unfold ofS
  split
  · exact wf0
  · split
    · exact normal_wf wf0
    · exact normal_wf wf1
theorem byS_wf (lo hi st n : Int) : wf64 (byS lo hi st n).1.2.2 := by
  unfold byS
  repeat' split
  · exact wf0
  · exact wf0
  · exact wf0
  · exact normal_wf (W_wf _)
  · exact normal_wf (W_wf _)
theorem countS_wf {lo hi st : Int} (h : wf64 st) (n : Int) : wf64 (countS lo hi st n).1.2.2 := by
  unfold countS
  repeat' split
  · exact wf0
  · exact wf0
  · exact normal_wf (series_wf h)
  · exact normal_wf (series_wf h)
theorem spanN_wf {op : Int} {vs : List (Option Tr)} {ss : List SP} (h : wf64 (s0 ss).1.2.2) : wf64 (spanN op vs ss).1.2.2 := by
  unfold spanN
  repeat' split
  · exact wf0
  · exact ofS_wf _ _
  · exact wf0
  · exact countS_wf h _
  · exact byS_wf _ _ _ _
  · exact wf0
theorem Tr.span_wf (l : KL) : ∀ n (t : Tr), t.size ≤ n → wf64 (t.span l).1.2.2 := by
  intro n
  induction n with
  | zero => intro t h; exact absurd t.size_pos (by omega)
  | succ n ih =>
    intro t h
    obtain ⟨op, nm, num, ks⟩ := t
    rw [Tr.span]
    refine spanN_wf ?_
    cases ks with
    | nil => rw [Tr.spans]; exact wf0
    | cons k r =>
      rw [Tr.spans]
      exact ih k (by rw [Tr.size, Tr.sizes] at h; omega)
theorem unaryV_ok {nm : ByteArray} {a : Option Tr} {v : Tr} (h : unaryV nm a = some v) : ValOk v := by
  rcases a with _ | ⟨op, m, num, ks⟩
  · cases h
  · rw [unaryV] at h
    split at h
    · injection h with h; subst h; exact .inl ⟨_, W_wf _, rfl⟩
    · split at h
      · injection h with h; subst h; exact .inr ⟨_, rfl⟩
      · cases h
theorem fitsV_ok {n : Int} {ok : Bool} {v : Tr} (hn : wf64 n) (h : fitsV n ok = some v) : ValOk v := by
  unfold fitsV at h
  split at h
  · injection h with h; subst h; exact .inl ⟨n, hn, rfl⟩
  · cases h
theorem tmod_wf {a b : Int} (h : wf64 a) : wf64 (a.tmod b) := by
  have h1 : (a.tmod b).natAbs ≤ a.natAbs := by rw [Int.natAbs_tmod]; exact Nat.mod_le _ _
  have h2 : 0 ≤ a → 0 ≤ a.tmod b := fun h => Int.tmod_nonneg b h
  have h3 : a ≤ 0 → a.tmod b ≤ 0 := fun h => by
    have h4 := Int.tmod_nonneg b (show 0 ≤ -a by omega)
    rw [Int.neg_tmod] at h4
    omega
  unfold wf64 at h ⊢
  omega
theorem intTab_val {nm : ByteArray} {o : Op2 (Option Tr)} (h : tabGet intTab nm = some o) {a b : Int} (ha : wf64 a) {v : Tr} (hv : o.f a b = some v) : ValOk v := by
  obtain ⟨x, hx, rfl⟩ := tabGet_mem h
  simp only [intTab, List.mem_cons, List.not_mem_nil, or_false] at hx
  rcases hx with rfl | rfl | rfl | rfl | rfl
  · exact fitsV_ok (W_wf _) hv
  · exact fitsV_ok (W_wf _) hv
  · exact fitsV_ok (W_wf _) hv
  · replace hv : quoV a b = some v := hv
    unfold quoV at hv
    split at hv
    · cases hv
    · injection hv with hv; subst hv; exact .inl ⟨_, W_wf _, rfl⟩
  · replace hv : remV a b = some v := hv
    unfold remV at hv
    split at hv
    · cases hv
    · injection hv with hv; subst hv; exact .inl ⟨_, tmod_wf ha, rfl⟩
theorem cmpV_ok {nm : ByteArray} {a b : Option Tr} {v : Tr} (h : cmpV nm a b = some v) : ValOk v := by
  unfold cmpV at h
  split at h
  · cases h
  · split at h
    · injection h with h; subst h; exact .inr ⟨_, rfl⟩
    · cases h
theorem nuV_wf {a : Option Tr} (h : ∀ v, a = some v → ValOk v) : wf64 (nuV a) := by
  cases a with
  | none => exact wf0
  | some t =>
    rcases h t rfl with ⟨n, hn, rfl⟩ | ⟨b, rfl⟩
    · exact hn
    · cases b
      · exact wf0
      · exact wf1
theorem binV_ok {nm : ByteArray} {a b : Option Tr} (ha : ∀ v, a = some v → ValOk v) (hb : ∀ v, b = some v → ValOk v) {v : Tr} (h : binV nm a b = some v) : ValOk v := by
  unfold binV at h
  split at h
  · split at h
    · cases h
    · split at h
      · exact ha v h
      · split at h
        · exact hb v h
        · cases h
  · split at h
    · split at h
      · rename_i ht _; exact intTab_val ht (nuV_wf ha) h
      · exact cmpV_ok h
    · exact cmpV_ok h
theorem sizeS_wf (lo hi st : Int) : wf64 (sizeS lo hi st) := by
  unfold sizeS
  split
  · exact wf0
  · unfold seriesS
    split
    · exact wf0
    · split
      · exact W_wf _
      · exact W_wf _
theorem right_ok {op : Int} {nm : ByteArray} {num : Int} {ks : List Tr} {s : Sh} (ho : (otherB (.mk op nm num ks)).2 = false) (hs : shGet op = some s) (h : rightB (.mk op nm num ks) = true) :
    s.ok (.mk op nm num ks) = true ∧ (s.num = false → num = 0) ∧ (s.names = none → nm = ⟨#[]⟩) := by
  obtain ⟨nms, nb, g, caps, ok⟩ := s
  rw [rightB, if_neg (by rw [ho]; decide), hs] at h
  dsimp only at h
  split at h
  · cases h
  · rename_i h1
    rcases nms with _ | x
    · dsimp only at h
      split at h
      · cases h
      · rename_i h2
        refine ⟨h, fun hn => ?_, fun _ => by simpa using h2⟩
        replace hn : nb = false := hn
        subst hn
        simp at h1
        exact h1.2
    · dsimp only at h
      split at h
      · cases h
      · refine ⟨h, fun hn => ?_, fun hn => by cases hn⟩
        replace hn : nb = false := hn
        subst hn
        simp at h1
        exact h1.2
theorem len_forms {s : ByteArray} {op : Int} {nm : ByteArray} {num : Int} {ks : List Tr} (h : formsB [s] (.mk op nm num ks) = true) : ks.length = s.size := by
  unfold formsB at h
  rw [List.any_cons, List.any_nil, Bool.or_false] at h
  exact kidsB_len h
theorem Tr.shaped_mk {op : Int} {nm : ByteArray} {num : Int} {ks : List Tr} (h : (Tr.mk op nm num ks).shaped = true) : rightB (.mk op nm num ks) = true ∧ ∀ k ∈ ks, k.shaped = true := by
  rw [Tr.shaped, Tr.shapeds_all, Bool.and_eq_true, Bool.not_eq_true', List.any_eq_false] at h
  exact ⟨h.1, fun k hk => by simpa using h.2 k hk⟩
theorem list1 {ks : List Tr} (h : ks.length = 1) : ∃ k, ks = [k] := by
  match ks, h with
  | [k], _ => exact ⟨k, rfl⟩
theorem list2 {ks : List Tr} (h : ks.length = 2) : ∃ k k', ks = [k, k'] := by
  match ks, h with
  | [k, k'], _ => exact ⟨k, k', rfl⟩
theorem list3 {ks : List Tr} (h : ks.length = 3) : ∃ k k' k'', ks = [k, k', k''] := by
  match ks, h with
  | [k, k', k''], _ => exact ⟨k, k', k'', rfl⟩
theorem shGet1 : shGet 1 = some ⟨none, true, 229, [.ptr (.sl ([⟨#[]⟩].map .str))], (formsB [⟨#[]⟩])⟩ := rfl
theorem shGet2 : shGet 2 = some ⟨none, true, 154, [], rule154⟩ := rfl
theorem shGet5 : shGet 5 = some ⟨(some (⟨#[45]⟩, [⟨#[33]⟩])), false, 229, [.ptr (.sl ([⟨#[101]⟩].map .str))], (formsB [⟨#[101]⟩])⟩ := rfl
theorem shGet6 : shGet 6 = some ⟨(some (⟨#[43]⟩, [⟨#[45]⟩, ⟨#[42]⟩, ⟨#[47]⟩, ⟨#[37]⟩, ⟨#[61, 61]⟩, ⟨#[33, 61]⟩, ⟨#[60]⟩, ⟨#[60, 61]⟩, ⟨#[62]⟩, ⟨#[62, 61]⟩, ⟨#[38, 38]⟩, ⟨#[124, 124]⟩])), false, 229, [.ptr (.sl ([⟨#[101, 101]⟩].map .str))], (formsB [⟨#[101, 101]⟩])⟩ := rfl
theorem shGet7 : shGet 7 = some ⟨none, false, 229, [.ptr (.sl ([⟨#[101, 101]⟩].map .str))], (formsB [⟨#[101, 101]⟩])⟩ := rfl
theorem shGet8 : shGet 8 = some ⟨none, false, 229, [.ptr (.sl ([⟨#[101, 101]⟩].map .str))], (formsB [⟨#[101, 101]⟩])⟩ := rfl
theorem shGet9 : shGet 9 = some ⟨none, false, 229, [.ptr (.sl ([⟨#[101, 101]⟩].map .str))], (formsB [⟨#[101, 101]⟩])⟩ := rfl
theorem shGet14 : shGet 14 = some ⟨(some (⟨#[115, 105, 122, 101]⟩, [⟨#[108, 111, 119]⟩, ⟨#[104, 105, 103, 104]⟩, ⟨#[115, 116, 114, 105, 100, 101]⟩, ⟨#[100, 111, 109, 97, 105, 110]⟩])), false, 229, [.ptr (.sl ([⟨#[101]⟩].map .str))], (formsB [⟨#[101]⟩])⟩ := rfl
theorem shGet19 : shGet 19 = some ⟨none, false, 229, [.ptr (.sl ([⟨#[101, 101, 101]⟩].map .str))], (formsB [⟨#[101, 101, 101]⟩])⟩ := rfl
theorem len1 {nm : ByteArray} {num : Int} {ks : List Tr} (h : (Tr.mk 1 nm num ks).shaped = true) : ks.length = 0 := len_forms (right_ok (s := ⟨_, _, _, _, _⟩) rfl shGet1 (Tr.shaped_mk h).1).1
theorem len5 {nm : ByteArray} {num : Int} {ks : List Tr} (h : (Tr.mk 5 nm num ks).shaped = true) : ks.length = 1 := len_forms (right_ok (s := ⟨_, _, _, _, _⟩) rfl shGet5 (Tr.shaped_mk h).1).1
theorem len14 {nm : ByteArray} {num : Int} {ks : List Tr} (h : (Tr.mk 14 nm num ks).shaped = true) : ks.length = 1 := len_forms (right_ok (s := ⟨_, _, _, _, _⟩) rfl shGet14 (Tr.shaped_mk h).1).1
theorem len6 {nm : ByteArray} {num : Int} {ks : List Tr} (h : (Tr.mk 6 nm num ks).shaped = true) : ks.length = 2 := len_forms (right_ok (s := ⟨_, _, _, _, _⟩) rfl shGet6 (Tr.shaped_mk h).1).1
theorem len7 {nm : ByteArray} {num : Int} {ks : List Tr} (h : (Tr.mk 7 nm num ks).shaped = true) : ks.length = 2 := len_forms (right_ok (s := ⟨_, _, _, _, _⟩) rfl shGet7 (Tr.shaped_mk h).1).1
theorem len8 {nm : ByteArray} {num : Int} {ks : List Tr} (h : (Tr.mk 8 nm num ks).shaped = true) : ks.length = 2 := len_forms (right_ok (s := ⟨_, _, _, _, _⟩) rfl shGet8 (Tr.shaped_mk h).1).1
theorem len9 {nm : ByteArray} {num : Int} {ks : List Tr} (h : (Tr.mk 9 nm num ks).shaped = true) : ks.length = 2 := len_forms (right_ok (s := ⟨_, _, _, _, _⟩) rfl shGet9 (Tr.shaped_mk h).1).1
theorem len19 {nm : ByteArray} {num : Int} {ks : List Tr} (h : (Tr.mk 19 nm num ks).shaped = true) : ks.length = 3 := len_forms (right_ok (s := ⟨_, _, _, _, _⟩) rfl shGet19 (Tr.shaped_mk h).1).1
theorem lit1 {nm : ByteArray} {num : Int} {ks : List Tr} (h : (Tr.mk 1 nm num ks).shaped = true) : nm = ⟨#[]⟩ ∧ ks = [] :=
  ⟨(right_ok (s := ⟨_, _, _, _, _⟩) rfl shGet1 (Tr.shaped_mk h).1).2.2 rfl, List.length_eq_zero_iff.1 (len1 h)⟩
theorem lit2 {nm : ByteArray} {num : Int} {ks : List Tr} (h : (Tr.mk 2 nm num ks).shaped = true) : nm = ⟨#[]⟩ ∧ ks = [] ∧ (num = 0 ∨ num = 1) := by
  obtain ⟨h1, _, h3⟩ := right_ok (s := ⟨_, _, _, _, _⟩) rfl shGet2 (Tr.shaped_mk h).1
  replace h1 : rule154 (.mk 2 nm num ks) = true := h1
  unfold rule154 at h1
  simp only [Tr.nu_mk, Tr.kids_mk, Bool.and_eq_true, Bool.or_eq_true, beq_iff_eq] at h1
  exact ⟨h3 rfl, List.length_eq_zero_iff.1 (by omega), h1.1⟩
theorem values_get (l : KL) (ks : List Tr) : Tr.values l ks = ks.map (Tr.value l) := by
  induction ks with
  | nil => rw [Tr.values]; rfl
  | cons k r ih => rw [Tr.values, ih]; rfl
theorem v0_map (l : KL) (ks : List Tr) (i : Nat) : v0 (Tr.values l ks) i = match ks[i]? with | some k => k.value l | none => none := by
  rw [values_get]
  unfold v0
  rw [List.getD_eq_getElem?_getD, List.getElem?_map]
  cases ks[i]? <;> rfl
/-- What a tree of the right shape gives is an Int or a Bool. -/
theorem value_ok (l : KL) (hl : KOk l) : ∀ n (t : Tr), t.size ≤ n → t.Ok → t.shaped = true → ∀ v, t.value l = some v → ValOk v := by
  intro n
  induction n with
  | zero => intro t h; exact absurd t.size_pos (by omega)
  | succ n ih =>
    intro t hsz hok hsh v hv
    obtain ⟨op, nm, num, ks⟩ := t
    have hkd : ∀ k ∈ ks, ∀ v, k.value l = some v → ValOk v := fun k hk => by
      have h1 := Tr.size_mem hk
      rw [Tr.size] at hsz
      exact ih k (by omega) (Tr.kids_ok hok k hk) ((Tr.shaped_mk hsh).2 k hk)
    have hv0 : ∀ i v, v0 (Tr.values l ks) i = some v → ValOk v := fun i v h => by
      rw [v0_map] at h
      cases hk : ks[i]? with
      | none => rw [hk] at h; cases h
      | some k => rw [hk] at h; exact hkd k (List.mem_of_getElem? hk) v h
    rw [Tr.value, valN] at hv
    split at hv
    · rename_i h
      injection hv with hv
      subst hv
      rw [Bool.or_eq_true, beq_iff_eq, beq_iff_eq] at h
      rcases h with rfl | rfl
      · obtain ⟨rfl, rfl⟩ := lit1 hsh
        refine .inl ⟨num, ?_, rfl⟩
        cases hok with | mk h1 h2 h3 h4 h5 =>
        simpa [Lit.wf, IntKind.min, IntKind.max, IntKind.signed, IntKind.bits, wf64] using h3
      · obtain ⟨rfl, rfl, rfl | rfl⟩ := lit2 hsh
        · exact .inr ⟨false, rfl⟩
        · exact .inr ⟨true, rfl⟩
    · split at hv
      · exact findK_ok hl v hv
      · split at hv
        · exact unaryV_ok hv
        · split at hv
          · exact binV_ok (hv0 0) (hv0 1) hv
          · split at hv
            · split at hv
              · cases hv
              · exact hv0 _ v hv
            · split at hv
              · split at hv
                · injection hv with hv; subst hv; exact .inl ⟨_, sizeS_wf _ _ _, rfl⟩
                · cases hv
              · cases hv
/-- The walk through the value of a tree of the right shape. -/
theorem c104n (l : KL) (hl : KOk l) : ∀ n (t : Tr), t.size ≤ n → t.Ok → t.shaped = true → Pf Tryz.prog 104 [t.d, knD l] (.d (valD (t.value l))) ∧ Pf Tryz.prog 185 [t.d, knD l] (.tup [.d (.agg [.int .i64 (t.span l).1.1, .int .i64 (t.span l).1.2.1, .int .i64 (t.span l).1.2.2]), .d (.bool (t.span l).2)]) := by
  intro n
  induction n with
  | zero => intro t h; exact absurd t.size_pos (by omega)
  | succ n ih =>
    intro t hsz hok hsh
    obtain ⟨op, nm, num, ks⟩ := t
    have hkd : ∀ k ∈ ks, Pf Tryz.prog 104 [k.d, knD l] (.d (valD (k.value l))) ∧ Pf Tryz.prog 185 [k.d, knD l] (.tup [.d (.agg [.int .i64 (k.span l).1.1, .int .i64 (k.span l).1.2.1, .int .i64 (k.span l).1.2.2]), .d (.bool (k.span l).2)]) := fun k hk => by
      have h1 := Tr.size_mem hk
      rw [Tr.size] at hsz
      exact ih k (by omega) (Tr.kids_ok hok k hk) ((Tr.shaped_mk hsh).2 k hk)
    rw [Tr.d_mk, Tr.value, Tr.span]
    refine ⟨c104x l op nm num ks _ _ (fun h => ?_) (fun h => ?_) (fun h => ?_) (fun h => ?_), c185x l op nm num ks _ _ (fun h => ?_) (fun h => ?_)⟩
    · obtain rfl := eq_of_beq h
      obtain ⟨k0, rfl⟩ := list1 (len5 hsh)
      exact ⟨k0, _, rfl, rfl, (hkd k0 (by simp)).1⟩
    · obtain rfl := eq_of_beq h
      obtain ⟨k0, k1, rfl⟩ := list2 (len6 hsh)
      exact ⟨k0, k1, _, _, rfl, rfl, (hkd k0 (by simp)).1, (hkd k1 (by simp)).1⟩
    · obtain rfl := eq_of_beq h
      obtain ⟨k0, k1, k2, rfl⟩ := list3 (len19 hsh)
      refine ⟨k0, k1, k2, _, _, _, rfl, rfl, (hkd k0 (by simp)).1, (hkd k1 (by simp)).1, (hkd k2 (by simp)).1, fun t ht h2 => ?_⟩
      exact (value_ok l hl _ k0 (Nat.le_refl _) (Tr.kids_ok hok k0 (by simp [Tr.kids])) ((Tr.shaped_mk hsh).2 k0 (by simp)) t ht).num h2
    · obtain rfl := eq_of_beq h
      obtain ⟨k0, rfl⟩ := list1 (len14 hsh)
      exact ⟨k0, _, rfl, rfl, (hkd k0 (by simp)).2, Tr.span_wf l _ k0 (Nat.le_refl _)⟩
    · obtain rfl := eq_of_beq h
      obtain ⟨k0, k1, rfl⟩ := list2 (len7 hsh)
      exact ⟨k0, k1, _, _, rfl, rfl, (hkd k0 (by simp)).1, (hkd k1 (by simp)).1⟩
    · rw [Bool.or_eq_true, beq_iff_eq, beq_iff_eq] at h
      have hlen : ks.length = 2 := by
        rcases h with rfl | rfl
        · exact len8 hsh
        · exact len9 hsh
      obtain ⟨k0, k1, rfl⟩ := list2 hlen
      exact ⟨k0, k1, _, _, _, _, rfl, rfl, rfl, (hkd k0 (by simp)).2, Tr.span_wf l _ k0 (Nat.le_refl _), (hkd k1 (by simp)).1⟩
theorem c104 (l : KL) (hl : KOk l) (t : Tr) (hok : t.Ok) (hsh : t.shaped = true) : Pf Tryz.prog 104 [t.d, knD l] (.d (valD (t.value l))) := (c104n l hl _ t (Nat.le_refl _) hok hsh).1
end Go.Proofs.YtklkbfpjimeaoaaGreat
