import Derived.Test.YtklkbfpjimeaoaaM8
import Derived.MapKept
import Derived.Lib.ConvBytes
import Derived.Laws.Small
import Derived.Laws.AppendOwn
import Derived.Laws.RangeString
/- Contracts of functions. Conditions: none. -/
set_option linter.unusedSimpArgs false
set_option linter.unusedVariables false
namespace Go.Proofs.Ytklkbfpjimeaoaa.E
open Go
section
def pick (es : List (Nat × Nat × PV)) (ds : List Nat) : List (Nat × PV) := (es.filter fun x => ds.contains x.1).map (·.2)
theorem pick_mem {es : List (Nat × Nat × PV)} {ds : List Nat} {x : Nat × PV} (h : x ∈ pick es ds) : ∃ d ∈ ds, (d, x) ∈ es := by
 obtain ⟨⟨d, y⟩, hy, rfl⟩ := List.mem_map.1 h
 obtain ⟨h1, h2⟩ := List.mem_filter.1 hy
 exact ⟨d, by simpa using h2, h1⟩
theorem J10 {A : Prop} (h : A := by simp only [List.cons_append, List.nil_append] <;> rfl) : A := h
theorem conf_val {K : Ctx} {ops : Array Oper} {M : (Nat → Bool) → List (List PV)} {base : List (Nat × PV)} {i t : Nat} {es es' fs : List (Nat × Nat × PV)} {p : PV} {full : List (Nat × PV) → List (Nat × PV)} (ds : List Nat)
 (h : ∀ (b : Nat → Bool) (rest : List (Nat × PV)), b i = false → (∀ j ∈ depsOf ops i, b j = true) → Valid ops b → GOps K ops (fun e s' => e = .normal ∧ s' = ⟨(t, p) :: full rest, M (upd b i)⟩) [i] ⟨full rest, M b⟩)
 (hc : Conf K ops M base (i + 1) es' fs)
 (hfull : ∀ rest, pick es ds ++ base ++ rest = full rest := by intro rest; simp only [pick, List.filter_cons, List.filter_nil, List.contains_cons, List.contains_nil, Nat.reduceBEq, Bool.or_false, Bool.false_or, Bool.or_true, Bool.true_or, if_true, if_false, Bool.false_eq_true, List.map_cons, List.map_nil, List.cons_append, List.nil_append, List.append_nil] <;> rfl) (hes : es ++ [(i, t, p)] = es' := by exact J10)
 (hds : (ds.all fun d => (depsOf ops i).contains d) = true := by kernel_rfl) : Conf K ops M base i es fs := by
 subst hes
 refine .step (sl := pick es ds) (r := [(t, p)]) (fun b rest h1 h2 h3 => ?_) (fun x hx => ?_) hc
 · rw [hfull]; exact h b rest h1 h2 h3
 · obtain ⟨d, h1, h2⟩ := pick_mem hx
   exact ⟨d, by have := List.all_eq_true.1 hds d h1; simpa using this, h2⟩
theorem conf_act {K : Ctx} {ops : Array Oper} {M : (Nat → Bool) → List (List PV)} {base : List (Nat × PV)} {i : Nat} {es fs : List (Nat × Nat × PV)} {full : List (Nat × PV) → List (Nat × PV)} (ds : List Nat)
 (h : ∀ (b : Nat → Bool) (rest : List (Nat × PV)), b i = false → (∀ j ∈ depsOf ops i, b j = true) → Valid ops b → GOps K ops (fun e s' => e = .normal ∧ s' = ⟨full rest, M (upd b i)⟩) [i] ⟨full rest, M b⟩)
 (hc : Conf K ops M base (i + 1) es fs)
 (hfull : ∀ rest, pick es ds ++ base ++ rest = full rest := by intro rest; simp only [pick, List.filter_cons, List.filter_nil, List.contains_cons, List.contains_nil, Nat.reduceBEq, Bool.or_false, Bool.false_or, Bool.or_true, Bool.true_or, if_true, if_false, Bool.false_eq_true, List.map_cons, List.map_nil, List.cons_append, List.nil_append, List.append_nil] <;> rfl)
 (hds : (ds.all fun d => (depsOf ops i).contains d) = true := by kernel_rfl) : Conf K ops M base i es fs := by
 refine .step (sl := pick es ds) (r := []) (fun b rest h1 h2 h3 => ?_) (fun x hx => ?_) (by simpa using hc)
 · rw [hfull]; exact h b rest h1 h2 h3
 · obtain ⟨d, h1, h2⟩ := pick_mem hx
   exact ⟨d, by have := List.all_eq_true.1 hds d h1; simpa using this, h2⟩
def nodupB : List Nat → Bool
 | [] => true
 | x :: r => !r.contains x && nodupB r
theorem nodupB_iff : ∀ {l : List Nat}, nodupB l = true → l.Nodup
 | [], _ => .nil
 | x :: r, h => by
  simp only [nodupB, Bool.and_eq_true, Bool.not_eq_true', List.contains_eq_mem, decide_eq_false_iff_not] at h
  exact List.nodup_cons.2 ⟨h.1, nodupB_iff h.2⟩
theorem filter_lookup (f : Nat → Bool) : ∀ (l : List (Nat × PV)) (t : Nat) (p : PV), (l.filter fun x => f x.1).lookup t = some p → l.lookup t = some p
 | [], _, _, h => by cases h
 | (k, q) :: l, t, p, h => by
  have hft : ∀ (l : List (Nat × PV)), (l.filter fun x => f x.1).lookup t = some p → f t = true := by
   intro l
   induction l with
   | nil => intro h; cases h
   | cons y r ih =>
    intro h
    rw [List.filter_cons] at h
    split at h
    · rename_i hx
      obtain ⟨k2, q2⟩ := y
      rw [List.lookup_cons] at h
      split at h
      · rename_i hb2
        have : t = k2 := by simpa using hb2
        subst this; exact hx
      · exact ih h
    · exact ih h
  have h0 := hft _ h
  rw [List.filter_cons] at h
  rw [List.lookup_cons]
  by_cases hk : f k = true
  · rw [if_pos hk, List.lookup_cons] at h
    split
    · rename_i hb; rw [hb] at h; exact h
    · rename_i hb; rw [hb] at h; exact filter_lookup f l t p h
  · rw [if_neg hk] at h
    split
    · rename_i hb
      have : t = k := by simpa using hb
      subst this; exact absurd h0 hk
    · exact filter_lookup f l t p h
end
section
def D.keyEq : D → D → Bool
 | .int k a, .int k' b => decide (k = k') && decide (a = b)
 | .str a, .str b => decide (a = b)
 | .bool a, .bool b => decide (a = b)
 | _, _ => false
def D.keyOf : TypeDesc → D → Bool
 | .int k, .int k' _ => decide (k' = k)
 | .string, .str _ => true
 | .bool, .bool _ => true
 | _, _ => false
variable {d : TypeDesc}
theorem keyOf_isKey {x : D} (h : x.keyOf d = true) : ∃ v, x.keyV = some v ∧ MapKept.IsKey d v := by
 cases d <;> cases x <;> simp only [D.keyOf, decide_eq_true_eq] at h <;> first | cases h | skip
 all_goals exact ⟨_, rfl, by first | exact h | trivial | rfl⟩
theorem keyEq_iff {x y : D} (hx : x.keyOf d = true) (hy : y.keyOf d = true) : x.keyEq y = true ↔ x.keyV = y.keyV := by
 cases d <;> cases x <;> simp only [D.keyOf, decide_eq_true_eq] at hx <;> first | cases hx | skip
 all_goals cases y <;> simp only [D.keyOf, decide_eq_true_eq] at hy <;> first | cases hy | skip
 all_goals simp_all [D.keyEq, D.keyV, D.lit]
def mget (kvs : List (D × D)) (k z : D) : D := match kvs.find? (fun x => x.1.keyEq k) with | some x => x.2 | none => z
def mhas (kvs : List (D × D)) (k : D) : Bool := kvs.any fun x => x.1.keyEq k
theorem mhas_of_find {kvs : List (D × D)} {k : D} {x : D × D} (h : kvs.find? (fun x => x.1.keyEq k) = some x) : mhas kvs k = true := by
 have h1 := List.mem_of_find?_eq_some h
 have h2 : (fun x : D × D => x.1.keyEq k) x = true := List.find?_some (p := fun x : D × D => x.1.keyEq k) h
 exact List.any_eq_true.2 ⟨x, h1, h2⟩
variable {es : Array MapEntry}
theorem IsKey_of_rel {w : World} {S : Reg} {kvs : List (D × D)} (h : ∀ (i : Nat) e, es[i]? = some e → ∃ x ∈ kvs, x.1.keyV = some e.key) (hk : ∀ x ∈ kvs, x.1.keyOf d = true) : ∀ e ∈ es.toList, MapKept.IsKey d e.key := by
 intro e he
 obtain ⟨i, hi⟩ := List.mem_iff_getElem?.1 he
 obtain ⟨x, hx, hxe⟩ := h i e (by simpa using hi)
 obtain ⟨v, hv, hkv⟩ := keyOf_isKey (hk x hx)
 rw [hxe] at hv; injection hv with hv; exact hv ▸ hkv
variable {w : World} {S : Reg}
theorem find_rel {kvs : List (D × D)} {k : D} {kv : Value} (hrel : MapRel w S kvs es) (hks : ∀ x ∈ kvs, x.1.keyOf d = true) (hk : k.keyOf d = true) (hkv : k.keyV = some kv) :
 (Instr.findNow d kv es.toList 0 = some none ∧ kvs.find? (fun x => x.1.keyEq k) = none) ∨
  ∃ j e x, Instr.findNow d kv es.toList 0 = some (some (j, e.val)) ∧ es[j]? = some e ∧ e.key = kv ∧ kvs.find? (fun x => x.1.keyEq k) = some x ∧ Rd w S x.2 e.val := by
 obtain ⟨h1, h2, h3⟩ := hrel
 obtain ⟨v, hv, hkey⟩ := keyOf_isKey hk
 rw [hkv] at hv; injection hv with hv; subst hv
 rcases MapKept.findNow_spec hkey es.toList 0 (IsKey_of_rel (w := w) (S := S) h1 hks) with ⟨g1, g2⟩ | ⟨j, e, g1, g2, g3⟩
 · refine .inl ⟨g1, List.find?_eq_none.2 fun x hx he => ?_⟩
   obtain ⟨i, e, hi, hxe⟩ := h2 x hx
   rw [(keyEq_iff (hks x hx) hk).1 he, hkv] at hxe
   injection hxe with hxe
   exact g2 e (List.mem_iff_getElem?.2 ⟨i, by simpa using hi⟩) hxe.symm
 · rw [Nat.zero_add] at g1
   have ge : es[j]? = some e := by simpa using g2
   obtain ⟨x0, hx0, hxe0⟩ := h1 j e ge
   have hex : ∃ x, kvs.find? (fun x => x.1.keyEq k) = some x := by
    cases hf : kvs.find? (fun x => x.1.keyEq k) with
    | some x => exact ⟨x, rfl⟩
    | none =>
     exfalso
     have := List.find?_eq_none.1 hf x0 hx0
     exact this ((keyEq_iff (hks x0 hx0) hk).2 (by rw [hxe0, hkv, g3]))
   obtain ⟨x, hx⟩ := hex
   have hm := List.mem_of_find?_eq_some hx
   have he := List.find?_some hx
   refine .inr ⟨j, e, x, g1, ge, g3, hx, h3 j e x ge hm ?_⟩
   rw [(keyEq_iff (hks x hm) hk).1 he, hkv, g3]
variable {v : Value}
theorem rd_key {k : D} (hk : k.keyOf d = true) (h : Rd w S k v) : k.keyV = some v := by
 cases d <;> cases k <;> simp only [D.keyOf] at hk <;> first | cases hk | skip
 all_goals cases h; rfl
variable {K : Ctx} {s : GS} {ty rt : TypeId} {pos : String} {af : Array Edge}
theorem Y_makeMap {t : Nat} {g : Option (Nat × Bool)} (ht : t < K.n) :
 Yld K ⟨some t, .makeMap ty none, rt, pos, af, g⟩ s ⟨(t, .mref s.mem.length) :: s.slots, s.mem ++ [[.mapc []]]⟩ := by
 rintro a w ⟨S, O, m, h⟩
 have he := h.env
 have hE : Ext S w (w.alloc (.map #[] 0)) := ext_alloc S w _ he.slt
 have hsz0 : K.w0.heap.size ≤ w.heap.size := he.ext.size
 have hO : ∀ (b : Nat) l t, O b = some (l, t) → (if b = w.heap.size then some ([s.mem.length, 1], 0) else O b) = some (l, t) := fun b l t hb => by
  rw [if_neg (Nat.ne_of_lt (he.olt b l t hb))]; exact hb
 have hmm : ∀ (b r : Nat), m[b]? = some r → (m ++ [w.heap.size])[b]? = some r := fun b r hb => by rw [List.getElem?_append_left (lG hb)]; exact hb
 refine ⟨.map (some w.heap.size), w.alloc (.map #[] 0), by simp [execOp, Instr.makeMap], S, fun b => if b = w.heap.size then some ([s.mem.length, 1], 0) else O b, m ++ [w.heap.size], ⟨he.ext.trans hE he.s0, fun b hb hO' => ?_, fun b l t o hb hO' hlt => ?_, he.s0, he.snew, fun b o l t hS hO' => ?_, fun b o hS => ?_, fun b l t hO' => ?_, fun b l t hO' => ?_, by simp [he.mlen], fun i cs r hi hr hne => ?_⟩, h.defers, by simp [Act.put, h.size], h.pre.trans (List.prefix_append _ _), fun i p hi => ?_⟩
 · rw [heap_alloc_old' _ _ _ (by omega)]; exact he.old b hb hO'
 · rw [World.cell?_alloc_lt w _ ⟨b, o, none⟩ (show b < w.heap.size by omega)]; exact he.part b l t o hb hO' hlt
 · have := he.slt b o hS; rw [if_neg (Nat.ne_of_lt this)] at hO'; exact he.sown b o l t hS hO'
 · have := he.slt b o hS; simp; omega
 · by_cases hb : b = w.heap.size
   · subst hb; simp
   · rw [if_neg hb] at hO'; have := he.olt b l t hO'; simp; omega
 · by_cases hb : b = w.heap.size
   · exact .inl (by omega)
   · rw [if_neg hb] at hO'; exact he.onew b l t hO'
 · by_cases hi' : i < s.mem.length
   · rw [List.getElem?_append_left hi'] at hi
     rw [List.getElem?_append_left (by rw [he.mlen]; exact hi')] at hr
     obtain ⟨g1, g2⟩ := he.mem i cs r hi hr hne
     exact ⟨hO _ _ _ g1, g2.frame (heap_alloc_old' _ _ _ (he.olt _ _ _ g1)) hE (fun _ _ h => h) (fun j b t q hb => hO b _ t hb) hmm⟩
   · have hil : i = s.mem.length := by
      have := (lG hi); simp at this; omega
     subst hil
     rw [List.getElem?_append_right (Nat.le_refl _)] at hi
     rw [← he.mlen, List.getElem?_append_right (Nat.le_refl _)] at hr
     simp only [Nat.sub_self, List.getElem?_cons_zero, Option.some.injEq] at hi hr
     subst hi; subst hr
     exact ⟨by simp, .inr (.inl ⟨[], #[], 0, rfl, heap_alloc_new' w _, fun i e h => (by simp at h), fun x h => (by cases h), fun i e x h => (by simp at h)⟩)⟩
 · rw [getD_put _ _ _ _ (by rw [h.size]; exact ht)]
   have hi' : (s.set t (.mref s.mem.length)).get i = some p := hi
   rw [GS.get_set] at hi'
   by_cases hit : i = t
   · rw [if_pos hit] at hi' ⊢; injection hi' with hi'; subst hi'
     exact .mref _ _ _ (by rw [← he.mlen]; simp)
   · rw [if_neg hit] at hi' ⊢
     exact (h.slots i p hi').ext hE (fun _ _ h => h) (fun b t q hb => hO b _ t hb) hmm
theorem ext_setMap {r : Nat} {es' : Array MapEntry} {c c' : Nat} (hh : w.heap[r]? = some (.map es c)) (hS : ∀ o, ¬ S r o) : Ext S w { w with heap := w.heap.setIfInBounds r (.map es' c') } where
 size := by simp
 shape := fun b us el fz hb => by
  have hbr : b ≠ r := by rintro rfl; rw [hh] at hb; injection hb with hb; cases hb
  exact ⟨us, by rw [(MapKept.heap_set hh).2 b hbr]; exact hb, rfl⟩
 cell := fun b o hb => by
  have hbr : b ≠ r := by rintro rfl; exact hS o hb
  simp only [World.cell?, (MapKept.heap_set (o' := .map es' c') hh).2 b hbr]
 maps := fun b es0 c0 hb hm => by
  have hbr : b ≠ r := by rintro rfl; exact hS 0 hb
  rw [(MapKept.heap_set (o' := .map es' c') hh).2 b hbr]; exact hm
variable {O : Owns} {m : List Nat}
theorem Rep.setMap {a : Act} (h : Rep K S O m s a w) {b r : Nat} {kvs kvs' : List (D × D)} {es es' : Array MapEntry} {c c' : Nat} (hb : s.mem[b]? = some [.mapc kvs]) (hr : m[b]? = some r)
 (hh : w.heap[r]? = some (.map es c)) (hrel : MapRel w S kvs' es') : Rep K S O m ⟨s.slots, s.mem.set b [.mapc kvs']⟩ a { w with heap := w.heap.setIfInBounds r (.map es' c') } := by
 have he := h.env
 obtain ⟨hown, _⟩ := he.mem b _ r hb hr (by simp)
 have hSr : ∀ o, ¬ S r o := fun o hS => absurd (he.sown r o _ _ hS hown) (Nat.not_lt_zero _)
 have hE : Ext S w { w with heap := w.heap.setIfInBounds r (.map es' c') } := ext_setMap hh hSr
 have hoth : ∀ b', b' ≠ r → ({ w with heap := w.heap.setIfInBounds r (.map es' c') } : World).heap[b']? = w.heap[b']? := fun b' hb' => (MapKept.heap_set hh).2 b' hb'
 refine ⟨⟨he.ext.trans hE he.s0, fun k hk hO => ?_, fun k l t o hk hO hot => ?_, he.s0, he.snew, he.sown, fun k o hS => ?_, fun k l t hO => ?_, he.onew, by simp [he.mlen], fun i cs r' hi hr' hne => ?_⟩, h.defers, h.size, h.pre, fun i p hp => (h.slots i p hp).ext hE (fun _ _ h => h) (fun _ _ _ h => h) (fun _ _ h => h)⟩
 · have : k ≠ r := by
    rintro rfl
    rcases he.onew k _ _ hown with h1 | ⟨l0, t0, h1, _⟩
    · omega
    · rw [hO] at h1; cases h1
   rw [hoth k this]; exact he.old k hk hO
 · have : k ≠ r := by
    rintro rfl
    rcases he.onew k _ _ hown with h1 | ⟨l0, t0, h1, h2⟩
    · omega
    · rw [hO] at h1; injection h1 with h1; injection h1 with _ h1; omega
   have hc : ({ w with heap := w.heap.setIfInBounds r (.map es' c') } : World).cell? ⟨k, o, none⟩ = w.cell? ⟨k, o, none⟩ := by simp only [World.cell?, hoth k this]
   rw [hc]; exact he.part k l t o hk hO hot
 · have := he.slt k o hS; simpa using this
 · have := he.olt k l t hO; simpa using this
 · by_cases hib : i = b
   · subst hib
     rw [hr] at hr'; injection hr' with hr'; subst hr'
     have hlt : i < s.mem.length := (lG hb)
     have hi' : [PV.mapc kvs'] = cs := by
      have : (s.mem.set i [.mapc kvs'])[i]? = some cs := hi
      rw [List.getElem?_set_self hlt] at this; injection this
     subst hi'
     obtain ⟨h1, h2, h3⟩ := hrel
     exact ⟨hown, .inr (.inl ⟨kvs', es', c', rfl, (MapKept.heap_set hh).1, h1, h2, fun i e x hi hx hk => (h3 i e x hi hx hk).ext hE (fun _ _ h => h)⟩)⟩
   · have hi' : s.mem[i]? = some cs := by
      have : (s.mem.set b [.mapc kvs'])[i]? = some cs := hi
      rwa [List.getElem?_set_ne (Ne.symm hib)] at this
     obtain ⟨g1, g2⟩ := he.mem i cs r' hi' hr' hne
     have hrr : r' ≠ r := by
      rintro rfl
      rw [g1] at hown; injection hown with hown; injection hown with hown _; injection hown with hown _; exact hib hown
     exact ⟨g1, g2.frame (hoth r' hrr) hE (fun _ _ h => h) (fun _ _ _ _ h => h) (fun _ _ h => h)⟩
theorem Rep.mapBlock {a : Act} (h : Rep K S O m s a w) {b : Nat} {kvs : List (D × D)} (hb : s.mem[b]? = some [.mapc kvs]) (hit : isIter kvs = false) :
 ∃ r es c, m[b]? = some r ∧ w.heap[r]? = some (.map es c) ∧ MapRel w S kvs es := by
 have hlt : b < m.length := by rw [h.env.mlen]; exact (lG hb)
 obtain ⟨_, hblk⟩ := h.env.mem b _ m[b] hb (gE hlt) (by simp)
 rcases hblk with ⟨vs, el, h1, h2, h3, h4⟩ | ⟨kvs', es, c, hc, h1, h2⟩ | ⟨_, hc⟩ | ⟨b', pos, hc, h1⟩ | ⟨_, _, _, _, _, hc, _⟩
 · exfalso
   have hlt : 0 < vs.size := by simp at h2; omega
   have := h4 0 _ _ rfl (Array.getElem?_eq_getElem hlt)
   cases this
 · injection hc with hc _
   injection hc with hc
   subst hc
   exact ⟨m[b], es, c, gE hlt, h1, h2⟩
 · cases hc
 · injection hc with hc _
   injection hc with hc
   subst hc
   cases hit
 · cases hc
def PV.toDn1 : PV → Option D
 | .nils => some .nilS
 | p => p.toD
def PV.toDn1s : List PV → Option (List D)
 | [] => some []
 | p :: ps => match p.toDn1, PV.toDn1s ps with
  | some x, some xs => some (x :: xs)
  | _, _ => none
def PV.toDn : PV → Option D
 | .agg cs => (PV.toDn1s cs).map .agg
 | p => p.toDn1
variable {p : PV}
theorem RP.toDn1 {l : List Nat} (h : RP w S O m l p v) (d : D) (hd : p.toDn1 = some d) : Rd w S d v := by
 by_cases hp : p = .nils
 · subst hp
   injection hd with hd
   subst hd
   cases h; exact .nilS
 · refine h.toD d ?_
   rw [← hd]
   cases p <;> first | rfl | exact absurd rfl hp
theorem PV.toDn1s_get : ∀ (ps : List PV) (ds : List D), PV.toDn1s ps = some ds → ds.length = ps.length ∧ ∀ (i : Nat) x, ds[i]? = some x → ∃ p, ps[i]? = some p ∧ p.toDn1 = some x
 | [], ds, h => by
  injection h with h; subst h
  exact ⟨rfl, fun i _ hi => by simp at hi⟩
 | p :: ps, ds, h => by
  simp only [PV.toDn1s] at h
  cases h1 : p.toDn1 with
  | none => rw [h1] at h; cases h
  | some dd =>
   cases h2 : PV.toDn1s ps with
   | none => simp [h1, h2] at h
   | some r =>
    rw [h1, h2] at h
    injection h with h; subst h
    obtain ⟨g1, g2⟩ := PV.toDn1s_get ps r h2
    refine ⟨by simp [g1], fun i x hi => ?_⟩
    cases i with
    | zero => simp at hi; subst hi; exact ⟨p, rfl, h1⟩
    | succ i => obtain ⟨q, g3, g4⟩ := g2 i x (by simpa using hi); exact ⟨q, by simpa using g3, g4⟩
theorem RP.toDn {l : List Nat} (h : RP w S O m l p v) (d : D) (hd : p.toDn = some d) : Rd w S d v := by
 cases h with
 | agg _ cs vs hl ho h =>
  simp only [PV.toDn] at hd
  cases hc : PV.toDn1s cs with
  | none => rw [hc] at hd; cases hd
  | some ds =>
   rw [hc] at hd
   injection hd with hd; subst hd
   obtain ⟨g1, g2⟩ := PV.toDn1s_get cs ds hc
   refine .agg ds vs (by omega) ho (fun i d v hi hv => ?_)
   obtain ⟨p, hp, hpd⟩ := g2 i d hi
   exact (h i p v hp hv).toDn1 d hpd
 | d _ x _ h => exact (RP.d (O := O) (m := m) l _ _ h).toDn1 d hd
 | nils => exact (RP.nils (O := O) (m := m) (w := w) (S := S) l).toDn1 d hd
 | osl _ k xs a cap hr hk hn ht => exact (RP.osl (O := O) (m := m) l k xs a cap hr hk hn ht).toDn1 d hd
 | fn _ f first caps vf vc h1 h2 g1 g2 => exact (RP.fn (O := O) (m := m) l f first caps vf vc h1 h2 g1 g2).toDn1 d hd
 | ref => simp [PV.toDn, PV.toDn1, PV.toD] at hd
 | rsl => simp [PV.toDn, PV.toDn1, PV.toD] at hd
 | mref => simp [PV.toDn, PV.toDn1, PV.toD] at hd
 | tup => simp [PV.toDn, PV.toDn1, PV.toD] at hd
 | whenT => simp [PV.toDn, PV.toDn1, PV.toD] at hd
 | whenF => simp [PV.toDn, PV.toDn1, PV.toD] at hd
 | undef => simp [PV.toDn, PV.toDn1, PV.toD] at hd
variable {kt et : TypeId} {kd : TypeDesc}
theorem D_insert {mx kx vx : Operand} {g : Option (Nat × Bool)} {b : Nat} {kvs : List (D × D)} {k v : D}
 (hu : K.P.underlying ty = some (.map kt et)) (hkd : K.P.underlying kt = some kd)
 (hmx : s.ev mx = .mref b) (hm : s.mem[b]? = some [.mapc kvs]) (hkx : s.ev kx = .d k) (hvx : s.ev vx = p) (hv : p.toDn = some v) (hks : (kvs.all fun x => x.1.keyOf kd) = true) (hk : k.keyOf kd = true) (hnew : mhas kvs k = false) :
 Does K ⟨none, .insert ty mx kx vx, rt, pos, af, g⟩ s ⟨s.slots, s.mem.set b [.mapc (kvs ++ [(k, v)])]⟩ := by
 rintro a w ⟨S, O, m, h⟩
 have hit : isIter kvs = false := by
  cases kvs with
  | nil => rfl
  | cons x r =>
   obtain ⟨kx, vx⟩ := x
   have h0 := List.all_eq_true.1 hks (kx, vx) (by simp)
   cases kx with
   | nilF => cases kd <;> cases h0
   | _ => rfl
 obtain ⟨r, es, c, hr, hh, hrel⟩ := h.mapBlock hm hit
 obtain ⟨l, hrm⟩ := h.ev mx
 rw [hmx] at hrm
 generalize hmv : a.eval mx = mv at hrm
 obtain ⟨lv, hrv⟩ := h.ev vx
 rw [hvx] at hrv
 have hrd := hrv.toDn v hv
 have hkr := h.evd hkx
 have hkv := rd_key hk hkr
 have hks' : ∀ x ∈ kvs, x.1.keyOf kd = true := fun x hx => List.all_eq_true.1 hks x hx
 cases hrm with
 | mref _ _ r' hr' =>
  rw [hr] at hr'; injection hr' with hr'; subst hr'
  obtain ⟨kv, hkv2, hisk⟩ := keyOf_isKey hk
  rw [hkv] at hkv2; injection hkv2 with hkv2; subst hkv2
  rcases find_rel hrel hks' hk hkv with ⟨f1, f2⟩ | ⟨j, e, x, _, _, _, f2, _⟩
  · have hrun : (Instr.mapUpdate ty (.map (some r)) (a.eval kx) (a.eval vx)).run K.P w = .ok () { w with heap := w.heap.setIfInBounds r (.map (es.push { key := a.eval kx, val := a.eval vx, born := c }) (c + 1)) } := by
     simp [Instr.mapUpdate, run_underlying hu, MapKept.run_getObj_map hh, MapKept.run_checkKey hkd hisk, MapKept.run_findKey hkd f1, MapKept.run_setObj_map _ hh, Result.andThen]
    have hrel' : MapRel w S (kvs ++ [(k, v)]) (es.push { key := a.eval kx, val := a.eval vx, born := c }) := by
     obtain ⟨h1, h2, h3⟩ := hrel
     refine ⟨fun i e hi => ?_, fun x hx => ?_, fun i e x hi hx hxe => ?_⟩
     · rw [Array.getElem?_push] at hi
       split at hi
       · injection hi with hi; subst hi; exact ⟨(k, v), by simp, hkv⟩
       · obtain ⟨x, hx, hxe⟩ := h1 i e hi; exact ⟨x, by simp [hx], hxe⟩
     · rcases List.mem_append.1 hx with hx | hx
       · obtain ⟨i, e, hi, hxe⟩ := h2 x hx
         exact ⟨i, e, by rw [Array.getElem?_push, if_neg (by have := (Array.getElem?_eq_some_iff.1 hi).1; omega)]; exact hi, hxe⟩
       · rw [List.mem_singleton.1 hx]
         exact ⟨es.size, { key := a.eval kx, val := a.eval vx, born := c }, by simp, hkv⟩
     · rw [Array.getElem?_push] at hi
       rcases List.mem_append.1 hx with hx | hx
       · split at hi
         · injection hi with hi; subst hi
           exfalso
           have := List.find?_eq_none.1 f2 x hx
           exact this ((keyEq_iff (hks' x hx) hk).2 (by rw [hxe, hkv]))
         · exact h3 i e x hi hx hxe
       · rw [List.mem_singleton.1 hx] at hxe ⊢
         split at hi
         · injection hi with hi; subst hi; exact hrd
         · exfalso
           obtain ⟨y, hy, hye⟩ := h1 i e hi
           have := List.find?_eq_none.1 f2 y hy
           exact this ((keyEq_iff (hks' y hy) hk).2 (by rw [hye, ← hxe]))
    refine ⟨_, ?_, S, O, m, h.setMap (c' := c + 1) hm hr hh hrel'⟩
    simp only [execOp, hmv]
    simp [hrun]
  · exfalso
    have : mhas kvs k = true := mhas_of_find f2
    rw [hnew] at this; cases this
def zeroD (z : Value) : Option D := match z with
 | .agg _ => (PV.toDs (zeros z)).map .agg
 | v => (ofConst v).toD
variable {z : Value}
theorem zeroD_rd {d : D} (h : zeroD z = some d) (h1 : z.cells.all (·.oneCell') = true) (w : World) (S : Reg) : Rd w S d z := by
 unfold zeroD at h
 split at h
 · rename_i cs
   cases hz : PV.toDs (zeros (.agg cs)) with
   | none => rw [hz] at h; cases h
   | some ds =>
    rw [hz] at h
    injection h with h
    subst h
    obtain ⟨g1, g2⟩ := PV.toDs_get _ _ hz
    have hcl : (Value.agg cs).cells = cs := rfl
    refine .agg ds cs (by rw [g1]; simp [zeros, hcl]) (fun i v hv => ?_) (fun i d v hd hv => ?_)
    · have := Array.all_eq_true_iff_forall_mem.1 h1 v (by rw [hcl]; exact Array.mem_of_getElem? hv); exact this
    · obtain ⟨p, hp, hpd⟩ := g2 i d hd
      simp only [zeros, hcl, List.getElem?_map] at hp
      rw [show cs.toList[i]? = some v by simpa using hv] at hp
      simp only [Option.map_some, Option.some.injEq] at hp
      subst hp
      exact (ofConst_rp w S noOwns [] [] v).toD d hpd
 · exact (ofConst_rp w S noOwns [] [] z).toD d h
theorem run_lookup {P : Program} {r c : Nat} {kvs : List (D × D)} {k zd : D} {kv : Value} (hu : P.underlying ty = some (.map kt et)) (hkd : P.underlying kt = some kd)
 (hz : (P.info? et).map (·.zero) = some (some z)) (hzd : zeroD z = some zd) (h1 : z.cells.all (·.oneCell') = true) (hh : w.heap[r]? = some (.map es c)) (hrel : MapRel w S kvs es) (hks : ∀ x ∈ kvs, x.1.keyOf kd = true) (hk : k.keyOf kd = true) (hkv : k.keyV = some kv) :
 ∃ v, (∀ w' : World, w'.heap[r]? = w.heap[r]? → ∀ ok, (Instr.lookup ty (.map (some r)) kv ok).run P w' = .ok (if ok = true then .tuple #[v, .bool (mhas kvs k)] else v) w') ∧ Rd w S (mget kvs k zd) v := by
 obtain ⟨kv2, hkv2, hisk⟩ := keyOf_isKey hk
 rw [hkv] at hkv2; injection hkv2 with hkv2; subst hkv2
 have hzr : ∀ w' : World, (zeroValue et).run P w' = .ok z w' := fun w' => by
  cases hq : P.info? et with
  | none => simp [hq] at hz
  | some i =>
   have hs : i.zero = some z := by simpa [hq] using hz
   simp [zeroValue, typeInfo, hq, hs]
 rcases find_rel hrel hks hk hkv with ⟨f1, f2⟩ | ⟨j, e, x, f1, _, _, f2, f3⟩
 · have hhas : mhas kvs k = false := by
    unfold mhas
    rw [List.any_eq_false]
    intro x hx
    have := List.find?_eq_none.1 f2 x hx
    simpa using this
   refine ⟨z, fun w' hw' ok => ?_, ?_⟩
   · have hh' : w'.heap[r]? = some (.map es c) := hw'.trans hh
     rw [hhas]
     cases ok <;> simp [Instr.lookup, run_underlying hu, MapKept.run_getObj_map hh', MapKept.run_checkKey hkd hisk, MapKept.run_findKey hkd f1, hzr, Result.andThen]
   · unfold mget; rw [f2]; exact zeroD_rd hzd h1 w S
 · have hhas : mhas kvs k = true := mhas_of_find f2
   refine ⟨e.val, fun w' hw' ok => ?_, ?_⟩
   · have hh' : w'.heap[r]? = some (.map es c) := hw'.trans hh
     rw [hhas]
     cases ok <;> simp [Instr.lookup, run_underlying hu, MapKept.run_getObj_map hh', MapKept.run_checkKey hkd hisk, MapKept.run_findKey hkd f1, Result.andThen]
   · unfold mget; rw [f2]; exact f3
theorem Q_lookup2 {t : Nat} {mx kx : Operand} {g : Option (Nat × Bool)} {kvs : List (D × D)} {k zd : D}
 (hu : K.P.underlying ty = some (.map kt et)) (hkd : K.P.underlying kt = some kd) (hz : (K.P.info? et).map (·.zero) = some (some z)) (hzd : zeroD z = some zd) (h1 : z.cells.all (·.oneCell') = true)
 (hmx : s.ev mx = .d (.map kvs)) (hkx : s.ev kx = .d k) (hks : (kvs.all fun x => x.1.keyOf kd) = true) (hk : k.keyOf kd = true) (ht : t < K.n) : Qy K ⟨some t, .lookup ty mx kx true, rt, pos, af, g⟩ s t (.tup [.d (mget kvs k zd), .d (.bool (mhas kvs k))]) := by
 refine fun S O m a w h => ?_
 have hr := h.evd hmx
 have hkv := rd_key hk (h.evd hkx)
 generalize hv : a.eval mx = v at hr
 cases hr with
 | map _ r es c hS hh g1 g2 g3 =>
  obtain ⟨v, hrun, hrd⟩ := run_lookup (S := S) hu hkd hz hzd h1 hh ⟨g1, g2, g3⟩ (fun x hx => List.all_eq_true.1 hks x hx) hk hkv
  refine ⟨.tuple #[v, .bool (mhas kvs k)], fun w' he => ?_, .tup _ _ _ (by simp) (fun i p u hi hu' => ?_)⟩
  · have := hrun w' ((he.maps r es c (.inl hS) hh).trans hh.symm) true
    simp only [execOp, hv]
    simp [this]
  · match i with
    | 0 => simp at hi hu'; subst hi; subst hu'; exact .d _ _ _ hrd
    | 1 => simp at hi hu'; subst hi; subst hu'; exact .d _ _ _ (.bool _)
    | i + 2 => simp at hi
end
section
def D.nilB : D → Option Bool
 | .nilS => some true
 | .sl (_ :: _) => some false
 | _ => none
variable {w : World} {ty e : TypeId}
theorem run_sl_nil {P : Program} (hu : P.underlying ty = some (.slice e)) (a : Option Addr) (n c : Nat) : (Op.equal ty (.slice a n c) (.slice none 0 0)).run P w = .ok a.isNone w := by
 rw [Op.equal, show Op.maxDepth = 9999 + 1 from rfl, Op.equalIn]
 cases a <;> simp [run_underlying hu]
variable {K : Ctx} {s : GS} {t : Nat} {rt : TypeId} {x : Operand} {pos : String} {af : Array Edge} {g : Option (Nat × Bool)}
theorem Q_sleql {yt : TypeId} {d : D} {b : Bool}
 (hx : s.ev x = .d d) (hd : d.nilB = some b) (hu : K.P.underlying ty = some (.slice e)) : Qy K ⟨some t, .binOp .eql ty x (.const (.slice none 0 0)) yt, rt, pos, af, g⟩ s t (.d (.bool b)) := by
 refine fun S O m a w h => ⟨.bool b, fun w _ => ?_, .d _ _ _ (.bool _)⟩
 have hr := h.evd hx
 generalize hv : a.eval x = v at hr
 have hc : a.eval (.const (.slice none 0 0)) = .slice none 0 0 := rfl
 simp only [execOp, hv, hc]
 cases hr with
 | nilS => simp [D.nilB] at hd; subst hd; simp [eqGuard, binOp, run_sl_nil hu]
 | sl xs ad cap k _ _ _ hn _ _ =>
  cases xs with
  | nil => simp [D.nilB] at hd
  | cons y ys =>
   simp [D.nilB] at hd; subst hd
   cases ad with
   | none => have := hn rfl; cases this
   | some ad => simp [eqGuard, binOp, run_sl_nil hu]
 | _ => simp [D.nilB] at hd
theorem Q_slneq {yt : TypeId} {d : D} {b : Bool}
 (hx : s.ev x = .d d) (hd : d.nilB = some b) (hu : K.P.underlying ty = some (.slice e)) : Qy K ⟨some t, .binOp .neq ty x (.const (.slice none 0 0)) yt, rt, pos, af, g⟩ s t (.d (.bool (!b))) := by
 refine fun S O m a w h => ⟨.bool (!b), fun w _ => ?_, .d _ _ _ (.bool _)⟩
 have hr := h.evd hx
 generalize hv : a.eval x = v at hr
 have hc : a.eval (.const (.slice none 0 0)) = .slice none 0 0 := rfl
 simp only [execOp, hv, hc]
 cases hr with
 | nilS => simp [D.nilB] at hd; subst hd; simp [eqGuard, binOp, run_sl_nil hu]
 | sl xs ad cap k _ _ _ hn _ _ =>
  cases xs with
  | nil => simp [D.nilB] at hd
  | cons y ys =>
   simp [D.nilB] at hd; subst hd
   cases ad with
   | none => have := hn rfl; cases this
   | some ad => simp [eqGuard, binOp, run_sl_nil hu]
 | _ => simp [D.nilB] at hd
variable {k : IntKind} {a : Int}
theorem Q_max {ty' : TypeId} {y : Operand} {b : Int}
 (hx : s.ev x = .d (.int k a)) (hy : s.ev y = .d (.int k b)) : Qy K ⟨some t, .call ⟨.builtin .max, #[x, y], #[ty, ty']⟩, rt, pos, af, g⟩ s t (.d (.int k (if b > a then b else a))) := by
 refine fun S O m ac w h => ⟨_, fun w _ => ?_, .d _ _ _ (.int _ _)⟩
 have h1 := rd_int (h.evd hx)
 have h2 := rd_int (h.evd hy)
 simp [execOp, resolve, invoke, builtin, h1, h2, run_max_int2]
theorem Q_min {ty' : TypeId} {y : Operand} {b : Int}
 (hx : s.ev x = .d (.int k a)) (hy : s.ev y = .d (.int k b)) : Qy K ⟨some t, .call ⟨.builtin .min, #[x, y], #[ty, ty']⟩, rt, pos, af, g⟩ s t (.d (.int k (if b < a then b else a))) := by
 refine fun S O m ac w h => ⟨_, fun w _ => ?_, .d _ _ _ (.int _ _)⟩
 have h1 := rd_int (h.evd hx)
 have h2 := rd_int (h.evd hy)
 simp [execOp, resolve, invoke, builtin, h1, h2, run_min_int2]
theorem Q_neg {r : Int}
 (hx : s.ev x = .d (.int k a)) (hr : k.wrap (0 - a) = r) : Qy K ⟨some t, .unOp .neg ty x, rt, pos, af, g⟩ s t (.d (.int k r)) := by
 subst hr
 refine fun S O m ac w h => ⟨_, fun w _ => ?_, .d _ _ _ (.int _ _)⟩
 have h1 := rd_int (h.evd hx)
 simp only [execOp, h1]
 simp [Op.unary, Op.intArith]
variable {b : ByteArray}
theorem Q_strh {hi : Operand} {r : ByteArray} {j : Int}
 (hx : s.ev x = .d (.str b)) (hh : s.ev hi = .d (.int k j)) (hu : K.P.underlying ty = some .string) (h0 : 0 ≤ j) (h1 : j ≤ (b.size : Nat)) (hr : b.extract 0 j.toNat = r) :
 Qy K ⟨some t, .slice ty x none (some hi) none, rt, pos, af, g⟩ s t (.d (.str r)) := by
 subst hr
 refine fun S O m ac w h => ⟨_, fun w _ => ?_, .d _ _ _ (.str _)⟩
 have hb := rd_str (h.evd hx)
 have hn := rd_int (h.evd hh)
 simp only [execOp, Option.map_some, Option.map_none, hb, hn]
 simp only [Sem.run_bind, run_sliceAt_string w ty _ _ _ _ hu, run_slice_string_h w ty b hu k j h0 h1, Result.andThen_ok]
 rfl
theorem Q_strl {lo : Operand} {r : ByteArray} {i : Int}
 (hx : s.ev x = .d (.str b)) (hl : s.ev lo = .d (.int k i)) (hu : K.P.underlying ty = some .string) (h0 : 0 ≤ i) (h1 : i ≤ (b.size : Nat)) (hr : b.extract i.toNat b.size = r) :
 Qy K ⟨some t, .slice ty x (some lo) none none, rt, pos, af, g⟩ s t (.d (.str r)) := by
 subst hr
 refine fun S O m ac w h => ⟨_, fun w _ => ?_, .d _ _ _ (.str _)⟩
 have hb := rd_str (h.evd hx)
 have hn := rd_int (h.evd hl)
 simp only [execOp, Option.map_some, Option.map_none, hb, hn]
 simp only [Sem.run_bind, run_sliceAt_string w ty _ _ _ _ hu, run_slice_string_l w ty b hu k i h0 h1, Result.andThen_ok]
 rfl
variable {r : Nat}
theorem heap_set_ne {b : Nat} (o : Obj) (h : b ≠ r) : ({ w with heap := w.heap.setIfInBounds r o } : World).heap[b]? = w.heap[b]? := by
 show (w.heap.setIfInBounds r o)[b]? = _
 rw [Array.getElem?_setIfInBounds_ne (Ne.symm h)]
theorem heap_set_eq {o : Obj} (h : r < w.heap.size) : ({ w with heap := w.heap.setIfInBounds r o } : World).heap[r]? = some o := by
 show (w.heap.setIfInBounds r o)[r]? = _
 rw [Array.getElem?_setIfInBounds_self_of_lt h]
variable {S : Reg}
theorem ext_old {w' : World} (hsz : w.heap.size ≤ w'.heap.size) (hold : ∀ b, b < w.heap.size → w'.heap[b]? = w.heap[b]?) (hS : ∀ b o, S b o → b < w.heap.size) (h1 : w'.os = w.os) (h2 : w'.tape = w.tape) (h3 : w'.output = w.output) : Ext S w w' where
 size := hsz
 shape := fun b us e fz hb => ⟨us, by rw [hold b (Array.getElem?_eq_some_iff.1 hb).1]; exact hb, rfl⟩
 cell := fun b o hb => by simp only [World.cell?, hold b (hS b o hb)]
 maps := fun b es c hb hm => by rw [hold b (hS b 0 hb)]; exact hm
 os := h1
 tape := h2
 output := h3
variable {O : Owns} {m : List Nat}
theorem Rep.settle {a : Act} {w' : World} (h : Rep K S O m s a w) {t : Nat} (ht : t < K.n) {d : D} {v : Value}
 (hsz : w.heap.size ≤ w'.heap.size) (hold : ∀ b, b < w.heap.size → w'.heap[b]? = w.heap[b]?) (h1 : w'.os = w.os) (h2 : w'.tape = w.tape) (h3 : w'.output = w.output)
 (hrd : Rd w' (fun b o => S b o ∨ (w.heap.size ≤ b ∧ b < w'.heap.size)) d v) : At K (s.set t (.d d)) (a.put (some t) v) w' := by
 have he := h.env
 have hE : Ext S w w' := ext_old hsz hold he.slt h1 h2 h3
 have hsz0 : K.w0.heap.size ≤ w.heap.size := he.ext.size
 have hr : Rep K (fun b o => S b o ∨ (w.heap.size ≤ b ∧ b < w'.heap.size)) O m s a w' := by
  refine ⟨⟨he.ext.trans hE he.s0, fun b hb hO => ?_, fun b l t' o hb hO hot => ?_, fun b o h => .inl (he.s0 b o h), fun b o hb => ?_, fun b o l t' hS hO => ?_, fun b o hS => ?_, fun b l t' hO => ?_, he.onew, he.mlen, fun i cs r hi hr hne' => ?_⟩, h.defers, h.size, h.pre, fun i q hq => (h.slots i q hq).ext hE (fun _ _ h => .inl h) (fun _ _ _ h => h) (fun _ _ h => h)⟩
  · rw [hold b (by omega)]; exact he.old b hb hO
  · have : w'.cell? ⟨b, o, none⟩ = w.cell? ⟨b, o, none⟩ := by simp only [World.cell?, hold b (show b < w.heap.size by omega)]
    rw [this]; exact he.part b l t' o hb hO hot
  · rcases hb with hb | ⟨hb, _⟩
    · exact he.snew b o hb
    · exact .inr (.inl (by omega))
  · rcases hS with hS | ⟨hb, _⟩
    · exact he.sown b o l t' hS hO
    · have := he.olt b l t' hO; omega
  · rcases hS with hS | ⟨_, hb⟩
    · have := he.slt b o hS; omega
    · exact hb
  · have := he.olt b l t' hO; omega
  · obtain ⟨g1, g2⟩ := he.mem i cs r hi hr hne'
    exact ⟨g1, g2.frame (hold r (he.olt _ _ _ g1)) hE (fun _ _ h => .inl h) (fun _ _ _ _ h => h) (fun _ _ h => h)⟩
 exact ⟨_, _, _, hr.put ht (.d _ _ _ hrd)⟩
def bytesD (b : ByteArray) : List D := b.data.toList.map fun c => .int .u8 c.toNat
theorem bytes_len (b : ByteArray) : b.data.toList.length = b.size := Array.length_toList
theorem bytesD_length (b : ByteArray) : (bytesD b).length = b.size := by unfold bytesD; rw [List.length_map, bytes_len]
theorem Y_strbytes {src dst : TypeId} {u : TypeDesc}
 (hx : s.ev x = .d (.str b)) (hs : K.P.underlying src = some u) (hd : K.P.underlying dst = some (.slice e)) (he : K.P.underlying e = some (.int .u8)) (hlim : b.size ≤ lim) (ht : t < K.n) :
 Yld K ⟨some t, .convert src dst x, rt, pos, af, g⟩ s (s.set t (.d (.sl (bytesD b)))) := by
 rintro a w ⟨S, O, m, h⟩
 have hb := rd_str (h.evd hx)
 have hcap : b.size ≤ grownCap w b.size 0 e := grownCap_ge ..
 refine ⟨.slice (some ⟨w.heap.size, 0, none⟩) b.size (grownCap w b.size 0 e), Lib.bytesWorld w e b, ?_, h.settle ht (by rw [Lib.bytesWorld_size]; omega) (fun j hj => Lib.bytesWorld_at_old w e b j hj) rfl rfl rfl ?_⟩
 · simp only [execOp, hb]
   simp [Lib.run_convert_string_bytes w src dst e b hs hd he]
 · rw [← bytesD_length b]
   refine .sl (bytesD b) _ _ 1 (by rw [bytesD_length]; exact hcap) (by rw [bytesD_length]; exact hlim) (fun x hx => ?_) (by simp) (fun ad had i x j y hi hj => ?_) (fun ad i x j y v had hi hj hv => ?_)
   · obtain ⟨c, _, rfl⟩ := List.mem_map.1 hx; rfl
   all_goals
    injection had with had
    subst had
    simp only [bytesD, List.getElem?_map, Option.map_eq_some_iff] at hi
    obtain ⟨c, hc, rfl⟩ := hi
    have hlt : i < b.size := by have := (lG hc); rwa [bytes_len] at this
    have hj0 : j = 0 := by
     cases j with
     | zero => rfl
     | succ j => simp [D.cells] at hj
    subst hj0
    simp [D.cells] at hj
    subst hj
    have hcell := Lib.bytesWorld_cell w e b i hlt
    have hgd : b.data.toList.getD i 0 = c := by rw [List.getD_eq_getElem?_getD, hc]; rfl
    rw [hgd] at hcell
   · exact ⟨rfl, .inr ⟨Nat.le_refl _, by show w.heap.size < _; rw [Lib.bytesWorld_size]; omega⟩, _, by simpa using hcell, rfl⟩
   · have hv' : (Lib.bytesWorld w e b).cell? ⟨w.heap.size, i, none⟩ = some v := by simpa using hv
     rw [hcell] at hv'; injection hv' with hv'; subst hv'
     exact .int _ _
theorem Y_rangeStr (hx : s.ev x = .d (.str b)) (hu : K.P.underlying ty = some .string) (ht : t < K.n) :
 Yld K ⟨some t, .range ty x, rt, pos, af, g⟩ s ⟨(t, .ref s.mem.length 0) :: s.slots, s.mem ++ [[.mapc (iterK b 0)]]⟩ := by
 rintro a w ⟨S, O, m, h⟩
 have he := h.env
 have hb := rd_str (h.evd hx)
 have hE : Ext S w (w.alloc (.stringIter b 0)) := ext_alloc S w _ he.slt
 have hsz0 : K.w0.heap.size ≤ w.heap.size := he.ext.size
 have hO : ∀ (b : Nat) l t, O b = some (l, t) → (if b = w.heap.size then some ([s.mem.length, 1], 0) else O b) = some (l, t) := fun b l t hb => by
  rw [if_neg (Nat.ne_of_lt (he.olt b l t hb))]; exact hb
 have hmm : ∀ (b r : Nat), m[b]? = some r → (m ++ [w.heap.size])[b]? = some r := fun b r hb => by rw [List.getElem?_append_left (lG hb)]; exact hb
 refine ⟨.pointer (some ⟨w.heap.size, 0, none⟩), w.alloc (.stringIter b 0), by simp only [execOp, hb]; simp [run_range_string w ty b hu, World.iter], S, fun b => if b = w.heap.size then some ([s.mem.length, 1], 0) else O b, m ++ [w.heap.size], ⟨he.ext.trans hE he.s0, fun b hb hO' => ?_, fun b l t o hb hO' hlt => ?_, he.s0, he.snew, fun b o l t hS hO' => ?_, fun b o hS => ?_, fun b l t hO' => ?_, fun b l t hO' => ?_, by simp [he.mlen], fun i cs r hi hr hne => ?_⟩, h.defers, by simp [Act.put, h.size], h.pre.trans (List.prefix_append _ _), fun i p hi => ?_⟩
 · rw [heap_alloc_old' _ _ _ (by omega)]; exact he.old b hb hO'
 · rw [World.cell?_alloc_lt w _ ⟨b, o, none⟩ (show b < w.heap.size by omega)]; exact he.part b l t o hb hO' hlt
 · have := he.slt b o hS; rw [if_neg (Nat.ne_of_lt this)] at hO'; exact he.sown b o l t hS hO'
 · have := he.slt b o hS; simp; omega
 · by_cases hb : b = w.heap.size
   · subst hb; simp
   · rw [if_neg hb] at hO'; have := he.olt b l t hO'; simp; omega
 · by_cases hb : b = w.heap.size
   · exact .inl (by omega)
   · rw [if_neg hb] at hO'; exact he.onew b l t hO'
 · by_cases hi' : i < s.mem.length
   · rw [List.getElem?_append_left hi'] at hi
     rw [List.getElem?_append_left (by rw [he.mlen]; exact hi')] at hr
     obtain ⟨g1, g2⟩ := he.mem i cs r hi hr hne
     exact ⟨hO _ _ _ g1, g2.frame (heap_alloc_old' _ _ _ (he.olt _ _ _ g1)) hE (fun _ _ h => h) (fun j b t q hb => hO b _ t hb) hmm⟩
   · have hil : i = s.mem.length := by
      have := (lG hi); simp at this; omega
     subst hil
     rw [List.getElem?_append_right (Nat.le_refl _)] at hi
     rw [← he.mlen, List.getElem?_append_right (Nat.le_refl _)] at hr
     simp only [Nat.sub_self, List.getElem?_cons_zero, Option.some.injEq] at hi hr
     subst hi; subst hr
     exact ⟨by simp, .inr (.inr (.inr (.inl ⟨b, 0, rfl, heap_alloc_new' w _⟩)))⟩
 · rw [getD_put _ _ _ _ (by rw [h.size]; exact ht)]
   have hi' : (s.set t (.ref s.mem.length 0)).get i = some p := hi
   rw [GS.get_set] at hi'
   by_cases hit : i = t
   · rw [if_pos hit] at hi' ⊢; injection hi' with hi'; subst hi'
     exact .ref _ _ _ _ (by rw [← he.mlen]; simp)
   · rw [if_neg hit] at hi' ⊢
     exact (h.slots i p hi').ext hE (fun _ _ h => h) (fun b t q hb => hO b _ t hb) hmm
theorem Rep.iterBlock {a : Act} (h : Rep K S O m s a w) {i pos : Nat} {b : ByteArray} (hb : s.mem[i]? = some [.mapc (iterK b pos)]) :
 ∃ r, m[i]? = some r ∧ w.heap[r]? = some (.stringIter b pos) := by
 have hlt : i < m.length := by rw [h.env.mlen]; exact (lG hb)
 obtain ⟨_, hblk⟩ := h.env.mem i _ m[i] hb (gE hlt) (by simp)
 rcases hblk with ⟨vs, el, h1, h2, h3, h4⟩ | ⟨kvs', es, c, hc, h1, h2, h3, h4⟩ | ⟨_, hc⟩ | ⟨b', pos', hc, h1⟩ | ⟨_, _, _, _, _, hc, _⟩
 · exfalso
   have hlt : 0 < vs.size := by simp at h2; omega
   have := h4 0 _ _ rfl (Array.getElem?_eq_getElem hlt)
   cases this
 · injection hc with hc _
   injection hc with hc
   subst hc
   obtain ⟨_, e, _, he⟩ := h3 (.nilF, .str b) (by simp [iterK])
   cases he
 · cases hc
 · simp only [iterK, List.cons.injEq, PV.mapc.injEq, Prod.mk.injEq, D.str.injEq, D.int.injEq, true_and, and_true] at hc
   obtain ⟨h5, h6⟩ := hc
   have h6' : pos = pos' := by omega
   subst h5; subst h6'
   exact ⟨m[i], gE hlt, h1⟩
 · cases hc
theorem ext_setIter {pos pos' : Nat} (hh : w.heap[r]? = some (.stringIter b pos)) (hS : ∀ o, ¬ S r o) : Ext S w { w with heap := w.heap.setIfInBounds r (.stringIter b pos') } where
 size := by simp
 shape := fun b us el fz hb => by
  have hbr : b ≠ r := by rintro rfl; rw [hh] at hb; injection hb with hb; cases hb
  exact ⟨us, by rw [heap_set_ne _ hbr]; exact hb, rfl⟩
 cell := fun b o hb => by
  have hbr : b ≠ r := by rintro rfl; exact hS o hb
  simp only [World.cell?, heap_set_ne _ hbr]
 maps := fun b es0 c0 hb hm => by
  have hbr : b ≠ r := by rintro rfl; exact hS 0 hb
  rw [heap_set_ne _ hbr]; exact hm
theorem Rep.setIter {a : Act} (h : Rep K S O m s a w) {i r pos pos' : Nat} {b : ByteArray} (hb : s.mem[i]? = some [.mapc (iterK b pos)]) (hr : m[i]? = some r)
 (hh : w.heap[r]? = some (.stringIter b pos)) : Rep K S O m ⟨s.slots, s.mem.set i [.mapc (iterK b pos')]⟩ a { w with heap := w.heap.setIfInBounds r (.stringIter b pos') } := by
 have he := h.env
 obtain ⟨hown, _⟩ := he.mem i _ r hb hr (by simp)
 have hSr : ∀ o, ¬ S r o := fun o hS => absurd (he.sown r o _ _ hS hown) (Nat.not_lt_zero _)
 have hE : Ext S w { w with heap := w.heap.setIfInBounds r (.stringIter b pos') } := ext_setIter hh hSr
 have hoth : ∀ b', b' ≠ r → ({ w with heap := w.heap.setIfInBounds r (.stringIter b pos') } : World).heap[b']? = w.heap[b']? := fun b' hb' => heap_set_ne _ hb'
 refine ⟨⟨he.ext.trans hE he.s0, fun k hk hO => ?_, fun k l t o hk hO hot => ?_, he.s0, he.snew, he.sown, fun k o hS => ?_, fun k l t hO => ?_, he.onew, by simp [he.mlen], fun j cs r' hi hr' hne => ?_⟩, h.defers, h.size, h.pre, fun i p hp => (h.slots i p hp).ext hE (fun _ _ h => h) (fun _ _ _ h => h) (fun _ _ h => h)⟩
 · have : k ≠ r := by
    rintro rfl
    rcases he.onew k _ _ hown with h1 | ⟨l0, t0, h1, _⟩
    · omega
    · rw [hO] at h1; cases h1
   rw [hoth k this]; exact he.old k hk hO
 · have : k ≠ r := by
    rintro rfl
    rcases he.onew k _ _ hown with h1 | ⟨l0, t0, h1, h2⟩
    · omega
    · rw [hO] at h1; injection h1 with h1; injection h1 with _ h1; omega
   have hc : ({ w with heap := w.heap.setIfInBounds r (.stringIter b pos') } : World).cell? ⟨k, o, none⟩ = w.cell? ⟨k, o, none⟩ := by simp only [World.cell?, hoth k this]
   rw [hc]; exact he.part k l t o hk hO hot
 · have := he.slt k o hS; simpa using this
 · have := he.olt k l t hO; simpa using this
 · by_cases hib : j = i
   · subst hib
     rw [hr] at hr'; injection hr' with hr'; subst hr'
     have hlt : j < s.mem.length := (lG hb)
     have hi' : [PV.mapc (iterK b pos')] = cs := by
      have : (s.mem.set j [.mapc (iterK b pos')])[j]? = some cs := hi
      rw [List.getElem?_set_self hlt] at this; injection this
     subst hi'
     exact ⟨hown, .inr (.inr (.inr (.inl ⟨b, pos', rfl, heap_set_eq (Array.getElem?_eq_some_iff.1 hh).1⟩)))⟩
   · have hi' : s.mem[j]? = some cs := by
      have : (s.mem.set i [.mapc (iterK b pos')])[j]? = some cs := hi
      rwa [List.getElem?_set_ne (Ne.symm hib)] at this
     obtain ⟨g1, g2⟩ := he.mem j cs r' hi' hr' hne
     have hrr : r' ≠ r := by
      rintro rfl
      rw [g1] at hown; injection hown with hown; injection hown with hown _; injection hown with hown _; exact hib hown
     exact ⟨g1, g2.frame (hoth r' hrr) hE (fun _ _ h => h) (fun _ _ _ _ h => h) (fun _ _ h => h)⟩
theorem Y_nextEnd {i pos : Nat} {ps : String} (hx : s.ev x = .ref i 0) (hm : s.mem[i]? = some [.mapc (iterK b pos)]) (hlt : ¬ pos < b.size) (ht : t < K.n) :
 Yld K ⟨some t, .next x true, rt, ps, af, g⟩ s (s.set t (.tup [.d (.bool false)])) := by
 rintro a w ⟨S, O, m, h⟩
 obtain ⟨r, hr, hh⟩ := h.iterBlock hm
 obtain ⟨l, hrx⟩ := h.ev x
 rw [hx] at hrx
 generalize hv : a.eval x = v at hrx
 cases hrx with
 | ref _ _ _ r' hr' =>
  rw [hr] at hr'; injection hr' with hr'; subst hr'
  refine ⟨.tuple #[.bool false], w, ?_, S, O, m, h.put ht (.tup _ _ _ rfl (fun j p u hi hu => ?_))⟩
  · simp only [execOp, hv]
    simp [Instr.next, getObj, Sem.run, hh, hlt]
  · match j with
    | 0 => simp at hi hu; subst hi; subst hu; exact .d _ _ _ (.bool _)
    | j + 1 => simp at hi
theorem Y_next {i pos : Nat} {ps : String} (hx : s.ev x = .ref i 0) (hm : s.mem[i]? = some [.mapc (iterK b pos)]) (hlt : pos < b.size) (ht : t < K.n) :
 Yld K ⟨some t, .next x true, rt, ps, af, g⟩ s ⟨(t, .tup [.d (.bool true), .d (.int .i64 pos), .d (.int .i32 (Utf8.decode b pos).1)]) :: s.slots, s.mem.set i [.mapc (iterK b (pos + (Utf8.decode b pos).2))]⟩ := by
 rintro a w ⟨S, O, m, h⟩
 obtain ⟨r, hr, hh⟩ := h.iterBlock hm
 obtain ⟨l, hrx⟩ := h.ev x
 rw [hx] at hrx
 generalize hv : a.eval x = v at hrx
 cases hrx with
 | ref _ _ _ r' hr' =>
  rw [hr] at hr'; injection hr' with hr'; subst hr'
  refine ⟨.tuple #[.bool true, .int .i64 pos, .int .i32 (Utf8.decode b pos).1], { w with heap := w.heap.setIfInBounds r (.stringIter b (pos + (Utf8.decode b pos).2)) }, ?_, S, O, m, (h.setIter hm hr hh).put ht (.tup _ _ _ rfl (fun j p u hi hu => ?_))⟩
  · simp only [execOp, hv]
    simp [Instr.next, getObj, setObj, Sem.run, hh, hlt, goInt]
  · match j with
    | 0 => simp at hi hu; subst hi; subst hu; exact .d _ _ _ (.bool _)
    | 1 => simp at hi hu; subst hi; subst hu; exact .d _ _ _ (.int _ _)
    | 2 => simp at hi hu; subst hi; subst hu; exact .d _ _ _ (.int _ _)
    | j + 3 => simp at hi
end
end Go.Proofs.Ytklkbfpjimeaoaa.E
