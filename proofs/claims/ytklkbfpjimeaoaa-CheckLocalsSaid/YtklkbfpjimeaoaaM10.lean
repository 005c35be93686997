import Derived.Test.YtklkbfpjimeaoaaM9
import Derived.Lib.ConvBytes
import Derived.Laws.Small
import Derived.Laws.AppendOwn
import Derived.Laws.RangeString
/- Contracts of functions. Conditions: none. -/
set_option linter.unusedSimpArgs false
set_option linter.unusedVariables false
namespace Go.Proofs.Ytklkbfpjimeaoaa.E
open Go
section
def D.nilB : D → Option Bool
 | .nilS => some true
 | .sl (_ :: _) => some false
 | _ => none
variable {w : World} {ty e : TypeId}
theorem run_sl_nil {P : Program} (hu : P.underlying ty = some (.slice e)) (a : Option Addr) (n c : Nat) : (Op.equal ty (.slice a n c) (.slice none 0 0)).run P w = .ok a.isNone w := by
 rw [Op.equal, show Op.maxDepth = 9999 + 1 from rfl, Op.equalIn]
 cases a <;> simp [run_underlying hu]
variable {K : Ctx} {s : GS} {t : Nat} {rt : TypeId} {x : Operand} {pos : String} {af : Array Edge} {g : Option (Nat × Bool)}
theorem Q_sleql {yt : TypeId} {d : D} {b : Bool}
 (hx : s.ev x = .d d) (hd : d.nilB = some b) (hu : K.P.underlying ty = some (.slice e)) : Qy K ⟨some t, .binOp .eql ty x (.const (.slice none 0 0)) yt, rt, pos, af, g⟩ s t (.d (.bool b)) := by
 refine fun S O m a w h => ⟨.bool b, fun w _ => ?_, .d _ _ _ (.bool _)⟩
 have hr := h.evd hx
 generalize hv : a.eval x = v at hr
 have hc : a.eval (.const (.slice none 0 0)) = .slice none 0 0 := rfl
 simp only [execOp, hv, hc]
 cases hr with
 | nilS => simp [D.nilB] at hd; subst hd; simp [eqGuard, binOp, run_sl_nil hu]
 | sl xs ad cap k _ _ _ hn _ _ =>
  cases xs with
  | nil => simp [D.nilB] at hd
  | cons y ys =>
   simp [D.nilB] at hd; subst hd
   cases ad with
   | none => have := hn rfl; cases this
   | some ad => simp [eqGuard, binOp, run_sl_nil hu]
 | _ => simp [D.nilB] at hd
theorem Q_slneq {yt : TypeId} {d : D} {b : Bool}
 (hx : s.ev x = .d d) (hd : d.nilB = some b) (hu : K.P.underlying ty = some (.slice e)) : Qy K ⟨some t, .binOp .neq ty x (.const (.slice none 0 0)) yt, rt, pos, af, g⟩ s t (.d (.bool (!b))) := by
 refine fun S O m a w h => ⟨.bool (!b), fun w _ => ?_, .d _ _ _ (.bool _)⟩
 have hr := h.evd hx
 generalize hv : a.eval x = v at hr
 have hc : a.eval (.const (.slice none 0 0)) = .slice none 0 0 := rfl
 simp only [execOp, hv, hc]
 cases hr with
 | nilS => simp [D.nilB] at hd; subst hd; simp [eqGuard, binOp, run_sl_nil hu]
 | sl xs ad cap k _ _ _ hn _ _ =>
  cases xs with
  | nil => simp [D.nilB] at hd
  | cons y ys =>
   simp [D.nilB] at hd; subst hd
   cases ad with
   | none => have := hn rfl; cases this
   | some ad => simp [eqGuard, binOp, run_sl_nil hu]
 | _ => simp [D.nilB] at hd
variable {k : IntKind} {a : Int}
theorem Q_max {ty' : TypeId} {y : Operand} {b : Int}
 (hx : s.ev x = .d (.int k a)) (hy : s.ev y = .d (.int k b)) : Qy K ⟨some t, .call ⟨.builtin .max, #[x, y], #[ty, ty']⟩, rt, pos, af, g⟩ s t (.d (.int k (if b > a then b else a))) := by
 refine fun S O m ac w h => ⟨_, fun w _ => ?_, .d _ _ _ (.int _ _)⟩
 have h1 := rd_int (h.evd hx)
 have h2 := rd_int (h.evd hy)
 simp [execOp, resolve, invoke, builtin, h1, h2, run_max_int2]
theorem Q_min {ty' : TypeId} {y : Operand} {b : Int}
 (hx : s.ev x = .d (.int k a)) (hy : s.ev y = .d (.int k b)) : Qy K ⟨some t, .call ⟨.builtin .min, #[x, y], #[ty, ty']⟩, rt, pos, af, g⟩ s t (.d (.int k (if b < a then b else a))) := by
 refine fun S O m ac w h => ⟨_, fun w _ => ?_, .d _ _ _ (.int _ _)⟩
 have h1 := rd_int (h.evd hx)
 have h2 := rd_int (h.evd hy)
 simp [execOp, resolve, invoke, builtin, h1, h2, run_min_int2]
theorem Q_neg {r : Int}
 (hx : s.ev x = .d (.int k a)) (hr : k.wrap (0 - a) = r) : Qy K ⟨some t, .unOp .neg ty x, rt, pos, af, g⟩ s t (.d (.int k r)) := by
 subst hr
 refine fun S O m ac w h => ⟨_, fun w _ => ?_, .d _ _ _ (.int _ _)⟩
 have h1 := rd_int (h.evd hx)
 simp only [execOp, h1]
 simp [Op.unary, Op.intArith]
variable {b : ByteArray}
theorem Q_strh {hi : Operand} {r : ByteArray} {j : Int}
 (hx : s.ev x = .d (.str b)) (hh : s.ev hi = .d (.int k j)) (hu : K.P.underlying ty = some .string) (h0 : 0 ≤ j) (h1 : j ≤ (b.size : Nat)) (hr : b.extract 0 j.toNat = r) :
 Qy K ⟨some t, .slice ty x none (some hi) none, rt, pos, af, g⟩ s t (.d (.str r)) := by
 subst hr
 refine fun S O m ac w h => ⟨_, fun w _ => ?_, .d _ _ _ (.str _)⟩
 have hb := rd_str (h.evd hx)
 have hn := rd_int (h.evd hh)
 simp only [execOp, Option.map_some, Option.map_none, hb, hn]
 simp only [Sem.run_bind, run_sliceAt_string w ty _ _ _ _ hu, run_slice_string_h w ty b hu k j h0 h1, Result.andThen_ok]
 rfl
theorem Q_strl {lo : Operand} {r : ByteArray} {i : Int}
 (hx : s.ev x = .d (.str b)) (hl : s.ev lo = .d (.int k i)) (hu : K.P.underlying ty = some .string) (h0 : 0 ≤ i) (h1 : i ≤ (b.size : Nat)) (hr : b.extract i.toNat b.size = r) :
 Qy K ⟨some t, .slice ty x (some lo) none none, rt, pos, af, g⟩ s t (.d (.str r)) := by
 subst hr
 refine fun S O m ac w h => ⟨_, fun w _ => ?_, .d _ _ _ (.str _)⟩
 have hb := rd_str (h.evd hx)
 have hn := rd_int (h.evd hl)
 simp only [execOp, Option.map_some, Option.map_none, hb, hn]
 simp only [Sem.run_bind, run_sliceAt_string w ty _ _ _ _ hu, run_slice_string_l w ty b hu k i h0 h1, Result.andThen_ok]
 rfl
variable {r : Nat}
theorem heap_set_ne {b : Nat} (o : Obj) (h : b ≠ r) : ({ w with heap := w.heap.setIfInBounds r o } : World).heap[b]? = w.heap[b]? := by
 show (w.heap.setIfInBounds r o)[b]? = _
 rw [Array.getElem?_setIfInBounds_ne (Ne.symm h)]
theorem heap_set_eq {o : Obj} (h : r < w.heap.size) : ({ w with heap := w.heap.setIfInBounds r o } : World).heap[r]? = some o := by
 show (w.heap.setIfInBounds r o)[r]? = _
 rw [Array.getElem?_setIfInBounds_self_of_lt h]
variable {S : Reg}
theorem ext_old {w' : World} (hsz : w.heap.size ≤ w'.heap.size) (hold : ∀ b, b < w.heap.size → w'.heap[b]? = w.heap[b]?) (hS : ∀ b o, S b o → b < w.heap.size) (h1 : w'.os = w.os) (h2 : w'.tape = w.tape) (h3 : w'.output = w.output) : Ext S w w' where
 size := hsz
 shape := fun b us e fz hb => ⟨us, by rw [hold b (Array.getElem?_eq_some_iff.1 hb).1]; exact hb, rfl⟩
 cell := fun b o hb => by simp only [World.cell?, hold b (hS b o hb)]
 maps := fun b es c hb hm => by rw [hold b (hS b 0 hb)]; exact hm
 os := h1
 tape := h2
 output := h3
variable {O : Owns} {m : List Nat}
theorem Rep.settle {a : Act} {w' : World} (h : Rep K S O m s a w) {t : Nat} (ht : t < K.n) {d : D} {v : Value}
 (hsz : w.heap.size ≤ w'.heap.size) (hold : ∀ b, b < w.heap.size → w'.heap[b]? = w.heap[b]?) (h1 : w'.os = w.os) (h2 : w'.tape = w.tape) (h3 : w'.output = w.output)
 (hrd : Rd w' (fun b o => S b o ∨ (w.heap.size ≤ b ∧ b < w'.heap.size)) d v) : At K (s.set t (.d d)) (a.put (some t) v) w' := by
 have he := h.env
 have hE : Ext S w w' := ext_old hsz hold he.slt h1 h2 h3
 have hsz0 : K.w0.heap.size ≤ w.heap.size := he.ext.size
 have hr : Rep K (fun b o => S b o ∨ (w.heap.size ≤ b ∧ b < w'.heap.size)) O m s a w' := by
  refine ⟨⟨he.ext.trans hE he.s0, fun b hb hO => ?_, fun b l t' o hb hO hot => ?_, fun b o h => .inl (he.s0 b o h), fun b o hb => ?_, fun b o l t' hS hO => ?_, fun b o hS => ?_, fun b l t' hO => ?_, he.onew, he.mlen, fun i cs r hi hr hne' => ?_⟩, h.defers, h.size, h.pre, fun i q hq => (h.slots i q hq).ext hE (fun _ _ h => .inl h) (fun _ _ _ h => h) (fun _ _ h => h)⟩
  · rw [hold b (by omega)]; exact he.old b hb hO
  · have : w'.cell? ⟨b, o, none⟩ = w.cell? ⟨b, o, none⟩ := by simp only [World.cell?, hold b (show b < w.heap.size by omega)]
    rw [this]; exact he.part b l t' o hb hO hot
  · rcases hb with hb | ⟨hb, _⟩
    · exact he.snew b o hb
    · exact .inr (.inl (by omega))
  · rcases hS with hS | ⟨hb, _⟩
    · exact he.sown b o l t' hS hO
    · have := he.olt b l t' hO; omega
  · rcases hS with hS | ⟨_, hb⟩
    · have := he.slt b o hS; omega
    · exact hb
  · have := he.olt b l t' hO; omega
  · obtain ⟨g1, g2⟩ := he.mem i cs r hi hr hne'
    exact ⟨g1, g2.frame (hold r (he.olt _ _ _ g1)) hE (fun _ _ h => .inl h) (fun _ _ _ _ h => h) (fun _ _ h => h)⟩
 exact ⟨_, _, _, hr.put ht (.d _ _ _ hrd)⟩
def bytesD (b : ByteArray) : List D := b.data.toList.map fun c => .int .u8 c.toNat
theorem bytes_len (b : ByteArray) : b.data.toList.length = b.size := Array.length_toList
theorem bytesD_length (b : ByteArray) : (bytesD b).length = b.size := by unfold bytesD; rw [List.length_map, bytes_len]
theorem Y_strbytes {src dst : TypeId} {u : TypeDesc}
 (hx : s.ev x = .d (.str b)) (hs : K.P.underlying src = some u) (hd : K.P.underlying dst = some (.slice e)) (he : K.P.underlying e = some (.int .u8)) (hlim : b.size ≤ lim) (ht : t < K.n) :
 Yld K ⟨some t, .convert src dst x, rt, pos, af, g⟩ s (s.set t (.d (.sl (bytesD b)))) := by
 rintro a w ⟨S, O, m, h⟩
 have hb := rd_str (h.evd hx)
 have hcap : b.size ≤ grownCap w b.size 0 e := grownCap_ge ..
 refine ⟨.slice (some ⟨w.heap.size, 0, none⟩) b.size (grownCap w b.size 0 e), Lib.bytesWorld w e b, ?_, h.settle ht (by rw [Lib.bytesWorld_size]; omega) (fun j hj => Lib.bytesWorld_at_old w e b j hj) rfl rfl rfl ?_⟩
 · simp only [execOp, hb]
   simp [Lib.run_convert_string_bytes w src dst e b hs hd he]
 · rw [← bytesD_length b]
   refine .sl (bytesD b) _ _ 1 (by rw [bytesD_length]; exact hcap) (by rw [bytesD_length]; exact hlim) (fun x hx => ?_) (by simp) (fun ad had i x j y hi hj => ?_) (fun ad i x j y v had hi hj hv => ?_)
   · obtain ⟨c, _, rfl⟩ := List.mem_map.1 hx; rfl
   all_goals
    injection had with had
    subst had
    simp only [bytesD, List.getElem?_map, Option.map_eq_some_iff] at hi
    obtain ⟨c, hc, rfl⟩ := hi
    have hlt : i < b.size := by have := (lG hc); rwa [bytes_len] at this
    have hj0 : j = 0 := by
     cases j with
     | zero => rfl
     | succ j => simp [D.cells] at hj
    subst hj0
    simp [D.cells] at hj
    subst hj
    have hcell := Lib.bytesWorld_cell w e b i hlt
    have hgd : b.data.toList.getD i 0 = c := by rw [List.getD_eq_getElem?_getD, hc]; rfl
    rw [hgd] at hcell
   · exact ⟨rfl, .inr ⟨Nat.le_refl _, by show w.heap.size < _; rw [Lib.bytesWorld_size]; omega⟩, _, by simpa using hcell, rfl⟩
   · have hv' : (Lib.bytesWorld w e b).cell? ⟨w.heap.size, i, none⟩ = some v := by simpa using hv
     rw [hcell] at hv'; injection hv' with hv'; subst hv'
     exact .int _ _
theorem Y_rangeStr (hx : s.ev x = .d (.str b)) (hu : K.P.underlying ty = some .string) (ht : t < K.n) :
 Yld K ⟨some t, .range ty x, rt, pos, af, g⟩ s ⟨(t, .ref s.mem.length 0) :: s.slots, s.mem ++ [[.mapc (iterK b 0)]]⟩ := by
 rintro a w ⟨S, O, m, h⟩
 have he := h.env
 have hb := rd_str (h.evd hx)
 have hE : Ext S w (w.alloc (.stringIter b 0)) := ext_alloc S w _ he.slt
 have hsz0 : K.w0.heap.size ≤ w.heap.size := he.ext.size
 have hO : ∀ (b : Nat) l t, O b = some (l, t) → (if b = w.heap.size then some ([s.mem.length, 1], 0) else O b) = some (l, t) := fun b l t hb => by
  rw [if_neg (Nat.ne_of_lt (he.olt b l t hb))]; exact hb
 have hmm : ∀ (b r : Nat), m[b]? = some r → (m ++ [w.heap.size])[b]? = some r := fun b r hb => by rw [List.getElem?_append_left (lG hb)]; exact hb
 refine ⟨.pointer (some ⟨w.heap.size, 0, none⟩), w.alloc (.stringIter b 0), by simp only [execOp, hb]; simp [run_range_string w ty b hu, World.iter], S, fun b => if b = w.heap.size then some ([s.mem.length, 1], 0) else O b, m ++ [w.heap.size], ⟨he.ext.trans hE he.s0, fun b hb hO' => ?_, fun b l t o hb hO' hlt => ?_, he.s0, he.snew, fun b o l t hS hO' => ?_, fun b o hS => ?_, fun b l t hO' => ?_, fun b l t hO' => ?_, by simp [he.mlen], fun i cs r hi hr hne => ?_⟩, h.defers, by simp [Act.put, h.size], h.pre.trans (List.prefix_append _ _), fun i p hi => ?_⟩
 · rw [heap_alloc_old' _ _ _ (by omega)]; exact he.old b hb hO'
 · rw [World.cell?_alloc_lt w _ ⟨b, o, none⟩ (show b < w.heap.size by omega)]; exact he.part b l t o hb hO' hlt
 · have := he.slt b o hS; rw [if_neg (Nat.ne_of_lt this)] at hO'; exact he.sown b o l t hS hO'
 · have := he.slt b o hS; simp; omega
 · by_cases hb : b = w.heap.size
   · subst hb; simp
   · rw [if_neg hb] at hO'; have := he.olt b l t hO'; simp; omega
 · by_cases hb : b = w.heap.size
   · exact .inl (by omega)
   · rw [if_neg hb] at hO'; exact he.onew b l t hO'
 · by_cases hi' : i < s.mem.length
   · rw [List.getElem?_append_left hi'] at hi
     rw [List.getElem?_append_left (by rw [he.mlen]; exact hi')] at hr
     obtain ⟨g1, g2⟩ := he.mem i cs r hi hr hne
     exact ⟨hO _ _ _ g1, g2.frame (heap_alloc_old' _ _ _ (he.olt _ _ _ g1)) hE (fun _ _ h => h) (fun j b t q hb => hO b _ t hb) hmm⟩
   · have hil : i = s.mem.length := by
      have := (lG hi); simp at this; omega
     subst hil
     rw [List.getElem?_append_right (Nat.le_refl _)] at hi
     rw [← he.mlen, List.getElem?_append_right (Nat.le_refl _)] at hr
     simp only [Nat.sub_self, List.getElem?_cons_zero, Option.some.injEq] at hi hr
     subst hi; subst hr
     exact ⟨by simp, .inr (.inr (.inr (.inl ⟨b, 0, rfl, heap_alloc_new' w _⟩)))⟩
 · rw [getD_put _ _ _ _ (by rw [h.size]; exact ht)]
   have hi' : (s.set t (.ref s.mem.length 0)).get i = some p := hi
   rw [GS.get_set] at hi'
   by_cases hit : i = t
   · rw [if_pos hit] at hi' ⊢; injection hi' with hi'; subst hi'
     exact .ref _ _ _ _ (by rw [← he.mlen]; simp)
   · rw [if_neg hit] at hi' ⊢
     exact (h.slots i p hi').ext hE (fun _ _ h => h) (fun b t q hb => hO b _ t hb) hmm
theorem Rep.iterBlock {a : Act} (h : Rep K S O m s a w) {i pos : Nat} {b : ByteArray} (hb : s.mem[i]? = some [.mapc (iterK b pos)]) :
 ∃ r, m[i]? = some r ∧ w.heap[r]? = some (.stringIter b pos) := by
 have hlt : i < m.length := by rw [h.env.mlen]; exact (lG hb)
 obtain ⟨_, hblk⟩ := h.env.mem i _ m[i] hb (gE hlt) (by simp)
 rcases hblk with ⟨vs, el, h1, h2, h3, h4⟩ | ⟨kvs', es, c, hc, h1, h2, h3, h4⟩ | ⟨_, hc⟩ | ⟨b', pos', hc, h1⟩ | ⟨_, _, _, _, _, hc, _⟩
 · exfalso
   have hlt : 0 < vs.size := by simp at h2; omega
   have := h4 0 _ _ rfl (Array.getElem?_eq_getElem hlt)
   cases this
 · injection hc with hc _
   injection hc with hc
   subst hc
   obtain ⟨_, e, _, he⟩ := h3 (.nilF, .str b) (by simp [iterK])
   cases he
 · cases hc
 · simp only [iterK, List.cons.injEq, PV.mapc.injEq, Prod.mk.injEq, D.str.injEq, D.int.injEq, true_and, and_true] at hc
   obtain ⟨h5, h6⟩ := hc
   have h6' : pos = pos' := by omega
   subst h5; subst h6'
   exact ⟨m[i], gE hlt, h1⟩
 · cases hc
theorem ext_setIter {pos pos' : Nat} (hh : w.heap[r]? = some (.stringIter b pos)) (hS : ∀ o, ¬ S r o) : Ext S w { w with heap := w.heap.setIfInBounds r (.stringIter b pos') } where
 size := by simp
 shape := fun b us el fz hb => by
  have hbr : b ≠ r := by rintro rfl; rw [hh] at hb; injection hb with hb; cases hb
  exact ⟨us, by rw [heap_set_ne _ hbr]; exact hb, rfl⟩
 cell := fun b o hb => by
  have hbr : b ≠ r := by rintro rfl; exact hS o hb
  simp only [World.cell?, heap_set_ne _ hbr]
 maps := fun b es0 c0 hb hm => by
  have hbr : b ≠ r := by rintro rfl; exact hS 0 hb
  rw [heap_set_ne _ hbr]; exact hm
theorem Rep.setIter {a : Act} (h : Rep K S O m s a w) {i r pos pos' : Nat} {b : ByteArray} (hb : s.mem[i]? = some [.mapc (iterK b pos)]) (hr : m[i]? = some r)
 (hh : w.heap[r]? = some (.stringIter b pos)) : Rep K S O m ⟨s.slots, s.mem.set i [.mapc (iterK b pos')]⟩ a { w with heap := w.heap.setIfInBounds r (.stringIter b pos') } := by
 have he := h.env
 obtain ⟨hown, _⟩ := he.mem i _ r hb hr (by simp)
 have hSr : ∀ o, ¬ S r o := fun o hS => absurd (he.sown r o _ _ hS hown) (Nat.not_lt_zero _)
 have hE : Ext S w { w with heap := w.heap.setIfInBounds r (.stringIter b pos') } := ext_setIter hh hSr
 have hoth : ∀ b', b' ≠ r → ({ w with heap := w.heap.setIfInBounds r (.stringIter b pos') } : World).heap[b']? = w.heap[b']? := fun b' hb' => heap_set_ne _ hb'
 refine ⟨⟨he.ext.trans hE he.s0, fun k hk hO => ?_, fun k l t o hk hO hot => ?_, he.s0, he.snew, he.sown, fun k o hS => ?_, fun k l t hO => ?_, he.onew, by simp [he.mlen], fun j cs r' hi hr' hne => ?_⟩, h.defers, h.size, h.pre, fun i p hp => (h.slots i p hp).ext hE (fun _ _ h => h) (fun _ _ _ h => h) (fun _ _ h => h)⟩
 · have : k ≠ r := by
    rintro rfl
    rcases he.onew k _ _ hown with h1 | ⟨l0, t0, h1, _⟩
    · omega
    · rw [hO] at h1; cases h1
   rw [hoth k this]; exact he.old k hk hO
 · have : k ≠ r := by
    rintro rfl
    rcases he.onew k _ _ hown with h1 | ⟨l0, t0, h1, h2⟩
    · omega
    · rw [hO] at h1; injection h1 with h1; injection h1 with _ h1; omega
   have hc : ({ w with heap := w.heap.setIfInBounds r (.stringIter b pos') } : World).cell? ⟨k, o, none⟩ = w.cell? ⟨k, o, none⟩ := by simp only [World.cell?, hoth k this]
   rw [hc]; exact he.part k l t o hk hO hot
 · have := he.slt k o hS; simpa using this
 · have := he.olt k l t hO; simpa using this
 · by_cases hib : j = i
   · subst hib
     rw [hr] at hr'; injection hr' with hr'; subst hr'
     have hlt : j < s.mem.length := (lG hb)
     have hi' : [PV.mapc (iterK b pos')] = cs := by
      have : (s.mem.set j [.mapc (iterK b pos')])[j]? = some cs := hi
      rw [List.getElem?_set_self hlt] at this; injection this
     subst hi'
     exact ⟨hown, .inr (.inr (.inr (.inl ⟨b, pos', rfl, heap_set_eq (Array.getElem?_eq_some_iff.1 hh).1⟩)))⟩
   · have hi' : s.mem[j]? = some cs := by
      have : (s.mem.set i [.mapc (iterK b pos')])[j]? = some cs := hi
      rwa [List.getElem?_set_ne (Ne.symm hib)] at this
     obtain ⟨g1, g2⟩ := he.mem j cs r' hi' hr' hne
     have hrr : r' ≠ r := by
      rintro rfl
      rw [g1] at hown; injection hown with hown; injection hown with hown _; injection hown with hown _; exact hib hown
     exact ⟨g1, g2.frame (hoth r' hrr) hE (fun _ _ h => h) (fun _ _ _ _ h => h) (fun _ _ h => h)⟩
theorem Y_nextEnd {i pos : Nat} {ps : String} (hx : s.ev x = .ref i 0) (hm : s.mem[i]? = some [.mapc (iterK b pos)]) (hlt : ¬ pos < b.size) (ht : t < K.n) :
 Yld K ⟨some t, .next x true, rt, ps, af, g⟩ s (s.set t (.tup [.d (.bool false)])) := by
 rintro a w ⟨S, O, m, h⟩
 obtain ⟨r, hr, hh⟩ := h.iterBlock hm
 obtain ⟨l, hrx⟩ := h.ev x
 rw [hx] at hrx
 generalize hv : a.eval x = v at hrx
 cases hrx with
 | ref _ _ _ r' hr' =>
  rw [hr] at hr'; injection hr' with hr'; subst hr'
  refine ⟨.tuple #[.bool false], w, ?_, S, O, m, h.put ht (.tup _ _ _ rfl (fun j p u hi hu => ?_))⟩
  · simp only [execOp, hv]
    simp [Instr.next, getObj, Sem.run, hh, hlt]
  · match j with
    | 0 => simp at hi hu; subst hi; subst hu; exact .d _ _ _ (.bool _)
    | j + 1 => simp at hi
theorem Y_next {i pos : Nat} {ps : String} (hx : s.ev x = .ref i 0) (hm : s.mem[i]? = some [.mapc (iterK b pos)]) (hlt : pos < b.size) (ht : t < K.n) :
 Yld K ⟨some t, .next x true, rt, ps, af, g⟩ s ⟨(t, .tup [.d (.bool true), .d (.int .i64 pos), .d (.int .i32 (Utf8.decode b pos).1)]) :: s.slots, s.mem.set i [.mapc (iterK b (pos + (Utf8.decode b pos).2))]⟩ := by
 rintro a w ⟨S, O, m, h⟩
 obtain ⟨r, hr, hh⟩ := h.iterBlock hm
 obtain ⟨l, hrx⟩ := h.ev x
 rw [hx] at hrx
 generalize hv : a.eval x = v at hrx
 cases hrx with
 | ref _ _ _ r' hr' =>
  rw [hr] at hr'; injection hr' with hr'; subst hr'
  refine ⟨.tuple #[.bool true, .int .i64 pos, .int .i32 (Utf8.decode b pos).1], { w with heap := w.heap.setIfInBounds r (.stringIter b (pos + (Utf8.decode b pos).2)) }, ?_, S, O, m, (h.setIter hm hr hh).put ht (.tup _ _ _ rfl (fun j p u hi hu => ?_))⟩
  · simp only [execOp, hv]
    simp [Instr.next, getObj, setObj, Sem.run, hh, hlt, goInt]
  · match j with
    | 0 => simp at hi hu; subst hi; subst hu; exact .d _ _ _ (.bool _)
    | 1 => simp at hi hu; subst hi; subst hu; exact .d _ _ _ (.int _ _)
    | 2 => simp at hi hu; subst hi; subst hu; exact .d _ _ _ (.int _ _)
    | j + 3 => simp at hi
end
section
variable {K : Ctx} {ops : Array Oper} {Q : Exit → GS → Prop} {s : GS} {i t : Nat}
theorem sgx {s'' : GS} {rest : List Nat} {o : Oper} {j u : Nat} {want b : Bool} {oj : Oper} {q : PV}
 (ho : ops[i]? = some o) (hf : b = false) (h : GOps K ops Q rest s'') (hg : o.guard = some (j, want) := by rfl) (hj : ops[j]? = some oj := by rfl) (hjd : oj.dst = some u := by rfl)
 (hsu : s.get u = some q := by exact J0) (hgd : q.guard want = some b := by rfl) (hu : u < K.n := by exact oR rfl) (hd : o.dst = some t := by rfl) (ht : t < K.n := by exact oR rfl)
 (hs : s.set t (.when b (.d (.bool false))) = s'' := by exact J1) : GOps K ops Q (i :: rest) s :=
 sg ho (fun hb => by rw [hf] at hb; cases hb) h hg hj hjd hsu hgd hu hd ht hs
theorem y_fieldAt (o : Nat) {K : Ctx} {s : GS} {t : Nat} {x : Operand} {st rt : TypeId} {f n : Nat} {pos : String} {af : Array Edge} {g : Option (Nat × Bool)} {b off : Nat} {fs : Array Field} {fl : Field} (hu : K.P.underlying st = some (.struct fs)) (hf : fs[f]? = some fl) (hz : (K.P.info? fl.type).map (·.size) = some (n + 1))
 (hx : s.ev x = .ref b off := by exact J0) (ho : off + fl.offset = o := by rfl) (ht : t < K.n := by exact oR rfl) : Yld K ⟨some t, .fieldAddr st x f, rt, pos, af, g⟩ s (s.set t (.ref b o)) := by
 subst ho; exact Y_fieldAddr hx hu hf hz ht
theorem g_keepo {l : List Nat} {s' : GS} (ks : List Nat) (h : GOps K ops Q l s')
 (hs : GS.keep ks s = s' := by exact J4) : GOps K ops Q l s := by
 subst hs
 exact GOps_le (s' := GS.keep ks s) (fun a w ⟨S, O, m, hr⟩ => ⟨S, O, m, hr.env, hr.defers, hr.size, hr.pre, fun i p hp => hr.slots i p (GS.keep_get ks s.slots i p hp)⟩) h
def CG (K : Ctx) (ops : Array Oper) (M : (Nat → Bool) → List (List PV)) (base : List (Nat × PV)) (Q : Exit → GS → Prop) (i : Nat) (es : List (Nat × Nat × PV)) : Prop :=
 ∃ fs, Conf K ops M base i es fs ∧ (fs.map (·.2.1)).Nodup ∧ (∀ x ∈ base, x.1 ∉ fs.map (·.2.1)) ∧ (∀ x ∈ fs, x.1 < ops.size) ∧ Q .normal ⟨fs.map (·.2) ++ base, M (allB ops.size)⟩
def CF (K : Ctx) (ops : Array Oper) (M : (Nat → Bool) → List (List PV)) (base : List (Nat × PV)) (Q : Exit → GS → Prop) (i : Nat) (es : List (Nat × Nat × PV)) (full : List (Nat × PV) → List (Nat × PV)) : Prop :=
 ∀ ds : List Nat, (∀ rest, pick es ds ++ base ++ rest = full rest) → (ds.all fun d => (depsOf ops i).contains d) = true → CG K ops M base Q i es
variable {base : List (Nat × PV)}
theorem cP {M : (Nat → Bool) → List (List PV)} {es : List (Nat × Nat × PV)} {full : List (Nat × PV) → List (Nat × PV)} (ds : List Nat) (h : CF K ops M base Q i es full)
 (hfull : ∀ rest, pick es ds ++ base ++ rest = full rest := by intro rest; simp only [pick, List.filter_cons, List.filter_nil, List.contains_cons, List.contains_nil, Nat.reduceBEq, Bool.or_false, Bool.false_or, Bool.or_true, Bool.true_or, if_true, if_false, Bool.false_eq_true, List.map_cons, List.map_nil, List.cons_append, List.nil_append, List.append_nil] <;> rfl) (hds : (ds.all fun d => (depsOf ops i).contains d) = true := by kernel_rfl) : CG K ops M base Q i es := h ds hfull hds
theorem cS (j : Nat) {K : Ctx} {ops : Array Oper} {M : (Nat → Bool) → List (List PV)} {base : List (Nat × PV)} {Q : Exit → GS → Prop} {i t : Nat} {es es' : List (Nat × Nat × PV)} {p : PV} {full : List (Nat × PV) → List (Nat × PV)}
 (h : ∀ (b : Nat → Bool) (rest : List (Nat × PV)), b i = false → (∀ j ∈ depsOf ops i, b j = true) → Valid ops b → GOps K ops (fun e s' => e = .normal ∧ s' = ⟨(t, p) :: full rest, M (upd b i)⟩) [i] ⟨full rest, M b⟩)
 (hc : CG K ops M base Q j es') (hj : i + 1 = j := by rfl) (hes : es ++ [(i, t, p)] = es' := by exact J10) : CF K ops M base Q i es full := by
 subst hj
 intro ds hfull hds
 obtain ⟨fs, h1, h2⟩ := hc
 exact ⟨fs, conf_val ds h h1 hfull hes hds, h2⟩
theorem cg_act (j : Nat) {K : Ctx} {ops : Array Oper} {M : (Nat → Bool) → List (List PV)} {base : List (Nat × PV)} {Q : Exit → GS → Prop} {i : Nat} {es : List (Nat × Nat × PV)} {full : List (Nat × PV) → List (Nat × PV)}
 (h : ∀ (b : Nat → Bool) (rest : List (Nat × PV)), b i = false → (∀ j ∈ depsOf ops i, b j = true) → Valid ops b → GOps K ops (fun e s' => e = .normal ∧ s' = ⟨full rest, M (upd b i)⟩) [i] ⟨full rest, M b⟩)
 (hc : CG K ops M base Q j es) (hj : i + 1 = j := by rfl) : CF K ops M base Q i es full := by
 subst hj
 intro ds hfull hds
 obtain ⟨fs, h1, h2⟩ := hc
 exact ⟨fs, conf_act ds h h1 hfull hds, h2⟩
theorem cg_done {M : (Nat → Bool) → List (List PV)} {es : List (Nat × Nat × PV)} {s'' : GS} {mem'' : List (List PV)} {ts bs is : List Nat} (hq : Q .normal s'')
 (hi : i = ops.size := by rfl) (hmm : M (allB ops.size) = mem'' := by rfl) (hts : es.map (·.2.1) = ts := by simp only [List.map_cons, List.map_nil] <;> rfl) (his : es.map (·.1) = is := by simp only [List.map_cons, List.map_nil] <;> rfl) (hbs : base.map (·.1) = bs := by simp only [List.map_cons, List.map_nil] <;> rfl)
 (hnd : nodupB ts = true := by kernel_rfl) (hdis : (bs.all fun x => !ts.contains x) = true := by kernel_rfl) (hfi : (is.all fun x => Nat.blt x ops.size) = true := by kernel_rfl)
 (hs'' : GS.mk (es.map (·.2) ++ base) mem'' = s'' := by simp only [List.map_cons, List.map_nil, List.cons_append, List.nil_append] <;> rfl) : CG K ops M base Q i es := by
 subst hmm; subst hts; subst hbs; subst his
 refine ⟨es, .done hi, nodupB_iff hnd, fun x hx => ?_, fun x hx => ?_, hs'' ▸ hq⟩
 · have := List.all_eq_true.1 hdis x.1 (List.mem_map_of_mem hx)
   simpa using this
 · have := List.all_eq_true.1 hfi x.1 (List.mem_map_of_mem hx)
   simpa using this
theorem dep_in {d : Nat} (h : (depsOf ops i).contains d = true := by kernel_rfl) : d ∈ depsOf ops i := by simpa using h
theorem Valid.no {b : Nat → Bool} (hv : Valid ops b) (i d : Nat) (hd : b d = false) (h : (depsOf ops i).contains d = true := by kernel_rfl) : b i = false := by
 cases hb : b i with
 | false => rfl
 | true => have := hv i hb d (by simpa using h); rw [hd] at this; cases this
theorem J2 {A : Prop} (h : A := by simp only [List.filter_cons, List.filter_nil, List.contains_cons, List.contains_nil, Nat.reduceBEq, Bool.or_false, Bool.false_or, Bool.or_true, Bool.true_or, Bool.not_true, Bool.not_false, if_true, if_false, Bool.false_eq_true] <;> rfl) : A := h
theorem g_cg {id : Nat} {slots : List (Nat × PV)} {mem : List (List PV)} (dsts : List Nat) (M : (Nat → Bool) → List (List PV)) (hM : M noB = mem) (hc : CG K ops M base Q 0 [])
 (hbase : (slots.filter fun x => !dsts.contains x.1) = base := by exact J2)
 (hm : K.P.follows .mixedOrders = true := by kernel_rfl) (hdep : ((List.range ops.size).all fun i => (depsOf ops i).all fun d => Nat.blt d i) = true := by kernel_rfl) : G K (.region id ops true) Q ⟨slots, mem⟩ := by
 obtain ⟨fs, hc, hnd, hdis, hfi, hq⟩ := hc
 refine G_conf ops.size rfl hm (Le_slots (s' := ⟨base, M noB⟩) hM fun t p hp => .inl ?_) hc hnd hdis (fun i hi d hd => ?_) rfl hfi hq
 · subst hbase
   exact filter_lookup (fun k => !dsts.contains k) _ t p hp
 · have h1 := List.all_eq_true.1 hdep i (List.mem_range.2 hi)
   have h2 := List.all_eq_true.1 h1 d hd
   simpa using h2
theorem g_cg0 {id : Nat} {slots : List (Nat × PV)} {mem : List (List PV)} (dsts : List Nat) (hc : CG K ops (fun _ => mem) base Q 0 [])
 (hbase : (slots.filter fun x => !dsts.contains x.1) = base := by exact J2)
 (hm : K.P.follows .mixedOrders = true := by kernel_rfl) (hdep : ((List.range ops.size).all fun i => (depsOf ops i).all fun d => Nat.blt d i) = true := by kernel_rfl) : G K (.region id ops true) Q ⟨slots, mem⟩ := g_cg dsts (fun _ => mem) rfl hc hbase hm hdep
variable {ty rt : TypeId} {pos : String} {af : Array Edge} {g : Option (Nat × Bool)}
theorem y_makeMap (ht : t < K.n := by exact oR rfl) :
 Yld K ⟨some t, .makeMap ty none, rt, pos, af, g⟩ s ⟨(t, .mref s.mem.length) :: s.slots, s.mem ++ [[.mapc []]]⟩ := Y_makeMap ht
theorem d_insert {mx kx vx : Operand} {kt et : TypeId} {b : Nat} {kvs : List (D × D)} {k v : D} {p : PV} {kd : TypeDesc} (hu : K.P.underlying ty = some (.map kt et)) (hkd : K.P.underlying kt = some kd) (hmx : s.ev mx = .mref b := by exact J0) (hm : s.mem[b]? = some [.mapc kvs] := by rfl) (hkx : s.ev kx = .d k := by exact J0) (hvx : s.ev vx = p := by exact J0) (hv : p.toDn = some v := by rfl) (hks : (kvs.all fun x => x.1.keyOf kd) = true := by first | rfl | kernel_rfl) (hk : k.keyOf kd = true := by rfl) (hnew : mhas kvs k = false := by first | rfl | kernel_rfl) :
 Does K ⟨none, .insert ty mx kx vx, rt, pos, af, g⟩ s ⟨s.slots, s.mem.set b [.mapc (kvs ++ [(k, v)])]⟩ := D_insert hu hkd hmx hm hkx hvx hv hks hk hnew
theorem q_lookup2 {mx kx : Operand} {kt et : TypeId} {kvs : List (D × D)} {k zd : D} {z : Value} {kd : TypeDesc} (hu : K.P.underlying ty = some (.map kt et)) (hkd : K.P.underlying kt = some kd) (hz : (K.P.info? et).map (·.zero) = some (some z)) (hzd : zeroD z = some zd := by rfl) (h1 : z.cells.all (·.oneCell') = true := by kernel_rfl) (hmx : s.ev mx = .d (.map kvs) := by exact J0) (hkx : s.ev kx = .d k := by exact J0) (hks : (kvs.all fun x => x.1.keyOf kd) = true := by first | rfl | kernel_rfl) (hk : k.keyOf kd = true := by rfl) (ht : t < K.n := by exact oR rfl) :
 Qy K ⟨some t, .lookup ty mx kx true, rt, pos, af, g⟩ s t (.tup [.d (mget kvs k zd), .d (.bool (mhas kvs k))]) := Q_lookup2 hu hkd hz hzd h1 hmx hkx hks hk ht
variable {e : TypeId} {x : Operand}
theorem q_sleql {yt : TypeId} {d : D} {b : Bool} (hu : K.P.underlying ty = some (.slice e)) (hx : s.ev x = .d d := by exact J0) (hd : d.nilB = some b := by rfl) :
 Qy K ⟨some t, .binOp .eql ty x (.const (.slice none 0 0)) yt, rt, pos, af, g⟩ s t (.d (.bool b)) := Q_sleql hx hd hu
theorem q_slneq {yt : TypeId} {d : D} {b : Bool} (hu : K.P.underlying ty = some (.slice e)) (hx : s.ev x = .d d := by exact J0) (hd : d.nilB = some b := by rfl) :
 Qy K ⟨some t, .binOp .neq ty x (.const (.slice none 0 0)) yt, rt, pos, af, g⟩ s t (.d (.bool (!b))) := Q_slneq hx hd hu
variable {k : IntKind}
theorem q_max {ty' : TypeId} {y : Operand} {a b : Int} (hx : s.ev x = .d (.int k a) := by exact J0) (hy : s.ev y = .d (.int k b) := by exact J0) :
 Qy K ⟨some t, .call ⟨.builtin .max, #[x, y], #[ty, ty']⟩, rt, pos, af, g⟩ s t (.d (.int k (if b > a then b else a))) := Q_max hx hy
variable {b : ByteArray}
theorem q_strh {hi : Operand} {r : ByteArray} {j : Int} (hu : K.P.underlying ty = some .string) (hx : s.ev x = .d (.str b) := by exact J0) (hh : s.ev hi = .d (.int k j) := by exact J0) (h0 : 0 ≤ j := by omega) (h1 : j ≤ (b.size : Nat) := by omega) (hr : b.extract 0 j.toNat = r := by rfl) :
 Qy K ⟨some t, .slice ty x none (some hi) none, rt, pos, af, g⟩ s t (.d (.str r)) := Q_strh hx hh hu h0 h1 hr
theorem q_strl {lo : Operand} {r : ByteArray} {i : Int} (hu : K.P.underlying ty = some .string) (hx : s.ev x = .d (.str b) := by exact J0) (hl : s.ev lo = .d (.int k i) := by exact J0) (h0 : 0 ≤ i := by omega) (h1 : i ≤ (b.size : Nat) := by omega) (hr : b.extract i.toNat b.size = r := by rfl) :
 Qy K ⟨some t, .slice ty x (some lo) none none, rt, pos, af, g⟩ s t (.d (.str r)) := Q_strl hx hl hu h0 h1 hr
theorem y_strbytes {src dst : TypeId} {u : TypeDesc} (hs : K.P.underlying src = some u) (hd : K.P.underlying dst = some (.slice e)) (he : K.P.underlying e = some (.int .u8)) (hx : s.ev x = .d (.str b) := by exact J0) (hlim : b.size ≤ lim := by simp only [lim]; omega) (ht : t < K.n := by exact oR rfl) :
 Yld K ⟨some t, .convert src dst x, rt, pos, af, g⟩ s (s.set t (.d (.sl (bytesD b)))) := Y_strbytes hx hs hd he hlim ht
theorem y_rangeStr (hu : K.P.underlying ty = some .string) (hx : s.ev x = .d (.str b) := by exact J0) (ht : t < K.n := by exact oR rfl) :
 Yld K ⟨some t, .range ty x, rt, pos, af, g⟩ s ⟨(t, .ref s.mem.length 0) :: s.slots, s.mem ++ [[.mapc (iterK b 0)]]⟩ := Y_rangeStr hx hu ht
theorem y_nextEnd {pos : Nat} {ps : String} (hlt : ¬ pos < b.size) (hx : s.ev x = .ref i 0 := by exact J0) (hm : s.mem[i]? = some [.mapc (iterK b pos)] := by rfl) (ht : t < K.n := by exact oR rfl) :
 Yld K ⟨some t, .next x true, rt, ps, af, g⟩ s (s.set t (.tup [.d (.bool false)])) := Y_nextEnd hx hm hlt ht
theorem y_next {pos : Nat} {ps : String} (hlt : pos < b.size) (hx : s.ev x = .ref i 0 := by exact J0) (hm : s.mem[i]? = some [.mapc (iterK b pos)] := by rfl) (ht : t < K.n := by exact oR rfl) :
 Yld K ⟨some t, .next x true, rt, ps, af, g⟩ s ⟨(t, .tup [.d (.bool true), .d (.int .i64 pos), .d (.int .i32 (Utf8.decode b pos).1)]) :: s.slots, s.mem.set i [.mapc (iterK b (pos + (Utf8.decode b pos).2))]⟩ := Y_next hx hm hlt ht
end
section
theorem fincm {P : Program} {t b n k : Nat} {ty : TypeId} {cs : List PV} {td : TypeDesc} {d : D} {s : GS} {R : PV → List (List PV) → Prop} {e : Exit} (mem' : List (List PV)) (hz : (P.info? ty).map (·.size) = some k) (hu : P.underlying ty = some td) (he : e = .normal ∨ e = .ret) (hR : R (.d d) mem')
 (hs : s.get t = some (.ref b 0) := by exact J0) (hm : s.mem[b]? = some cs := by rfl) (hq : mkAgg ((cs.drop 0).take k) = .d d := by exact J1) (hl : leafT td = false := by rfl) (hn : 0 + k ≤ cs.length := by exact oR rfl) (hne : plainB cs = true := by rfl)
 (hms : MSub mem'.length s.mem mem' := by repeat (first | exact MSub.nil | (refine MSub.cons (by repeat (first | exact CSub.nil | refine CSub.cons (.inl rfl) rfl ?_)) ?_))) (hk : mem'.length = n := by rfl) : Fin P [.cell t ty] n R e s :=
 ⟨he, .inl ⟨[mkAgg ((cs.drop 0).take k)], mem', (.cons (.agg hs hm hz hu hl hn hne) .nil), Nat.le_of_eq hk.symm, hms, by simp only [tupOf]; rw [hq]; rfl, by simp only [tupOf]; rw [hq]; exact hR⟩⟩
theorem g_sleqU {K : Ctx} {ops : Array Oper} {Q : Exit → GS → Prop} {s : GS} {i : Nat} {rest : List Nat} {t : Nat} {ty yt rt e : TypeId} {x : Operand} {pos : String} {af : Array Edge} {xs : List D} (hu : K.P.underlying ty = some (.slice e))
 (ho : ops[i]? = some ⟨some t, .binOp .eql ty x (.const (.slice none 0 0)) yt, rt, pos, af, none⟩) (h : ∀ b, GOps K ops Q rest (s.set t (.d (.bool b)))) (hx : s.ev x = .d (.sl xs) := by exact J0) (ht : t < K.n := by exact oR rfl) : GOps K ops Q (i :: rest) s := by
 intro a w ha
 obtain ⟨S, O, m, hr⟩ := ha
 have hv := hr.evd hx
 have hb : ∃ b, (execOp a.eval ⟨some t, .binOp .eql ty x (.const (.slice none 0 0)) yt, rt, pos, af, none⟩).run K.P w = .ok (.value (.bool b)) w := by
  generalize hw : a.eval x = v at hv
  have hc : a.eval (.const (.slice none 0 0)) = .slice none 0 0 := rfl
  simp only [execOp, hw, hc]
  cases hv with
  | sl xs ad cap k _ _ _ hn _ _ => exact ⟨ad.isNone, by cases ad <;> simp [eqGuard, binOp, run_sl_nil hu]⟩
 obtain ⟨b, hb⟩ := hb
 simp only [wpOps, ho, Region.wanted, if_true]
 refine .inl ?_
 simp only [Oper.wp, hb, Oper.upon_value]
 exact h b _ _ ⟨S, O, m, hr.put ht (.d _ _ _ (.bool _))⟩
end
section
theorem q_nilCheckR {K : Ctx} {s : GS} {t : Nat} {x : Operand} {ty : TypeId} {pos : String} {af : Array Edge} {g : Option (Nat × Bool)} {b o : Nat} (hx : s.ev x = .ref b o := by exact J0) :
 Qy K ⟨some t, .nilCheck x, ty, pos, af, g⟩ s t (.ref b o) := by
 refine fun S O m a w hr => ?_
 obtain ⟨l, h⟩ := hr.ev x
 rw [hx] at h
 generalize hv : a.eval x = v at h
 cases h with
 | ref _ _ _ r hm => exact ⟨_, fun w _ => by simp only [execOp, hv]; rfl, .ref _ _ _ r hm⟩
end
end Go.Proofs.Ytklkbfpjimeaoaa.E
