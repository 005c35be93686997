/- THE ENGINE, part 4: the rules of stores, new variables, and of what hands a right on. Conditions: none; generic in the program. -/
import Derived.Test.YtklkbfpjimeaoaaGreatE3
namespace Go.Proofs.YtklkbfpjimeaoaaGreat.E
open Go
/-- The rights, their places renamed. -/
def reo (O : Owns) (f : List Nat → List Nat) : Owns := fun b => (O b).map fun x => (f x.1, x.2)
theorem reo_some {O : Owns} {f : List Nat → List Nat} {b : Nat} {l : List Nat} {t : Nat} (h : reo O f b = some (l, t)) : ∃ l0, O b = some (l0, t) ∧ f l0 = l := by
  unfold reo at h
  cases hb : O b with
  | none => simp [hb] at h
  | some x => obtain ⟨l0, t0⟩ := x; simp [hb] at h; exact ⟨l0, by rw [h.2], h.1⟩
theorem reo_of {O : Owns} {f : List Nat → List Nat} {b : Nat} {l : List Nat} {t : Nat} (h : O b = some (l, t)) : reo O f b = some (f l, t) := by simp [reo, h]
theorem RP.mv {w : World} {S : Reg} {O : Owns} {m l : List Nat} {p : PV} {v : Value} (h : RP w S O m l p v) (f : List Nat → List Nat) (l' : List Nat) (hf : ∀ q, f (q ++ l) = q ++ l') :
    RP w S (reo O f) m l' p v :=
  h.frame l' (Ext.refl S w) (fun _ _ h => h) (fun b t q hb => by rw [reo_of hb, hf]) (fun _ _ h => h)
theorem ext_setRow {S : Reg} {w : World} {r : Nat} {vs vs' : Array Value} {el : TypeId} {fz : Nat × Nat} (hh : w.heap[r]? = some (.cells vs el fz)) (hs : vs'.size = vs.size)
    (hS : ∀ o, S r o → vs'[o]? = vs[o]?) : Ext S w (w.setRow r vs') where
  size := by simp
  shape := fun b us e fz' hb => by
    by_cases hbr : b = r
    · subst hbr
      rw [hh] at hb; injection hb with hb; injection hb with h1 h2 h3; subst h1; subst h2; subst h3
      exact ⟨vs', setRow_heap w b _ vs' _ _ hh, hs⟩
    · exact ⟨us, by rw [setRow_other w r b vs' hbr]; exact hb, rfl⟩
  cell := fun b o hb => by
    by_cases hbr : b = r
    · subst hbr
      rw [cell_of_row _ _ _ _ _ _ (setRow_heap w b _ vs' _ _ hh), cell_of_row _ _ _ _ _ _ hh]
      exact hS o hb
    · exact cell_setRow_other w r vs' _ hbr
  maps := fun b es c hb hm => by
    have hbr : b ≠ r := by rintro rfl; rw [hh] at hm; injection hm with hm; cases hm
    rw [setRow_other w r b vs' hbr]; exact hm
theorem ext_alloc (S : Reg) (w : World) (o : Obj) (hS : ∀ b i, S b i → b < w.heap.size) : Ext S w (w.alloc o) where
  size := by simp
  shape := fun b us e fz hb => ⟨us, by
    have hlt : b < w.heap.size := (Array.getElem?_eq_some_iff.1 hb).1
    simp only [World.alloc, Array.getElem?_push]
    rw [if_neg (Nat.ne_of_lt hlt)]; exact hb, rfl⟩
  cell := fun b i hb => World.cell?_alloc_lt w o ⟨b, i, none⟩ (hS b i hb)
  maps := fun b es c hb hm => by
    simp only [World.alloc, Array.getElem?_push]
    rw [if_neg (Nat.ne_of_lt (hS b 0 hb))]; exact hm
theorem ext_drew (S : Reg) (w : World) : Ext S w w.drew := ⟨Nat.le_refl _, fun _ us _ _ h => ⟨us, h, rfl⟩, fun _ _ _ => rfl, fun _ _ _ _ h => h, rfl, rfl, rfl⟩
theorem heap_alloc_new' (w : World) (o : Obj) : (w.alloc o).heap[w.heap.size]? = some o := by show (w.heap.push o)[w.heap.size]? = some o; simp
theorem heap_alloc_old' (w : World) (o : Obj) (b : Nat) (h : b < w.heap.size) : (w.alloc o).heap[b]? = w.heap[b]? := by
  simp only [World.alloc, Array.getElem?_push]; rw [if_neg (Nat.ne_of_lt h)]
section
variable {S0 : Reg} {O0 : Owns} {w0 : World} {S : Reg} {O : Owns} {m : List Nat} {mem : List (List PV)} {w : World}
/-- A block of its own is written (or read by a take): the rights' places are renamed. -/
theorem Env.write (h : Env S0 O0 w0 S O m mem w) {b r : Nat} {cs cs' : List PV} {vs vs' : Array Value} {el : TypeId} (f : List Nat → List Nat)
    (hb : mem[b]? = some cs) (hne : cs ≠ []) (hm : m[b]? = some r) (hh : w.heap[r]? = some (.cells vs el (0, 0))) (hl : cs'.length ≤ vs'.size) (hs : vs'.size = vs.size)
    (ho : ∀ (j : Nat) v, vs'[j]? = some v → v.oneCell' = true) (hf : ∀ i, f [i, 1] = [i, 1])
    (hc : ∀ (j : Nat) p v, cs'[j]? = some p → vs'[j]? = some v → RP (w.setRow r vs') S (reo O f) m [j, b, 1] p v)
    (hx : ∀ i j q, i ≠ b → f (q ++ [j, i, 1]) = q ++ [j, i, 1]) : Env S0 O0 w0 S (reo O f) m (mem.set b cs') (w.setRow r vs') := by
  have hown : O r = some ([b, 1], 0) := (h.mem b cs r hb hm hne).1
  have hSr : ∀ o, ¬ S r o := fun o hS => absurd (h.sown r o _ _ hS hown) (Nat.not_lt_zero _)
  have hE : Ext S w (w.setRow r vs') := ext_setRow hh hs (fun o hS => absurd hS (hSr o))
  refine ⟨h.ext.trans hE h.s0, fun k hk hO => ?_, fun k l t o hk hO hot => ?_, h.s0, h.snew, fun k o l t hS hO => ?_, fun k o hS => ?_, fun k l t hO => ?_, fun k l t hO => ?_, by simp [h.mlen], fun i cs'' r' hi hr' hne' => ?_⟩
  · have : k ≠ r := by
      rintro rfl
      rcases h.onew k _ _ hown with h1 | ⟨l0, t0, h1, _⟩
      · omega
      · rw [hO] at h1; cases h1
    rw [setRow_other _ _ _ _ this]; exact h.old k hk hO
  · have : k ≠ r := by
      rintro rfl
      rcases h.onew k _ _ hown with h1 | ⟨l0, t0, h1, h2⟩
      · omega
      · rw [hO] at h1; injection h1 with h1; injection h1 with _ h1; omega
    rw [cell_setRow_other _ _ _ _ this]; exact h.part k l t o hk hO hot
  · obtain ⟨l0, h1, _⟩ := reo_some hO; exact h.sown k o l0 t hS h1
  · have := h.slt k o hS; simpa using this
  · obtain ⟨l0, h1, _⟩ := reo_some hO; have := h.olt k l0 t h1; simpa using this
  · obtain ⟨l0, h1, _⟩ := reo_some hO; exact h.onew k l0 t h1
  · by_cases hib : i = b
    · subst hib
      rw [hm] at hr'; injection hr' with hr'; subst hr'
      have hlt : i < mem.length := (List.getElem?_eq_some_iff.1 hb).1
      rw [List.getElem?_set_self hlt] at hi; injection hi with hi; subst hi
      exact ⟨by rw [reo_of hown, hf], .inl ⟨vs', el, setRow_heap w r _ vs' _ _ hh, hl, ho, hc⟩⟩
    · rw [List.getElem?_set_ne (Ne.symm hib)] at hi
      obtain ⟨g1, g2⟩ := h.mem i cs'' r' hi hr' hne'
      have hrr : r' ≠ r := by
        rintro rfl
        rw [g1] at hown; injection hown with hown; injection hown with hown _; injection hown with hown _; exact hib hown
      exact ⟨by rw [reo_of g1, hf], g2.frame (setRow_other _ _ _ _ hrr) hE (fun _ _ h => h) (fun j k t q hk => by rw [reo_of hk, hx i j q hib]) (fun _ _ h => h)⟩
/-- The rights' places are renamed; none of them lies in a block. -/
theorem Env.relab (h : Env S0 O0 w0 S O m mem w) (f : List Nat → List Nat) (hf : ∀ i, f [i, 1] = [i, 1]) (hx : ∀ i j q, f (q ++ [j, i, 1]) = q ++ [j, i, 1]) : Env S0 O0 w0 S (reo O f) m mem w := by
  refine ⟨h.ext, h.old, h.part, h.s0, h.snew, fun k o l t hS hO => ?_, h.slt, fun k l t hO => ?_, fun k l t hO => ?_, h.mlen, fun i cs r hi hr hne' => ?_⟩
  · obtain ⟨l0, h1, _⟩ := reo_some hO; exact h.sown k o l0 t hS h1
  · obtain ⟨l0, h1, _⟩ := reo_some hO; exact h.olt k l0 t h1
  · obtain ⟨l0, h1, _⟩ := reo_some hO; exact h.onew k l0 t h1
  · obtain ⟨g1, g2⟩ := h.mem i cs r hi hr hne'
    exact ⟨by rw [reo_of g1, hf], g2.frame rfl (Ext.refl S w) (fun _ _ h => h) (fun j k t q hk => by rw [reo_of hk, hx i j q]) (fun _ _ h => h)⟩
/-- A new block of its own. -/
theorem Env.alloc (h : Env S0 O0 w0 S O m mem w) (vs : Array Value) (el : TypeId) (cs : List PV) (hl : cs.length ≤ vs.size) (ho : ∀ (j : Nat) v, vs[j]? = some v → v.oneCell' = true)
    (hc : ∀ (j : Nat) p v, cs[j]? = some p → vs[j]? = some v → ∃ O' l, (∀ b, b ≠ w.heap.size → O' b = O b) ∧ RP w S O' m l p.copy v) (hcp : PV.copies cs = cs) :
    Env S0 O0 w0 S (fun b => if b = w.heap.size then some ([mem.length, 1], 0) else O b) (m ++ [w.heap.size]) (mem ++ [cs]) (w.alloc (.cells vs el)) := by
  have hE : Ext S w (w.alloc (.cells vs el)) := ext_alloc S w _ h.slt
  have hsz0 : w0.heap.size ≤ w.heap.size := h.ext.size
  have hO : ∀ (b : Nat) l t, O b = some (l, t) → (if b = w.heap.size then some ([mem.length, 1], 0) else O b) = some (l, t) := fun b l t hb => by
    rw [if_neg (Nat.ne_of_lt (h.olt b l t hb))]; exact hb
  refine ⟨h.ext.trans hE h.s0, fun k hk hO' => ?_, fun k l t o hk hO' hot => ?_, h.s0, h.snew, fun k o l t hS hO' => ?_, fun k o hS => ?_, fun k l t hO' => ?_, fun k l t hO' => ?_, by simp [h.mlen], fun i cs'' r' hi hr' hne' => ?_⟩
  · rw [heap_alloc_old' _ _ _ (by omega)]; exact h.old k hk hO'
  · rw [World.cell?_alloc_lt w _ ⟨k, o, none⟩ (show k < w.heap.size by omega)]; exact h.part k l t o hk hO' hot
  · have := h.slt k o hS; rw [if_neg (Nat.ne_of_lt this)] at hO'; exact h.sown k o l t hS hO'
  · have := h.slt k o hS; simp; omega
  · by_cases hk : k = w.heap.size
    · subst hk; simp
    · rw [if_neg hk] at hO'; have := h.olt k l t hO'; simp; omega
  · by_cases hk : k = w.heap.size
    · exact .inl (by omega)
    · rw [if_neg hk] at hO'; exact h.onew k l t hO'
  · have hmm : ∀ (b r : Nat), m[b]? = some r → (m ++ [w.heap.size])[b]? = some r := fun b r hb => by
      rw [List.getElem?_append_left (List.getElem?_eq_some_iff.1 hb).1]; exact hb
    by_cases hi' : i < mem.length
    · rw [List.getElem?_append_left hi'] at hi
      rw [List.getElem?_append_left (by rw [h.mlen]; exact hi')] at hr'
      obtain ⟨g1, g2⟩ := h.mem i cs'' r' hi hr' hne'
      exact ⟨hO _ _ _ g1, g2.frame (heap_alloc_old' _ _ _ (h.olt _ _ _ g1)) hE (fun _ _ h => h) (fun j b t q hb => hO b _ t hb) hmm⟩
    · have hil : i = mem.length := by
        have := (List.getElem?_eq_some_iff.1 hi).1; simp at this; omega
      subst hil
      rw [List.getElem?_append_right (Nat.le_refl _)] at hi
      rw [← h.mlen, List.getElem?_append_right (Nat.le_refl _)] at hr'
      simp only [Nat.sub_self, List.getElem?_cons_zero, Option.some.injEq] at hi hr'
      subst hi; subst hr'
      refine ⟨by simp, .inl ⟨vs, el, heap_alloc_new' w _, hl, ho, fun j p v hp hv => ?_⟩⟩
      obtain ⟨O', l, hO', hr⟩ := hc j p v hp hv
      have hpc : p.copy = p := by
        have h1 : (PV.copies cs)[j]? = some p := by rw [hcp]; exact hp
        obtain ⟨p', hp', he⟩ := PV.copies_getElem? _ _ _ h1
        rw [hp] at hp'; injection hp' with hp'; subst hp'; exact he.symm
      have h2 := (hr.copy O' [j, mem.length, 1])
      rw [hpc] at h2
      have h3 : RP w S O m [j, mem.length, 1] p v := by have := hr.copy O [j, mem.length, 1]; rwa [hpc, hpc] at this
      exact h3.ext hE (fun _ _ h => h) (fun b t q hb => hO b _ t hb) hmm
end
theorem run_alloc {P : Program} {ty : TypeId} {z : Value} (hz : (P.info? ty).map (·.zero) = some (some z)) (w : World) :
    (Instr.alloc ty true (.tuple #[])).run P w = .ok (.pointer (some ⟨w.heap.size, 0, none⟩)) (w.alloc (.cells z.cells ty)) := by
  cases hq : P.info? ty with
  | none => simp [hq] at hz
  | some i =>
    have hs : i.zero = some z := by simpa [hq] using hz
    simp [Instr.alloc, zeroValue, typeInfo, hq, hs, newVar, newRow]
def zeros (z : Value) : List PV := z.cells.toList.map ofConst
theorem ofConst_copy (v : Value) : (ofConst v).copy = ofConst v := by
  unfold ofConst; split <;> simp [PV.copy]
theorem Y_alloc {K : Ctx} {s : GS} {t : Nat} {ty rt : TypeId} {pos : String} {af : Array Edge} {g : Option (Nat × Bool)} {z : Value} {zs : List PV}
    (hz : (K.P.info? ty).map (·.zero) = some (some z)) (h1 : z.cells.all (·.oneCell') = true) (hzs : zeros z = zs) (ht : t < K.n) :
    Yld K ⟨some t, .alloc ty, rt, pos, af, g⟩ s ⟨(t, .ref s.mem.length 0) :: s.slots, s.mem ++ [zs]⟩ := by
  subst hzs
  rintro a w ⟨S, O, m, h⟩
  have hlen : z.cells.size = (zeros z).length := by simp [zeros]
  have henv := h.env.alloc z.cells ty (zeros z) (Nat.le_of_eq hlen.symm) (fun j v hv => by
      have := Array.all_eq_true_iff_forall_mem.1 h1; exact this v (Array.mem_of_getElem? hv)) (fun j p v hp hv => ⟨O, [], fun _ _ => rfl, by
      simp only [zeros, List.getElem?_map] at hp
      rw [show z.cells.toList[j]? = some v by simpa using hv] at hp
      simp only [Option.map_some, Option.some.injEq] at hp
      subst hp; rw [ofConst_copy]; exact ofConst_rp _ _ _ _ _ v⟩) (by rw [PV.copies_map]; unfold zeros; rw [List.map_map]; congr 1; funext v; exact ofConst_copy v)
  refine ⟨.pointer (some ⟨w.heap.size, 0, none⟩), w.alloc (.cells z.cells ty), by simp [execOp, run_alloc hz], S, _, _, henv, h.defers, by simp [Act.put, h.size], h.pre.trans (List.prefix_append _ _), fun i p hi => ?_⟩
  have hE : Ext S w (w.alloc (.cells z.cells ty)) := ext_alloc S w _ h.env.slt
  rw [getD_put _ _ _ _ (by rw [h.size]; exact ht)]
  have hi' : (s.set t (.ref s.mem.length 0)).get i = some p := hi
  rw [GS.get_set] at hi'
  by_cases hit : i = t
  · rw [if_pos hit] at hi' ⊢; injection hi' with hi'; subst hi'
    exact .ref _ _ _ _ (by rw [← h.env.mlen]; simp)
  · rw [if_neg hit] at hi' ⊢
    exact (h.slots i p hi').ext hE (fun _ _ h => h) (fun b t q hb => by rw [if_neg (Nat.ne_of_lt (h.env.olt b _ t hb))]; exact hb) (fun b r hb => by
      rw [List.getElem?_append_left (List.getElem?_eq_some_iff.1 hb).1]; exact hb)
/-- A value's cells. -/
def PV.cellsOf : PV → List PV
  | .d (.agg ds) => ds.map .d
  | .agg ps => ps
  | p => [p]
theorem Value.cells_of_one {v : Value} (h : v.oneCell' = true) : v.cells = #[v] := by cases v <;> first | rfl | simp [Value.oneCell'] at h
def PV.whole : PV → Bool
  | .tup _ => false
  | .when _ _ => false
  | .undef => false
  | .mapc _ => false
  | .d _ => true
  | .agg _ => true
  | _ => true
theorem Rd.oneCell {w : World} {S : Reg} {d : D} {v : Value} (h : Rd w S d v) (hd : ∀ cs, d ≠ .agg cs) : v.oneCell' = true := by
  cases h <;> first | rfl | exact absurd rfl (hd _)
/-- Its cells in the machine: where each stands. -/
theorem RP.cellsOf {w : World} {S : Reg} {O : Owns} {m l : List Nat} {p : PV} {v : Value} (h : RP w S O m l p v) (hw : p.whole = true) :
    v.cells.size = p.cellsOf.length ∧ (∀ (j : Nat) u, v.cells[j]? = some u → u.oneCell' = true) ∧
    ∀ (j : Nat) q u, p.cellsOf[j]? = some q → v.cells[j]? = some u → RP w S O m l q u ∨ RP w S O m (j :: l) q u := by
  have one : ∀ (q : PV), q.cellsOf = [q] → RP w S O m l q v → v.oneCell' = true → v.cells.size = q.cellsOf.length ∧ (∀ (j : Nat) u, v.cells[j]? = some u → u.oneCell' = true) ∧
      ∀ (j : Nat) q' u, q.cellsOf[j]? = some q' → v.cells[j]? = some u → RP w S O m l q' u ∨ RP w S O m (j :: l) q' u := by
    intro q hq hr hv
    rw [Value.cells_of_one hv, hq]
    refine ⟨rfl, fun j u hu => ?_, fun j q' u hq' hu => ?_⟩
    · cases j with
      | zero => simp at hu; exact hu ▸ hv
      | succ j => simp at hu
    · cases j with
      | zero => simp at hu hq'; subst hu; subst hq'; exact .inl hr
      | succ j => simp at hu
  cases h with
  | d _ x _ h =>
    by_cases hx : ∃ cs, x = .agg cs
    · obtain ⟨cs, rfl⟩ := hx
      cases h with
      | agg _ vs hl ho h =>
        refine ⟨by simp [PV.cellsOf, Value.cells, hl], ho, fun j q u hq hu => .inl ?_⟩
        simp only [PV.cellsOf, List.getElem?_map] at hq
        cases hc : cs[j]? with
        | none => simp [hc] at hq
        | some y => simp [hc] at hq; subst hq; exact .d _ _ _ (h j y u hc hu)
    · have hx' : ∀ cs, x ≠ .agg cs := fun cs hc => hx ⟨cs, hc⟩
      exact one (.d x) (by cases x <;> first | rfl | exact absurd rfl (hx' _)) (.d _ _ _ h) (h.oneCell hx')
  | nils => exact one _ rfl (.nils _) rfl
  | osl _ k xs a cap hr hk hn ht => exact one _ rfl (.osl _ k xs a cap hr hk hn ht) rfl
  | ref _ b off r h => exact one _ rfl (.ref _ b off r h) rfl
  | rsl _ b off n k a cap hc hl h0 h => exact one _ rfl (.rsl _ b off n k a cap hc hl h0 h) rfl
  | mref _ b r h => exact one _ rfl (.mref _ b r h) rfl
  | fn _ f first caps vf vc h1 h2 g1 g2 => exact one _ rfl (.fn _ f first caps vf vc h1 h2 g1 g2) rfl
  | agg _ cs vs hl ho h => exact ⟨by simp [PV.cellsOf, Value.cells, hl], ho, fun j q u hq hu => .inr (h j q u (by simpa [PV.cellsOf] using hq) hu)⟩
  | tup => simp [PV.whole] at hw
  | whenT => simp [PV.whole] at hw
  | whenF => simp [PV.whole] at hw
  | undef => simp [PV.whole] at hw
theorem PV.copy_copy_aux : ∀ n, (∀ p : PV, SizeOf.sizeOf p ≤ n → p.copy.copy = p.copy) ∧ (∀ ps : List PV, SizeOf.sizeOf ps ≤ n → PV.copies (PV.copies ps) = PV.copies ps) := by
  intro n
  induction n with
  | zero => exact ⟨fun p hp => by cases p <;> simp at hp, fun ps hp => by cases ps <;> simp at hp⟩
  | succ n ih =>
    refine ⟨fun p hp => ?_, fun ps hp => ?_⟩
    · cases p with
      | d x => rfl
      | nils => rfl
      | osl k xs => rfl
      | ref b o => rfl
      | rsl b o n k => rfl
      | mref b => rfl
      | mapc kvs => rfl
      | fn f a c => simp only [PV.copy]; rw [ih.2 a (by simp at hp; omega), ih.2 c (by simp at hp; omega)]
      | agg cs => simp only [PV.copy]; rw [ih.2 cs (by simp at hp; omega)]
      | tup cs => simp only [PV.copy]; rw [ih.2 cs (by simp at hp; omega)]
      | when b p => simp only [PV.copy]; rw [ih.1 p (by simp at hp; omega)]
      | undef => rfl
    · cases ps with
      | nil => rfl
      | cons q qs => simp only [PV.copies]; rw [ih.1 q (by simp at hp; omega), ih.2 qs (by simp at hp; omega)]
theorem PV.copies_copies (ps : List PV) : PV.copies (PV.copies ps) = PV.copies ps := (PV.copy_copy_aux _).2 ps (Nat.le_refl _)
/-- 'box': a parameter's own variable. What goes in is a copy. -/
theorem Y_box {K : Ctx} {s : GS} {t : Nat} {x : Operand} {ty rt : TypeId} {pos : String} {af : Array Edge} {g : Option (Nat × Bool)} {p : PV} {cs : List PV}
    (hx : s.ev x = p) (hw : p.whole = true) (hcs : PV.copies p.cellsOf = cs) (ht : t < K.n) : Yld K ⟨some t, .box ty x, rt, pos, af, g⟩ s ⟨(t, .ref s.mem.length 0) :: s.slots, s.mem ++ [cs]⟩ := by
  subst hcs
  rintro a w ⟨S, O, m, h⟩
  obtain ⟨l, hr⟩ := h.ev x
  rw [hx] at hr
  generalize hv : a.eval x = v at hr
  obtain ⟨h1, h2, h3⟩ := hr.cellsOf hw
  have henv := h.env.alloc v.cells ty (PV.copies p.cellsOf) (by rw [h1, PV.copies_map]; simp) h2 (fun j q u hq hu => by
      obtain ⟨q', hq', rfl⟩ := PV.copies_getElem? _ _ _ hq
      refine ⟨O, [], fun _ _ => rfl, ?_⟩
      rcases h3 j q' u hq' hu with h4 | h4
      · exact (h4.copy O []).copy O []
      · exact (h4.copy O []).copy O []) (PV.copies_copies _)
  refine ⟨.pointer (some ⟨w.heap.size, 0, none⟩), w.alloc (.cells v.cells ty), by simp [execOp, hv, Instr.box, newVar, newRow], S, _, _, henv, h.defers, by simp [Act.put, h.size], h.pre.trans (List.prefix_append _ _), fun i p hi => ?_⟩
  have hE : Ext S w (w.alloc (.cells v.cells ty)) := ext_alloc S w _ h.env.slt
  rw [getD_put _ _ _ _ (by rw [h.size]; exact ht)]
  have hi' : (s.set t (.ref s.mem.length 0)).get i = some p := hi
  rw [GS.get_set] at hi'
  by_cases hit : i = t
  · rw [if_pos hit] at hi' ⊢; injection hi' with hi'; subst hi'
    exact .ref _ _ _ _ (by rw [← h.env.mlen]; simp)
  · rw [if_neg hit] at hi' ⊢
    exact (h.slots i p hi').ext hE (fun _ _ h => h) (fun b t q hb => by rw [if_neg (Nat.ne_of_lt (h.env.olt b _ t hb))]; exact hb) (fun b r hb => by
      rw [List.getElem?_append_left (List.getElem?_eq_some_iff.1 hb).1]; exact hb)
end Go.Proofs.YtklkbfpjimeaoaaGreat.E
