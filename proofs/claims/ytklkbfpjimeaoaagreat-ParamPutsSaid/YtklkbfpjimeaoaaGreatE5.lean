/- THE ENGINE, part 5: stores, and rights handed on between temporaries and variables. Conditions: none; generic in the program. -/
import Derived.Test.YtklkbfpjimeaoaaGreatE4
namespace Go.Proofs.YtklkbfpjimeaoaaGreat.E
open Go
def splice {α : Type} (cs : List α) (off : Nat) (ps : List α) : List α := cs.take off ++ ps ++ cs.drop (off + ps.length)
theorem splice_get {α : Type} (cs : List α) (off : Nat) (ps : List α) (hfit : off + ps.length ≤ cs.length) (j : Nat) :
    (splice cs off ps)[j]? = if off ≤ j ∧ j < off + ps.length then ps[j - off]? else cs[j]? := by
  unfold splice
  by_cases h1 : j < off
  · rw [if_neg (by omega), List.append_assoc, List.getElem?_append_left (by simp; omega), List.getElem?_take, if_pos h1]
  · by_cases h2 : j < off + ps.length
    · rw [if_pos ⟨by omega, h2⟩, List.append_assoc, List.getElem?_append_right (by simp; omega), List.getElem?_append_left (by simp; omega)]
      congr 1
      simp; omega
    · rw [if_neg (by omega), List.getElem?_append_right (by simp; omega), List.getElem?_drop]
      congr 1
      simp; omega
theorem splice_length {α : Type} (cs : List α) (off : Nat) (ps : List α) (hfit : off + ps.length ≤ cs.length) : (splice cs off ps).length = cs.length := by
  unfold splice; simp; omega
mutual
def PV.noown : PV → Bool
  | .d _ => true
  | .nils => true
  | .osl _ _ => false
  | .ref _ _ => true
  | .rsl _ _ _ _ => true
  | .mref _ => true
  | .mapc _ => true
  | .fn _ a c => PV.noowns a && PV.noowns c
  | .agg cs => PV.noowns cs
  | .tup cs => PV.noowns cs
  | .when _ p => p.noown
  | .undef => true
def PV.noowns : List PV → Bool
  | [] => true
  | p :: ps => p.noown && PV.noowns ps
end
theorem PV.noown_aux : ∀ n, (∀ p : PV, SizeOf.sizeOf p ≤ n → p.noown = true → p.copy = p) ∧ (∀ ps : List PV, SizeOf.sizeOf ps ≤ n → PV.noowns ps = true → PV.copies ps = ps) := by
  intro n
  induction n with
  | zero => exact ⟨fun p hp => by cases p <;> simp at hp, fun ps hp => by cases ps <;> simp at hp⟩
  | succ n ih =>
    refine ⟨fun p hp h => ?_, fun ps hp h => ?_⟩
    · cases p with
      | d x => rfl
      | nils => rfl
      | osl k xs => simp [PV.noown] at h
      | ref b o => rfl
      | rsl b o n k => rfl
      | mref b => rfl
      | mapc kvs => rfl
      | fn f a c => simp only [PV.noown, Bool.and_eq_true] at h; simp only [PV.copy]; rw [ih.2 a (by simp at hp; omega) h.1, ih.2 c (by simp at hp; omega) h.2]
      | agg cs => simp only [PV.noown] at h; simp only [PV.copy]; rw [ih.2 cs (by simp at hp; omega) h]
      | tup cs => simp only [PV.noown] at h; simp only [PV.copy]; rw [ih.2 cs (by simp at hp; omega) h]
      | when b p => simp only [PV.noown] at h; simp only [PV.copy]; rw [ih.1 p (by simp at hp; omega) h]
      | undef => rfl
    · cases ps with
      | nil => rfl
      | cons q qs => simp only [PV.noowns, Bool.and_eq_true] at h; simp only [PV.copies]; rw [ih.1 q (by simp at hp; omega) h.1, ih.2 qs (by simp at hp; omega) h.2]
theorem PV.copy_eq {p : PV} (h : p.noown = true) : p.copy = p := (PV.noown_aux _).1 p (Nat.le_refl _) h
/-- What owns nothing stands anywhere. -/
theorem RP.any {w : World} {S : Reg} {O : Owns} {m l : List Nat} {p : PV} {v : Value} (h : RP w S O m l p v) (hn : p.noown = true) (O' : Owns) (l' : List Nat) : RP w S O' m l' p v := by
  have := h.copy O' l'; rwa [PV.copy_eq hn] at this
theorem PV.noowns_get {ps : List PV} (h : PV.noowns ps = true) {j : Nat} {p : PV} (hp : ps[j]? = some p) : p.noown = true := by
  induction ps generalizing j with
  | nil => simp at hp
  | cons q qs ih =>
    simp only [PV.noowns, Bool.and_eq_true] at h
    cases j with
    | zero => simp at hp; exact hp ▸ h.1
    | succ j => exact ih h.2 (by simpa using hp)
theorem PV.noown_cellsOf {p : PV} (h : p.noown = true) : PV.noowns p.cellsOf = true := by
  have hd : ∀ ds : List D, PV.noowns (ds.map .d) = true := fun ds => by induction ds with | nil => rfl | cons d ds ih => simp [PV.noowns, PV.noown, ih]
  unfold PV.cellsOf
  split
  · exact hd _
  · simpa [PV.noown] using h
  · simp [PV.noowns, h]
theorem Rep.store {K : Ctx} {S : Reg} {O : Owns} {m : List Nat} {s : GS} {a : Act} {w : World} (h : Rep K S O m s a w) {b off : Nat} {cs : List PV} (hm : s.mem[b]? = some cs) (hne : plainB cs = true)
    (ps : List PV) (us : List Value) (hl : us.length = ps.length) (hfit : off + ps.length ≤ cs.length) (ho : ∀ (j : Nat) v, us[j]? = some v → v.oneCell' = true)
    (f : List Nat → List Nat) (hf1 : ∀ i, f [i, 1] = [i, 1]) (hf2 : ∀ i j q, f (q ++ [j, i, 1]) = q ++ [j, i, 1]) (slots' : List (Nat × PV))
    (hslots : ∀ (i : Nat) p, slots'.lookup i = some p → RP w S (reo O f) m [i, 0] p (a.tmps.getD i undef))
    (hps : ∀ (j : Nat) p v, ps[j]? = some p → us[j]? = some v → RP w S (reo O f) m [off + j, b, 1] p v) (r : Nat) (hr : m[b]? = some r) :
    ∃ w', (storeCells ⟨r, off, none⟩ us).run K.P w = .ok () w' ∧ Rep K S (reo O f) m ⟨slots', s.mem.set b (splice cs off ps)⟩ a w' := by
  obtain ⟨r', vs, el, h1, h2, h3, h4, h5, h6⟩ := h.block hm hne
  obtain rfl : r = r' := by rw [hr] at h1; exact Option.some.inj h1
  have hst := run_storeCells_at K.P r off el us 0 vs w h3 (by omega) (fun v hv => by obtain ⟨j, hj⟩ := List.getElem?_of_mem hv; exact ho j v hj)
  simp only [Nat.add_zero] at hst
  refine ⟨_, hst, ?_⟩
  have hvs : (vs.toList.take off ++ us ++ vs.toList.drop (off + us.length)) = splice vs.toList off us := rfl
  rw [hvs]
  have hfit' : off + us.length ≤ vs.toList.length := by simp; omega
  have hsz : (splice vs.toList off us).toArray.size = vs.size := by simp [splice_length _ _ _ hfit']
  have hSr : ∀ o, ¬ S r o := fun o hS => absurd (h.env.sown r o _ _ hS h2) (Nat.not_lt_zero _)
  have hE : Ext S w (w.setRow r (splice vs.toList off us).toArray) := ext_setRow h3 hsz (fun o hS => absurd hS (hSr o))
  have hgetv : ∀ j v, (splice vs.toList off us).toArray[j]? = some v → if off ≤ j ∧ j < off + us.length then us[j - off]? = some v else vs[j]? = some v := fun j v hv => by
    rw [List.getElem?_toArray, splice_get _ _ _ hfit'] at hv
    split at hv
    · rename_i hc; rw [if_pos hc]; exact hv
    · rename_i hc; rw [if_neg hc]; simpa using hv
  refine ⟨h.env.write f hm (plainB_ne hne) hr h3 (by rw [splice_length _ _ _ hfit, hsz]; exact h4) hsz (fun j v hv => ?_) hf1 (fun j p v hp hv => ?_) (fun i j q _ => hf2 i j q), h.defers, h.size, h.pre, fun i p hp => ?_⟩
  · have := hgetv j v hv
    split at this
    · exact ho _ _ this
    · exact h5 j v this
  · have h7 := hgetv j v hv
    rw [splice_get _ _ _ hfit] at hp
    by_cases hc : off ≤ j ∧ j < off + ps.length
    · rw [if_pos hc] at hp
      rw [if_pos (by omega)] at h7
      have := hps (j - off) p v hp h7
      rw [show off + (j - off) = j by omega] at this
      exact this.ext hE (fun _ _ h => h) (fun _ _ _ h => h) (fun _ _ h => h)
    · rw [if_neg hc] at hp
      rw [if_neg (by omega)] at h7
      exact ((h6 j p v hp h7).mv f _ (hf2 b j)).ext hE (fun _ _ h => h) (fun _ _ _ h => h) (fun _ _ h => h)
  · exact (hslots i p hp).ext hE (fun _ _ h => h) (fun _ _ _ h => h) (fun _ _ h => h)
theorem run_storeAt {P : Program} {ty : TypeId} {n : Nat} (hz : (P.info? ty).map (·.size) = some n) (w : World) (ad : Addr) (v : Value) (hv : v.cells.size = n) :
    (Instr.storeAt ty (.pointer (some ad)) v).run P w = (storeCells ad v.cells.toList).run P w := by
  cases hq : P.info? ty with
  | none => simp [hq] at hz
  | some i =>
    have hs : i.size = n := by simpa [hq] using hz
    simp [Instr.storeAt, Instr.sureAddr, storeVar, sizeOf, typeInfo, hq, hs, hv]
theorem reo_id (O : Owns) : reo O (fun l => l) = O := by
  funext b; unfold reo; cases O b <;> rfl
/-- A store of what owns nothing. -/
theorem D_store {K : Ctx} {s : GS} {x y : Operand} {ty rt : TypeId} {pos : String} {af : Array Edge} {g : Option (Nat × Bool)} {b off n : Nat} {cs ps : List PV} {p : PV}
    (hx : s.ev x = .ref b off) (hm : s.mem[b]? = some cs) (hy : s.ev y = p) (hno : p.noown = true) (hw : p.whole = true) (hps : p.cellsOf = ps)
    (hz : (K.P.info? ty).map (·.size) = some n) (hn : ps.length = n) (hfit : off + n ≤ cs.length) (hpl : plainB cs = true) :
    Does K ⟨none, .store ty x y, rt, pos, af, g⟩ s ⟨s.slots, s.mem.set b (splice cs off ps)⟩ := by
  subst hps
  rintro a w ⟨S, O, m, h⟩
  obtain ⟨lx, hrx⟩ := h.ev x
  rw [hx] at hrx
  obtain ⟨ly, hry⟩ := h.ev y
  rw [hy] at hry
  generalize hvx : a.eval x = vx at hrx
  generalize hvy : a.eval y = vy at hry
  cases hrx with
  | ref _ _ _ r hr =>
    obtain ⟨g1, g2, g3⟩ := hry.cellsOf hw
    obtain ⟨w', hst, hrep⟩ := h.store (off := off) hm hpl p.cellsOf vy.cells.toList (by simpa using g1) (by omega) (fun j v hv => g2 j v (by simpa using hv)) (fun l => l) (fun _ => rfl) (fun _ _ _ => rfl) s.slots
      (fun i q hq => by rw [reo_id]; exact h.slots i q hq) (fun j q v hq hv => by
        have hqn := PV.noowns_get (PV.noown_cellsOf hno) hq
        rcases g3 j q v hq (by simpa using hv) with h4 | h4
        · exact h4.any hqn _ _
        · exact h4.any hqn _ _) r hr
    refine ⟨w', ?_, S, _, m, hrep⟩
    simp only [execOp, hvx, hvy]
    simp [run_storeAt hz w _ vy (by omega), hst]
/-- A leaf: a value that at most owns by itself. -/
def PV.leafy : PV → Bool
  | .osl _ _ => true
  | p => p.noown && p.whole && (match p with | .d (.agg _) => false | .agg _ => false | _ => true)
theorem RP.move {w : World} {S : Reg} {O : Owns} {m l l' : List Nat} {p : PV} {v : Value} (h : RP w S O m l p v) (hl : p.leafy = true) (f : List Nat → List Nat) (hf : f l = l') :
    RP w S (reo O f) m l' p v := by
  by_cases hn : p.noown = true
  · exact h.any hn _ _
  · cases h with
    | osl _ k xs a cap hr hk hc ht =>
      refine .osl _ k xs a cap hr hk hc (fun ad ha => ?_)
      obtain ⟨h1, h2, h3⟩ := ht ad ha
      exact ⟨h1, by rw [reo_of h2, hf], h3⟩
    | _ => simp [PV.leafy, hn] at hl
def PV.flat : PV → Bool
  | .agg ps => ps.all PV.leafy
  | p => p.leafy
/-- From the temporary u, whole or in parts, to the block b from off on. -/
def renSt (u off b : Nat) (l : List Nat) : List Nat :=
  if l = [u, 0] then [off, b, 1] else match l with
  | i :: l' => if l' = [u, 0] then [off + i, b, 1] else i :: l'
  | [] => []
theorem end_ne (q : List Nat) (j i u : Nat) : q ++ [j, i, 1] ≠ [u, 0] := fun h => by
  have := congrArg List.getLast? h; simp at this
theorem end_ne' (q : List Nat) (k u : Nat) (hk : k ≠ u) : q ++ [k, 0] ≠ [u, 0] := fun h => by
  have h2 := congrArg (fun l => l.reverse[1]?) h; simp at h2; exact hk h2
theorem renSt_blk (u off b i : Nat) : renSt u off b [i, 1] = [i, 1] := by simp [renSt]
theorem renSt_cell (u off b i j : Nat) (q : List Nat) : renSt u off b (q ++ [j, i, 1]) = q ++ [j, i, 1] := by
  unfold renSt
  rw [if_neg (end_ne q j i u)]
  cases q with
  | nil => simp
  | cons x q => simp only [List.cons_append]; rw [if_neg (end_ne q j i u)]
theorem renSt_slot (u off b k : Nat) (q : List Nat) (hk : k ≠ u) : renSt u off b (q ++ [k, 0]) = q ++ [k, 0] := by
  unfold renSt
  rw [if_neg (end_ne' q k u hk)]
  cases q with
  | nil => simp
  | cons x q => simp only [List.cons_append]; rw [if_neg (end_ne' q k u hk)]
/-- A store of what a temporary holds, its rights with it. -/
theorem D_store_take {K : Ctx} {s : GS} {x : Operand} {u : Nat} {ty rt : TypeId} {pos : String} {af : Array Edge} {g : Option (Nat × Bool)} {b off n : Nat} {cs ps : List PV} {p : PV}
    (hx : s.ev x = .ref b off) (hm : s.mem[b]? = some cs) (hy : s.get u = some p) (hfl : p.flat = true) (hps : p.cellsOf = ps)
    (hz : (K.P.info? ty).map (·.size) = some n) (hn : ps.length = n) (hfit : off + n ≤ cs.length) (hpl : plainB cs = true) :
    Does K ⟨none, .store ty x (.tmp u), rt, pos, af, g⟩ s ⟨(u, p.copy) :: s.slots, s.mem.set b (splice cs off ps)⟩ := by
  subst hps
  rintro a w ⟨S, O, m, h⟩
  obtain ⟨lx, hrx⟩ := h.ev x
  rw [hx] at hrx
  have hry : RP w S O m [u, 0] p (a.eval (.tmp u)) := h.slots u p hy
  generalize hvx : a.eval x = vx at hrx
  generalize hvy : a.eval (.tmp u) = vy at hry
  have hw : p.whole = true := by
    cases p with
    | osl k xs => rfl
    | agg ps => rfl
    | d x => rfl
    | nils => rfl
    | ref b o => rfl
    | rsl b o n k => rfl
    | mref b => rfl
    | mapc kvs => simp [PV.flat, PV.leafy, PV.whole] at hfl
    | fn f a c => rfl
    | tup cs => simp [PV.flat, PV.leafy, PV.whole] at hfl
    | when b p => simp [PV.flat, PV.leafy, PV.whole] at hfl
    | undef => simp [PV.flat, PV.leafy, PV.whole] at hfl
  cases hrx with
  | ref _ _ _ r hr =>
    obtain ⟨g1, g2, g3⟩ := hry.cellsOf hw
    obtain ⟨w', hst, hrep⟩ := h.store (off := off) hm hpl p.cellsOf vy.cells.toList (by simpa using g1) (by omega) (fun j v hv => g2 j v (by simpa using hv)) (renSt u off b) (renSt_blk u off b) (fun i j q => renSt_cell u off b i j q) ((u, p.copy) :: s.slots)
      (fun i q hq => by
        have hq' : (s.set u p.copy).get i = some q := hq
        rw [GS.get_set] at hq'
        by_cases hi : i = u
        · rw [if_pos hi] at hq'; injection hq' with hq'; subst hq'; subst hi
          exact (h.slots i p hy).copy _ _
        · rw [if_neg hi] at hq'
          exact (h.slots i q hq').mv _ _ (fun q => renSt_slot u off b i q hi))
      (fun j q v hq hv => by
        have hv' : vy.cells[j]? = some v := by simpa using hv
        by_cases hagg : ∃ ps, p = .agg ps
        · obtain ⟨ps, rfl⟩ := hagg
          cases hry with
          | agg _ _ vs hl ho hh =>
            simp only [PV.cellsOf] at hq
            have hle : q.leafy = true := by
              simp only [PV.flat, List.all_eq_true] at hfl; exact hfl q (List.mem_of_getElem? hq)
            exact (hh j q v hq (by simpa [Value.cells] using hv')).move hle _ (by simp [renSt])
        · have hle : p.leafy = true := by
            cases p <;> first | exact hfl | exact absurd ⟨_, rfl⟩ hagg
          have hce : p.cellsOf = [p] := by
            cases p with
            | d x => cases x <;> first | rfl | simp [PV.leafy] at hle
            | agg ps => exact absurd ⟨_, rfl⟩ hagg
            | _ => rfl
          have hone : vy.cells.size = 1 := by rw [g1, hce]; rfl
          rw [hce] at hq
          obtain ⟨rfl, rfl⟩ : j = 0 ∧ q = p := by cases j with | zero => exact ⟨rfl, by simpa using hq.symm⟩ | succ j => simp at hq
          have hvv : v = vy := by
            have h1 : vy.cells = #[v] := by
              apply Array.ext (by simpa using hone)
              intro i hi1 hi2
              have : i = 0 := by simp at hi2; exact hi2
              subst this
              have := Array.getElem?_eq_getElem hi1
              rw [hv'] at this; injection this with this; simpa using this.symm
            have hnot : vy.oneCell' = true := by
              cases hry with
              | d _ x _ hd => exact hd.oneCell (by intro cs hcs; subst hcs; simp [PV.leafy] at hle)
              | nils => rfl
              | osl => rfl
              | ref => rfl
              | rsl => rfl
              | mref => rfl
              | fn => rfl
              | agg => exact absurd ⟨_, rfl⟩ hagg
              | _ => simp [PV.leafy, PV.whole] at hle
            rw [Value.cells_of_one hnot] at h1
            simpa using h1.symm
          subst hvv
          exact hry.move hle _ (by simp [renSt])) r hr
    refine ⟨w', ?_, S, _, m, hrep⟩
    simp only [execOp, hvx, hvy]
    simp [run_storeAt hz w _ vy (by omega), hst]
/-- From the temporary u to the temporary t. -/
def renTT (u t : Nat) (l : List Nat) : List Nat := if l = [u, 0] then [t, 0] else l
theorem renTT_cell (u t i j : Nat) (q : List Nat) : renTT u t (q ++ [j, i, 1]) = q ++ [j, i, 1] := if_neg (end_ne q j i u)
/-- An assignment that hands the right on. -/
theorem Y_assign_take {K : Ctx} {s : GS} {t u : Nat} {ty : TypeId} {pos : String} {af : Array Edge} {g : Option (Nat × Bool)} {k : Nat} {xs : List D}
    (hu : s.get u = some (.osl k xs)) (htu : t ≠ u) (ht : t < K.n) :
    Yld K ⟨some t, .assign (.tmp u), ty, pos, af, g⟩ s ((s.set u (.d (.sl xs))).set t (.osl k xs)) := by
  rintro a w ⟨S, O, m, h⟩
  have hru := h.slots u _ hu
  refine ⟨a.tmps.getD u undef, w, rfl, S, reo O (renTT u t), m, h.env.relab (renTT u t) (fun _ => if_neg (by simp)) (fun i j q => renTT_cell u t i j q), h.defers, by simp [Act.put, h.size], h.pre, fun i p hp => ?_⟩
  rw [getD_put _ _ _ _ (by rw [h.size]; exact ht)]
  rw [GS.get_set] at hp
  by_cases hi : i = t
  · rw [if_pos hi] at hp ⊢; injection hp with hp; subst hp; subst hi
    exact hru.move rfl _ (by simp [renTT])
  · rw [if_neg hi] at hp ⊢
    rw [GS.get_set] at hp
    by_cases hiu : i = u
    · rw [if_pos hiu] at hp; injection hp with hp; subst hp; subst hiu
      exact (hru.copy _ _ : RP w S _ m _ (PV.osl k xs).copy _)
    · rw [if_neg hiu] at hp
      exact (h.slots i p hp).mv _ _ (fun q => if_neg (end_ne' q i u hiu))
end Go.Proofs.YtklkbfpjimeaoaaGreat.E
