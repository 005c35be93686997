/- THE ENGINE, part 7: calls of functions that only make memory, and a function's body. Conditions: none; generic in the program. -/
import Derived.Test.YtklkbfpjimeaoaaGreatE6
namespace Go.Proofs.YtklkbfpjimeaoaaGreat.E
open Go
/-- The contract of a function: with arguments that stand for args, and blocks of the caller's that hold mem, it returns what R says. -/
def GCall (P : Program) (f : FuncId) (args : List PV) (mem : List (List PV)) (R : PV → List (List PV) → Prop) : Prop :=
  ∀ (w : World) (S : Reg) (O : Owns) (m : List Nat) (vals : Array Value), Env S O w S O m mem w → vals.size = args.length →
    (∀ (i : Nat) p v, args[i]? = some p → vals[i]? = some v → RP w S O m [i, 0] p v) →
    Calls P f vals w (fun e w' => ∃ v r mem' S' O' m', e = .returned v ∧ R r mem' ∧ Env S O w S' O' m' mem' w' ∧ m <+: m' ∧ RP w' S' O' m' [2] r v)
theorem GCall.mono {P : Program} {f : FuncId} {args : List PV} {mem : List (List PV)} {R R' : PV → List (List PV) → Prop} (h : GCall P f args mem R) (hr : ∀ r m, R r m → R' r m) : GCall P f args mem R' :=
  fun w S O m vals h1 h2 h3 => (h w S O m vals h1 h2 h3).mono fun _ _ ⟨v, r, mem', S', O', m', e, g, rest⟩ => ⟨v, r, mem', S', O', m', e, hr _ _ g, rest⟩
/-- A function of plain data: its result is r. -/
def Pure (P : Program) (f : FuncId) (args : List D) (r : PV) : Prop := GCall P f (args.map .d) [] (fun q m => q = r ∧ m = [])
def noOwns : Owns := fun _ => none
/-- A state that a pure call may begin in. -/
theorem Env.entry {S0 : Reg} {O0 : Owns} {w0 : World} {S : Reg} {O : Owns} {m : List Nat} {mem : List (List PV)} {w : World} (h : Env S0 O0 w0 S O m mem w) : Env S noOwns w S noOwns [] [] w where
  ext := Ext.refl S w
  old := fun _ _ _ => rfl
  part := fun _ _ _ _ _ h => by cases h
  s0 := fun _ _ h => h
  snew := fun _ _ h => .inl h
  sown := fun _ _ _ _ _ h => by cases h
  slt := h.slt
  olt := fun _ _ _ h => by cases h
  onew := fun _ _ _ h => by cases h
  mlen := rfl
  mem := fun _ _ _ h => by simp at h
/-- The result's place, as the caller names it. -/
def renRes (t : Nat) (l : List Nat) : List Nat := if l.getLast? = some 2 then l.dropLast ++ [t, 0] else l
theorem renRes_res (t : Nat) (q : List Nat) : renRes t (q ++ [2]) = q ++ [t, 0] := by simp [renRes]
/-- The state behind a pure call. -/
theorem Rep.after {K : Ctx} {S : Reg} {O : Owns} {m : List Nat} {s : GS} {a : Act} {w w' : World} (h : Rep K S O m s a w) {S' : Reg} {O' : Owns} {m' : List Nat} (he : Env S noOwns w S' O' m' [] w')
    {t : Nat} (ht : t < K.n) {r : PV} {v : Value} (hr : RP w' S' O' m' [2] r v) : At K (s.set t r) (a.put (some t) v) w' := by
  have hm0 : m' = [] := List.eq_nil_of_length_eq_zero (by have := he.mlen; simpa using this)
  subst hm0
  let O'' : Owns := fun b => if b < w.heap.size then O b else reo O' (renRes t) b
  have hO1 : ∀ b, b < w.heap.size → O'' b = O b := fun b hb => if_pos hb
  have hO2 : ∀ b, ¬ b < w.heap.size → O'' b = reo O' (renRes t) b := fun b hb => if_neg hb
  have hE := he.ext
  have hold : ∀ b, b < w.heap.size → w'.heap[b]? = w.heap[b]? := fun b hb => he.old b hb rfl
  have hk : ∀ (b : Nat) l t', O b = some (l, t') → O'' b = some (l, t') := fun b l t' hb => by rw [hO1 b (h.env.olt b l t' hb)]; exact hb
  refine ⟨S', O'', m, ⟨⟨h.env.ext.trans hE h.env.s0, fun b hb hO => ?_, fun b l t' o hb hO hot => ?_, fun b o hb => he.s0 b o (h.env.s0 b o hb), fun b o hb => ?_, fun b o l t' hS hO => ?_, he.slt, fun b l t' hO => ?_, fun b l t' hO => ?_, h.env.mlen, fun i cs r' hi hr' hne' => ?_⟩, h.defers, by simp [Act.put, h.size], h.pre, fun i p hp => ?_⟩⟩
  · rw [hold b (Nat.lt_of_lt_of_le hb h.env.ext.size)]; exact h.env.old b hb hO
  · have : w'.cell? ⟨b, o, none⟩ = w.cell? ⟨b, o, none⟩ := by simp only [World.cell?, hold b (Nat.lt_of_lt_of_le hb h.env.ext.size)]
    rw [this]; exact h.env.part b l t' o hb hO hot
  · rcases he.snew b o hb with h1 | h1 | ⟨_, _, h1, _⟩
    · exact h.env.snew b o h1
    · exact .inr (.inl (Nat.le_trans h.env.ext.size h1))
    · cases h1
  · by_cases hb : b < w.heap.size
    · rw [hO1 b hb] at hO
      rcases he.snew b o hS with h1 | h1 | ⟨_, _, h1, _⟩
      · exact h.env.sown b o l t' h1 hO
      · omega
      · cases h1
    · rw [hO2 b hb] at hO
      obtain ⟨l0, h1, _⟩ := reo_some hO
      exact he.sown b o l0 t' hS h1
  · by_cases hb : b < w.heap.size
    · exact Nat.lt_of_lt_of_le hb hE.size
    · rw [hO2 b hb] at hO; obtain ⟨l0, h1, _⟩ := reo_some hO; exact he.olt b l0 t' h1
  · by_cases hb : b < w.heap.size
    · rw [hO1 b hb] at hO; exact h.env.onew b l t' hO
    · exact .inl (Nat.le_trans h.env.ext.size (Nat.le_of_not_lt hb))
  · obtain ⟨g1, g2⟩ := h.env.mem i cs r' hi hr' hne'
    exact ⟨hk _ _ _ g1, g2.frame (hold _ (h.env.olt _ _ _ g1)) hE he.s0 (fun j b t' q hb => hk b _ t' hb) (fun _ _ h => h)⟩
  · rw [getD_put _ _ _ _ (by rw [h.size]; exact ht)]
    rw [GS.get_set] at hp
    by_cases hi : i = t
    · rw [if_pos hi] at hp ⊢; injection hp with hp; subst hp; subst hi
      refine hr.frame _ (Ext.refl _ _) (fun _ _ h => h) (fun b t' q hb => ?_) (fun b r hb => by simp at hb)
      have hnb : ¬ b < w.heap.size := by
        rcases he.onew b _ t' hb with h1 | ⟨_, _, h1, _⟩
        · omega
        · cases h1
      rw [hO2 b hnb, reo_of hb, renRes_res]
    · rw [if_neg hi] at hp ⊢
      exact (h.slots i p hp).ext hE he.s0 (fun b t' q hb => hk b _ t' hb) (fun _ _ h => h)
theorem run_callFunc {P : Program} {f : FuncId} {fn : Func} (hf : P.funcs[f]? = some fn) (hb : fn.body.isSome = true) (hn : (fn.name == "runtime.NumGoroutine") = false) (args : Array Value) (w : World) :
    (callFunc f args).run P w = .ok (.enter f args) w := by
  obtain ⟨c, hc⟩ := Option.isSome_iff_exists.1 hb
  have hn' : ¬ fn.name = "runtime.NumGoroutine" := by simpa using hn
  simp [callFunc, hf, hn', hc]
/-- What a call of a function value hands over, if it is plain data. -/
def PV.callee : PV → Option (FuncId × List D × List D)
  | .fn (.func f) a c => match PV.toDs a, PV.toDs c with
    | some a, some c => some (f, a, c)
    | _, _ => none
  | .d (.fn (.func f) a c) => some (f, a, c)
  | _ => none
theorem RP.callee {w : World} {S : Reg} {O : Owns} {m l : List Nat} {p : PV} {v : Value} (h : RP w S O m l p v) {f : FuncId} {a c : List D} (hp : p.callee = some (f, a, c)) :
    ∃ vf vc, v = .func (.func f) vf vc ∧ vf.size = a.length ∧ vc.size = c.length ∧ (∀ (i : Nat) d u, a[i]? = some d → vf[i]? = some u → Rd w S d u) ∧ ∀ (i : Nat) d u, c[i]? = some d → vc[i]? = some u → Rd w S d u := by
  unfold PV.callee at hp
  split at hp
  · split at hp
    · rename_i f' a0 c0 a' c' ha hc
      injection hp with hp; injection hp with h1 h2; injection h2 with h2 h3; subst h1; subst h2; subst h3
      obtain ⟨la, ga⟩ := PV.toDs_get _ _ ha
      obtain ⟨lc, gc⟩ := PV.toDs_get _ _ hc
      cases h with
      | fn _ _ _ _ vf vc h1 h2 g1 g2 =>
        exact ⟨vf, vc, rfl, by omega, by omega, fun i d u hi hu => by obtain ⟨p, hp, hpd⟩ := ga i d hi; exact (g1 i p u hp hu).toD d hpd,
          fun i d u hi hu => by obtain ⟨p, hp, hpd⟩ := gc i d hi; exact (g2 i p u hp hu).toD d hpd⟩
    · cases hp
  · injection hp with hp; injection hp with h1 h2; injection h2 with h2 h3; subst h1; subst h2; subst h3
    cases h with
    | d _ _ _ h => cases h with | fn _ _ _ vf vc h1 h2 g1 g2 => exact ⟨vf, vc, rfl, h1, h2, g1, g2⟩
  · cases hp
theorem evs_rd {K : Ctx} {S : Reg} {O : Owns} {m : List Nat} {s : GS} {a : Act} {w : World} (h : Rep K S O m s a w) (xs : List Operand) {ds : List D} (hd : PV.toDs (xs.map s.ev) = some ds) :
    ds.length = xs.length ∧ ∀ (i : Nat) d v, ds[i]? = some d → (xs.map a.eval)[i]? = some v → Rd w S d v := by
  obtain ⟨h1, h2⟩ := PV.toDs_get _ _ hd
  refine ⟨by simpa using h1, fun i d v hi hv => ?_⟩
  obtain ⟨p, hp, hpd⟩ := h2 i d hi
  rw [List.getElem?_map] at hp hv
  cases hx : xs[i]? with
  | none => simp [hx] at hp
  | some x =>
    simp only [hx, Option.map_some, Option.some.injEq] at hp hv
    subst hp; subst hv
    obtain ⟨l, hr⟩ := h.ev x
    exact hr.toD d hpd
/-- A call of a function on plain data. -/
theorem GOps_call {K : Ctx} {ops : Array Oper} {Q : Exit → GS → Prop} {s : GS} {i : Nat} {rest : List Nat} {o : Oper} {t : Nat} {fx : Operand} {xs : List Operand} {tys : Array TypeId} {f : FuncId} {fn : Func} {fa fc ds : List D}
    {R : PV → List (List PV) → Prop}
    (ho : ops[i]? = some o) (hop : o.op = .call ⟨.value fx, xs.toArray, tys⟩) (hd : o.dst = some t) (hg : o.guard = none)
    (hfx : (s.ev fx).callee = some (f, fa, fc)) (hxs : PV.toDs (xs.map s.ev) = some ds)
    (hf : K.P.funcs[f]? = some fn) (hb : fn.body.isSome = true) (hn : (fn.name == "runtime.NumGoroutine") = false) (ht : t < K.n)
    (hc : GCall K.P f ((fa ++ ds ++ fc).map .d) [] R) (h : ∀ r m, R r m → m = [] ∧ GOps K ops Q rest (s.set t r)) : GOps K ops Q (i :: rest) s := by
  rintro a w ⟨S, O, m, hr⟩
  obtain ⟨l, hrf⟩ := hr.ev fx
  obtain ⟨vf, vc, hvf, hs1, hs2, g1, g2⟩ := hrf.callee hfx
  obtain ⟨hlen, hrd⟩ := evs_rd hr xs hxs
  have hrun : (execOp a.eval o).run K.P w = .ok (.enter f (vf ++ (xs.map a.eval).toArray ++ vc)) w := by
    simp only [execOp, hop]
    simp [resolve, Deferred.ofValue, hvf, invoke, run_callFunc hf hb hn]
  simp only [wpOps, ho, Region.wanted, hg, if_true]
  refine .inl ?_
  simp only [Oper.wp, hrun, Oper.upon_enter]
  have hcall := hc w S noOwns [] (vf ++ (xs.map a.eval).toArray ++ vc) hr.env.entry (by simp [hs1, hs2, hlen]) (fun j p v hp hv => by
    rw [List.getElem?_map] at hp
    cases hj : (fa ++ ds ++ fc)[j]? with
    | none => rw [hj] at hp; cases hp
    | some d =>
      simp only [hj, Option.map_some, Option.some.injEq] at hp; subst hp
      refine .d _ _ _ ?_
      by_cases h1 : j < fa.length
      · rw [List.append_assoc, List.getElem?_append_left h1] at hj
        rw [Array.append_assoc, Array.getElem?_append_left (by omega)] at hv
        exact g1 j d v hj hv
      · by_cases h2 : j < fa.length + ds.length
        · rw [List.getElem?_append_left (by simp; omega), List.getElem?_append_right (by omega)] at hj
          rw [Array.getElem?_append_left (by simp; omega), Array.getElem?_append_right (by omega), hs1] at hv
          exact hrd _ d v hj (by simpa using hv)
        · rw [List.getElem?_append_right (by simp; omega)] at hj
          rw [Array.getElem?_append_right (by simp; omega)] at hv
          refine g2 _ d v hj ?_
          rw [← hv]; congr 1; simp; omega)
  refine Calls.mono hcall ?_
  rintro e w' ⟨v, r, mem', S', O', m', rfl, hR, henv, hm, hres⟩
  obtain ⟨rfl, hrest⟩ := h r mem' hR
  simp only
  rw [hd]
  exact hrest _ _ (hr.after henv ht hres)
end Go.Proofs.YtklkbfpjimeaoaaGreat.E
