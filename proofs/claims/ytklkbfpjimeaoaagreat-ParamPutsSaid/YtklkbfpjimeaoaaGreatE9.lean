/- THE ENGINE, part 9: bodies with any results, and calls that are handed blocks of the caller's. Conditions: none; generic in the program. -/
import Derived.Test.YtklkbfpjimeaoaaGreatE8
namespace Go.Proofs.YtklkbfpjimeaoaaGreat.E
open Go
/-- A result, a copy. -/
inductive ResV (P : Program) (s : GS) : ResultVar → PV → Prop
  | tmp {t : Nat} {p : PV} : s.get t = some p → ResV P s (.tmp t) p.copy
  | dat {t : Nat} {p : PV} {d : D} : s.get t = some p → p.toD = some d → ResV P s (.tmp t) (.d d)
  | leaf {t b off : Nat} {ty : TypeId} {cs : List PV} {p : PV} {d : TypeDesc} : s.get t = some (.ref b off) → s.mem[b]? = some cs → cs[off]? = some p → plainB cs = true → P.underlying ty = some d → leafT d = true → ResV P s (.cell t ty) p.copy
  | agg {t b off n : Nat} {ty : TypeId} {cs : List PV} {d : TypeDesc} : s.get t = some (.ref b off) → s.mem[b]? = some cs → (P.info? ty).map (·.size) = some n → P.underlying ty = some d → leafT d = false →
      off + n ≤ cs.length → plainB cs = true → ResV P s (.cell t ty) (mkAgg ((cs.drop off).take n))
theorem ResV.run {K : Ctx} {S : Reg} {O : Owns} {m : List Nat} {s : GS} {a : Act} {w : World} (h : Rep K S O m s a w) {rv : ResultVar} {p : PV} (hr : ResV K.P s rv p) (O' : Owns) (l : List Nat) :
    ∃ v, (match rv with | .tmp t => (pure (a.tmps.getD t undef) : Sem Value) | .cell t ty => do loadVar ty (← asAddr (a.tmps.getD t undef))).run K.P w = .ok v w ∧ RP w S O' m l p v := by
  cases hr with
  | tmp hs => exact ⟨_, rfl, (h.slots _ _ hs).copy _ _⟩
  | dat hs hd => exact ⟨_, rfl, .d _ _ _ ((h.slots _ _ hs).toD _ hd)⟩
  | @leaf t b off ty cs p d hs hm hc hpl hu hl =>
    have hrp := h.slots _ _ hs
    generalize hv : a.tmps.getD t undef = v at hrp
    cases hrp with
    | ref _ _ _ r hr =>
      obtain ⟨r', vs, el, h1, h2, h3, h4, h5, h6⟩ := h.block hm hpl
      obtain rfl : r = r' := by rw [hr] at h1; exact Option.some.inj h1
      have hlt : off < vs.size := Nat.lt_of_lt_of_le (List.getElem?_eq_some_iff.1 hc).1 h4
      have hcell : w.cell? ⟨r, off, none⟩ = some vs[off] := by rw [cell_of_row w r off vs el _ h3]; exact Array.getElem?_eq_getElem hlt
      refine ⟨vs[off], ?_, (h6 off p _ hc (Array.getElem?_eq_getElem hlt)).copy _ _⟩
      have := run_loadAt_leaf hu hl hcell
      simp only [Instr.loadAt, Instr.sureAddr, pure_bind] at this
      simp only [hv, asAddr, pure_bind]
      exact this
  | @agg t b off n ty cs d hs hm hz hu hl hn hne =>
    have hrp := h.slots _ _ hs
    generalize hv : a.tmps.getD t undef = v at hrp
    cases hrp with
    | ref _ _ _ r hr =>
      obtain ⟨r', vs, el, h1, h2, h3, h4, h5, h6⟩ := h.block hm hne
      obtain rfl : r = r' := by rw [hr] at h1; exact Option.some.inj h1
      have hlen : ((vs.toList.drop off).take n).length = n := by simp; omega
      have hgv : ∀ (i : Nat) v, ((vs.toList.drop off).take n)[i]? = some v → vs[off + i]? = some v := fun i v hv => by
        simp only [List.getElem?_take, List.getElem?_drop] at hv
        split at hv
        · simpa using hv
        · cases hv
      refine ⟨.agg ((vs.toList.drop off).take n).toArray, ?_, RP_mkAgg (O := O) _ (fun i => [off + i, b, 1]) (by simp; omega) (fun i v hv => h5 (off + i) v (hgv i v (by simpa using hv))) (fun i p v hp hv => h6 (off + i) p v ?_ (hgv i v (by simpa using hv)))⟩
      · have := run_loadAt_agg (w := w) (ad := ⟨r, off, none⟩) (vs := (vs.toList.drop off).take n) hu hl (by rw [hlen]; exact hz) (fun j v hj => by
          rw [add_at, cell_of_row w r (off + j) vs el _ h3]; exact hgv j v hj)
        simp only [Instr.loadAt, Instr.sureAddr, pure_bind] at this
        simp only [hv, asAddr, pure_bind]
        exact this
      · simp only [List.getElem?_take, List.getElem?_drop] at hp
        split at hp
        · exact hp
        · cases hp
/-- The results of a function, whatever their number. -/
inductive ResL (P : Program) (s : GS) : List ResultVar → List PV → Prop
  | nil : ResL P s [] []
  | cons {rv : ResultVar} {p : PV} {rvs : List ResultVar} {ps : List PV} : ResV P s rv p → ResL P s rvs ps → ResL P s (rv :: rvs) (p :: ps)
def tupOf : List PV → PV
  | [p] => p
  | ps => .tup ps
theorem ResL.run {K : Ctx} {S : Reg} {O : Owns} {m : List Nat} {s : GS} {a : Act} {w : World} (h : Rep K S O m s a w) {fn : Func} {rvs : List ResultVar} (hfn : fn.results = rvs.toArray) {ps : List PV}
    (hr : ResL K.P s rvs ps) (O' : Owns) : ∃ v, (results fn a.tmps).run K.P w = .ok v w ∧ RP w S O' m [2] (tupOf ps) v := by
  have key : ∀ (F : ResultVar → Sem Value), (∀ rv, F rv = (match rv with | .tmp t => (pure (a.tmps.getD t undef) : Sem Value) | .cell t ty => do loadVar ty (← asAddr (a.tmps.getD t undef)))) →
      ∀ (rvs : List ResultVar) (ps : List PV), ResL K.P s rvs ps → ∃ vs : List Value, (rvs.mapM F).run K.P w = .ok vs w ∧ vs.length = ps.length ∧ ∀ (i : Nat) p v (l : List Nat), ps[i]? = some p → vs[i]? = some v → RP w S O' m l p v := by
    intro F hF rvs ps hL
    induction hL with
    | nil => exact ⟨[], by simp, rfl, fun i p v l h => by simp at h⟩
    | @cons rv p rvs ps h1 _ ih =>
      obtain ⟨vs, g1, g2, g3⟩ := ih
      obtain ⟨v, e1, _⟩ := h1.run h O' []
      refine ⟨v :: vs, ?_, by simp [g2], fun i q u l hq hu => ?_⟩
      · rw [List.mapM_cons, Sem.run_bind, hF rv, e1, Result.andThen_ok, Sem.run_bind, g1]; rfl
      · cases i with
        | zero =>
          simp at hq hu; subst hq; subst hu
          obtain ⟨v', e2, r2⟩ := h1.run h O' l
          rw [e1] at e2; injection e2 with e2; subst e2; exact r2
        | succ i => exact g3 i q u l (by simpa using hq) (by simpa using hu)
  obtain ⟨vs, g1, g2, g3⟩ := key (fun | .tmp t => pure (a.tmps.getD t undef) | .cell t ty => do loadVar ty (← asAddr (a.tmps.getD t undef))) (fun rv => by cases rv <;> rfl) rvs ps hr
  have hrun : (results fn a.tmps).run K.P w = .ok (if h : vs.toArray.size = 1 then vs.toArray[0] else .tuple vs.toArray) w := by
    unfold results
    rw [hfn, List.mapM_toArray, Sem.run_bind, Sem.run_map]
    refine (congrArg (fun r => Result.andThen (Result.andThen r _) _) g1).trans ?_
    rfl
  refine ⟨_, hrun, ?_⟩
  match ps, vs, g2, g3 with
  | [], [], _, _ => exact .tup _ [] #[] rfl (fun i p v h => by simp at h)
  | [p], [v], _, g3 => exact g3 0 p v [2] rfl rfl
  | p :: q :: ps, v :: u :: vs, g2, g3 =>
    have hne : ¬ ((v :: u :: vs).toArray.size = 1) := by simp
    rw [dif_neg hne]
    exact .tup _ _ _ (by simpa using g2) (fun i p' v' hp hv => g3 i p' v' _ hp (by simpa using hv))
theorem lookup_zip (l : List PV) (i : Nat) : ((List.range l.length).zip l).lookup i = l[i]? := by
  have hlk : ∀ (l : List PV) (k : Nat) (i : Nat), (((List.range' k l.length).zip l).lookup i) = if k ≤ i then l[i - k]? else none := by
    intro l
    induction l with
    | nil => intro k i; simp
    | cons x l ih =>
      intro k i
      rw [List.length_cons, List.range'_succ, List.zip_cons_cons, List.lookup_cons, ih]
      by_cases hik : i = k
      · subst hik; simp
      · have : (i == k) = false := by simpa using hik
        rw [this]
        by_cases h2 : k + 1 ≤ i
        · rw [if_pos h2, if_pos (by omega), show i - k = (i - (k + 1)) + 1 by omega, List.getElem?_cons_succ]
        · rw [if_neg h2, if_neg (by omega)]
  have := hlk l 0 i
  rw [← List.range_eq_range'] at this
  simpa using this
/-- How a body ends: the results, and what the blocks that were handed over hold; or one list with the right to it. -/
def Fin (P : Program) (rvs : List ResultVar) (n : Nat) (R : PV → List (List PV) → Prop) (e : Exit) (s : GS) : Prop :=
  (e = .normal ∨ e = .ret) ∧ ((∃ ps mem', ResL P s rvs ps ∧ n ≤ mem'.length ∧ MSub mem'.length s.mem mem' ∧ PV.refsB mem'.length (tupOf ps) = true ∧ R (tupOf ps) mem') ∨
    ∃ t k xs mem', rvs = [.tmp t] ∧ s.get t = some (.osl k xs) ∧ n ≤ mem'.length ∧ MSub mem'.length s.mem mem' ∧ R (.osl k xs) mem')
def renTR (t : Nat) (l : List Nat) : List Nat := if l = [t, 0] then [2] else l
/-- A function's contract, out of a walk through its body. -/
theorem gcall_body {P : Program} {f : FuncId} {fn : Func} {c : Code} {args : List PV} {mem : List (List PV)} {R : PV → List (List PV) → Prop} (n : Nat) (rvs : List ResultVar) (slots : List (Nat × PV)) (k : Nat)
    (hf : P.funcs[f]? = some fn) (hb : fn.body = some c) (hn : fn.ntmps = n) (hal : args.length ≤ n) (hres : fn.results = rvs.toArray) (hsl : (List.range args.length).zip args = slots) (hk : mem.length = k)
    (h : ∀ S0 O0 w0 m0, m0.length = k → G ⟨P, n, S0, O0, w0, m0, []⟩ c (Fin P rvs k R) ⟨slots, mem⟩) : GCall P f args mem R := by
  subst hsl
  subst hk
  intro w S O m vals henv hvs hargs
  refine calls_of_wp hf hb ?_
  have hrep : At ⟨P, n, S, O, w, m, []⟩ ⟨(List.range args.length).zip args, mem⟩ { tmps := vals ++ Array.replicate (fn.ntmps - vals.size) undef, defers := [] } w := by
    refine ⟨S, O, m, henv, rfl, by simp [hn]; omega, List.prefix_rfl, fun i p hp => ?_⟩
    have hp' : args[i]? = some p := by rw [← lookup_zip]; exact hp
    have hlt : i < args.length := (List.getElem?_eq_some_iff.1 hp').1
    have hlt2 : i < vals.size := by omega
    rw [Array.getD_eq_getD_getElem?, Array.getElem?_append_left hlt2, Array.getElem?_eq_getElem hlt2]
    exact hargs i p _ hp' (Array.getElem?_eq_getElem hlt2)
  refine wp_mono (h S O w m henv.mlen _ _ hrep) ?_
  rintro e a' w' ⟨s', ⟨he, hfin⟩, S', O', m', hr'⟩
  have hex : ∃ v r mem' O'', (results fn a'.tmps).run P w' = .ok v w' ∧ R r mem' ∧ Env S O w S' O'' (m'.take mem'.length) mem' w' ∧ m <+: m'.take mem'.length ∧ RP w' S' O'' (m'.take mem'.length) [2] r v := by
    rcases hfin with ⟨ps, mem', hL, hlen, hms, hrf, hR⟩ | ⟨t, k, xs, mem', hrv, hst, hlen, hms, hR⟩
    · obtain ⟨v, hrun, hrp⟩ := hL.run hr' hres O'
      exact ⟨v, _, mem', O', hrun, hR, hr'.env.less hms, List.prefix_take_iff.2 ⟨hr'.pre, by rw [henv.mlen]; exact hlen⟩, hrp.take mem'.length hrf⟩
    · have hsl := hr'.slots t _ hst
      have hres' : fn.results = #[.tmp t] := by rw [hres, hrv]
      refine ⟨a'.tmps.getD t undef, _, mem', reo O' (renTR t), by simp [results, hres'], hR, (hr'.env.less hms).relab (renTR t) (fun _ => if_neg (by simp)) (fun i j q => if_neg (end_ne q j i t)),
        List.prefix_take_iff.2 ⟨hr'.pre, by rw [henv.mlen]; exact hlen⟩, (hsl.move (l' := [2]) rfl (renTR t) (by simp [renTR])).take _ rfl⟩
  obtain ⟨v, r, mem', O'', hrun, hR, henv', hpre, hrp'⟩ := hex
  rcases he with rfl | rfl
  · exact ⟨hr'.defers, v, hrun, v, r, mem', S', O'', _, rfl, hR, henv', hpre, hrp'⟩
  · exact ⟨hr'.defers, v, hrun, v, r, mem', S', O'', _, rfl, hR, henv', hpre, hrp'⟩
end Go.Proofs.YtklkbfpjimeaoaaGreat.E
