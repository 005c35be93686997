import Derived.Test.YtklkbfpjimeaoaaGreatM2
/- Contracts of functions. Conditions: none. -/
set_option linter.unusedSimpArgs false
set_option linter.unusedVariables false
namespace Go.Proofs.YtklkbfpjimeaoaaGreat.E
open Go
inductive ResV (P : Program) (s : GS) : ResultVar → PV → Prop
  | tmp {t : Nat} {p : PV} : s.get t = some p → ResV P s (.tmp t) p.copy
  | dat {t : Nat} {p : PV} {d : D} : s.get t = some p → p.toD = some d → ResV P s (.tmp t) (.d d)
  | leaf {t b off : Nat} {ty : TypeId} {cs : List PV} {p : PV} {d : TypeDesc} : s.get t = some (.ref b off) → s.mem[b]? = some cs → cs[off]? = some p → plainB cs = true → P.underlying ty = some d → leafT d = true → ResV P s (.cell t ty) p.copy
  | agg {t b off n : Nat} {ty : TypeId} {cs : List PV} {d : TypeDesc} : s.get t = some (.ref b off) → s.mem[b]? = some cs → (P.info? ty).map (·.size) = some n → P.underlying ty = some d → leafT d = false →
      off + n ≤ cs.length → plainB cs = true → ResV P s (.cell t ty) (mkAgg ((cs.drop off).take n))
theorem ResV.run {K : Ctx} {S : Reg} {O : Owns} {m : List Nat} {s : GS} {a : Act} {w : World} (h : Rep K S O m s a w) {rv : ResultVar} {p : PV} (hr : ResV K.P s rv p) (O' : Owns) (l : List Nat) :
    ∃ v, (match rv with | .tmp t => (pure (a.tmps.getD t undef) : Sem Value) | .cell t ty => do loadVar ty (← asAddr (a.tmps.getD t undef))).run K.P w = .ok v w ∧ RP w S O' m l p v := by
  cases hr with
  | tmp hs => exact ⟨_, rfl, (h.slots _ _ hs).copy _ _⟩
  | dat hs hd => exact ⟨_, rfl, .d _ _ _ ((h.slots _ _ hs).toD _ hd)⟩
  | @leaf t b off ty cs p d hs hm hc hpl hu hl =>
    have hrp := h.slots _ _ hs
    generalize hv : a.tmps.getD t undef = v at hrp
    cases hrp with
    | ref _ _ _ r hr =>
      obtain ⟨r', vs, el, h1, h2, h3, h4, h5, h6⟩ := h.block hm hpl
      obtain rfl : r = r' := by rw [hr] at h1; exact Option.some.inj h1
      have hlt : off < vs.size := Nat.lt_of_lt_of_le (List.getElem?_eq_some_iff.1 hc).1 h4
      have hcell : w.cell? ⟨r, off, none⟩ = some vs[off] := by rw [cell_of_row w r off vs el _ h3]; exact Array.getElem?_eq_getElem hlt
      refine ⟨vs[off], ?_, (h6 off p _ hc (Array.getElem?_eq_getElem hlt)).copy _ _⟩
      have := run_loadAt_leaf hu hl hcell
      simp only [Instr.loadAt, Instr.sureAddr, pure_bind] at this
      simp only [hv, asAddr, pure_bind]
      exact this
  | @agg t b off n ty cs d hs hm hz hu hl hn hne =>
    have hrp := h.slots _ _ hs
    generalize hv : a.tmps.getD t undef = v at hrp
    cases hrp with
    | ref _ _ _ r hr =>
      obtain ⟨r', vs, el, h1, h2, h3, h4, h5, h6⟩ := h.block hm hne
      obtain rfl : r = r' := by rw [hr] at h1; exact Option.some.inj h1
      have hlen : ((vs.toList.drop off).take n).length = n := by simp; omega
      have hgv : ∀ (i : Nat) v, ((vs.toList.drop off).take n)[i]? = some v → vs[off + i]? = some v := fun i v hv => by
        simp only [List.getElem?_take, List.getElem?_drop] at hv
        split at hv
        · simpa using hv
        · cases hv
      refine ⟨.agg ((vs.toList.drop off).take n).toArray, ?_, RP_mkAgg (O := O) _ (fun i => [off + i, b, 1]) (by simp; omega) (fun i v hv => h5 (off + i) v (hgv i v (by simpa using hv))) (fun i p v hp hv => h6 (off + i) p v ?_ (hgv i v (by simpa using hv)))⟩
      · have := run_loadAt_agg (w := w) (ad := ⟨r, off, none⟩) (vs := (vs.toList.drop off).take n) hu hl (by rw [hlen]; exact hz) (fun j v hj => by
          rw [add_at, cell_of_row w r (off + j) vs el _ h3]; exact hgv j v hj)
        simp only [Instr.loadAt, Instr.sureAddr, pure_bind] at this
        simp only [hv, asAddr, pure_bind]
        exact this
      · simp only [List.getElem?_take, List.getElem?_drop] at hp
        split at hp
        · exact hp
        · cases hp
inductive ResL (P : Program) (s : GS) : List ResultVar → List PV → Prop
  | nil : ResL P s [] []
  | cons {rv : ResultVar} {p : PV} {rvs : List ResultVar} {ps : List PV} : ResV P s rv p → ResL P s rvs ps → ResL P s (rv :: rvs) (p :: ps)
def tupOf : List PV → PV
  | [p] => p
  | ps => .tup ps
theorem ResL.run {K : Ctx} {S : Reg} {O : Owns} {m : List Nat} {s : GS} {a : Act} {w : World} (h : Rep K S O m s a w) {fn : Func} {rvs : List ResultVar} (hfn : fn.results = rvs.toArray) {ps : List PV}
    (hr : ResL K.P s rvs ps) (O' : Owns) : ∃ v, (results fn a.tmps).run K.P w = .ok v w ∧ RP w S O' m [2] (tupOf ps) v := by
  have key : ∀ (F : ResultVar → Sem Value), (∀ rv, F rv = (match rv with | .tmp t => (pure (a.tmps.getD t undef) : Sem Value) | .cell t ty => do loadVar ty (← asAddr (a.tmps.getD t undef)))) →
      ∀ (rvs : List ResultVar) (ps : List PV), ResL K.P s rvs ps → ∃ vs : List Value, (rvs.mapM F).run K.P w = .ok vs w ∧ vs.length = ps.length ∧ ∀ (i : Nat) p v (l : List Nat), ps[i]? = some p → vs[i]? = some v → RP w S O' m l p v := by
    intro F hF rvs ps hL
    induction hL with
    | nil => exact ⟨[], by simp, rfl, fun i p v l h => by simp at h⟩
    | @cons rv p rvs ps h1 _ ih =>
      obtain ⟨vs, g1, g2, g3⟩ := ih
      obtain ⟨v, e1, _⟩ := h1.run h O' []
      refine ⟨v :: vs, ?_, by simp [g2], fun i q u l hq hu => ?_⟩
      · rw [List.mapM_cons, Sem.run_bind, hF rv, e1, Result.andThen_ok, Sem.run_bind, g1]; rfl
      · cases i with
        | zero =>
          simp at hq hu; subst hq; subst hu
          obtain ⟨v', e2, r2⟩ := h1.run h O' l
          rw [e1] at e2; injection e2 with e2; subst e2; exact r2
        | succ i => exact g3 i q u l (by simpa using hq) (by simpa using hu)
  obtain ⟨vs, g1, g2, g3⟩ := key (fun | .tmp t => pure (a.tmps.getD t undef) | .cell t ty => do loadVar ty (← asAddr (a.tmps.getD t undef))) (fun rv => by cases rv <;> rfl) rvs ps hr
  have hrun : (results fn a.tmps).run K.P w = .ok (if h : vs.toArray.size = 1 then vs.toArray[0] else .tuple vs.toArray) w := by
    unfold results
    rw [hfn, List.mapM_toArray, Sem.run_bind, Sem.run_map]
    refine (congrArg (fun r => Result.andThen (Result.andThen r _) _) g1).trans ?_
    rfl
  refine ⟨_, hrun, ?_⟩
  match ps, vs, g2, g3 with
  | [], [], _, _ => exact .tup _ [] #[] rfl (fun i p v h => by simp at h)
  | [p], [v], _, g3 => exact g3 0 p v [2] rfl rfl
  | p :: q :: ps, v :: u :: vs, g2, g3 =>
    have hne : ¬ ((v :: u :: vs).toArray.size = 1) := by simp
    rw [dif_neg hne]
    exact .tup _ _ _ (by simpa using g2) (fun i p' v' hp hv => g3 i p' v' _ hp (by simpa using hv))
theorem lookup_zip (l : List PV) (i : Nat) : ((List.range l.length).zip l).lookup i = l[i]? := by
  have hlk : ∀ (l : List PV) (k : Nat) (i : Nat), (((List.range' k l.length).zip l).lookup i) = if k ≤ i then l[i - k]? else none := by
    intro l
    induction l with
    | nil => intro k i; simp
    | cons x l ih =>
      intro k i
      rw [List.length_cons, List.range'_succ, List.zip_cons_cons, List.lookup_cons, ih]
      by_cases hik : i = k
      · subst hik; simp
      · have : (i == k) = false := by simpa using hik
        rw [this]
        by_cases h2 : k + 1 ≤ i
        · rw [if_pos h2, if_pos (by omega), show i - k = (i - (k + 1)) + 1 by omega, List.getElem?_cons_succ]
        · rw [if_neg h2, if_neg (by omega)]
  have := hlk l 0 i
  rw [← List.range_eq_range'] at this
  simpa using this
def Fin (P : Program) (rvs : List ResultVar) (n : Nat) (R : PV → List (List PV) → Prop) (e : Exit) (s : GS) : Prop :=
  (e = .normal ∨ e = .ret) ∧ ((∃ ps mem', ResL P s rvs ps ∧ n ≤ mem'.length ∧ MSub mem'.length s.mem mem' ∧ PV.refsB mem'.length (tupOf ps) = true ∧ R (tupOf ps) mem') ∨
    ∃ t k xs mem', rvs = [.tmp t] ∧ s.get t = some (.osl k xs) ∧ n ≤ mem'.length ∧ MSub mem'.length s.mem mem' ∧ R (.osl k xs) mem')
def renTR (t : Nat) (l : List Nat) : List Nat := if l = [t, 0] then [2] else l
theorem gcall_body {P : Program} {f : FuncId} {fn : Func} {c : Code} {args : List PV} {mem : List (List PV)} {R : PV → List (List PV) → Prop} (n : Nat) (rvs : List ResultVar) (slots : List (Nat × PV)) (k : Nat)
    (hf : P.funcs[f]? = some fn) (hb : fn.body = some c) (hn : fn.ntmps = n) (hal : args.length ≤ n) (hres : fn.results = rvs.toArray) (hsl : (List.range args.length).zip args = slots) (hk : mem.length = k)
    (h : ∀ S0 O0 w0 m0, m0.length = k → G ⟨P, n, S0, O0, w0, m0, []⟩ c (Fin P rvs k R) ⟨slots, mem⟩) : GCall P f args mem R := by
  subst hsl
  subst hk
  intro w S O m vals henv hvs hargs
  refine calls_of_wp hf hb ?_
  have hrep : At ⟨P, n, S, O, w, m, []⟩ ⟨(List.range args.length).zip args, mem⟩ { tmps := vals ++ Array.replicate (fn.ntmps - vals.size) undef, defers := [] } w := by
    refine ⟨S, O, m, henv, rfl, by simp [hn]; omega, List.prefix_rfl, fun i p hp => ?_⟩
    have hp' : args[i]? = some p := by rw [← lookup_zip]; exact hp
    have hlt : i < args.length := (List.getElem?_eq_some_iff.1 hp').1
    have hlt2 : i < vals.size := by omega
    rw [Array.getD_eq_getD_getElem?, Array.getElem?_append_left hlt2, Array.getElem?_eq_getElem hlt2]
    exact hargs i p _ hp' (Array.getElem?_eq_getElem hlt2)
  refine wp_mono (h S O w m henv.mlen _ _ hrep) ?_
  rintro e a' w' ⟨s', ⟨he, hfin⟩, S', O', m', hr'⟩
  have hex : ∃ v r mem' O'', (results fn a'.tmps).run P w' = .ok v w' ∧ R r mem' ∧ Env S O w S' O'' (m'.take mem'.length) mem' w' ∧ m <+: m'.take mem'.length ∧ RP w' S' O'' (m'.take mem'.length) [2] r v := by
    rcases hfin with ⟨ps, mem', hL, hlen, hms, hrf, hR⟩ | ⟨t, k, xs, mem', hrv, hst, hlen, hms, hR⟩
    · obtain ⟨v, hrun, hrp⟩ := hL.run hr' hres O'
      exact ⟨v, _, mem', O', hrun, hR, hr'.env.less hms, List.prefix_take_iff.2 ⟨hr'.pre, by rw [henv.mlen]; exact hlen⟩, hrp.take mem'.length hrf⟩
    · have hsl := hr'.slots t _ hst
      have hres' : fn.results = #[.tmp t] := by rw [hres, hrv]
      refine ⟨a'.tmps.getD t undef, _, mem', reo O' (renTR t), by simp [results, hres'], hR, (hr'.env.less hms).relab (renTR t) (fun _ => if_neg (by simp)) (fun i j q => if_neg (end_ne q j i t)),
        List.prefix_take_iff.2 ⟨hr'.pre, by rw [henv.mlen]; exact hlen⟩, (hsl.move (l' := [2]) rfl (renTR t) (by simp [renTR])).take _ rfl⟩
  obtain ⟨v, r, mem', O'', hrun, hR, henv', hpre, hrp'⟩ := hex
  rcases he with rfl | rfl
  · exact ⟨hr'.defers, v, hrun, v, r, mem', S', O'', _, rfl, hR, henv', hpre, hrp'⟩
  · exact ⟨hr'.defers, v, hrun, v, r, mem', S', O'', _, rfl, hR, henv', hpre, hrp'⟩
end Go.Proofs.YtklkbfpjimeaoaaGreat.E
namespace Go.Proofs.YtklkbfpjimeaoaaGreat.E
open Go
mutual
def PV.ren (f : Nat → Nat) : PV → PV
  | .ref b o => .ref (f b) o
  | .rsl b o n k => .rsl (f b) o n k
  | .mref b => .mref (f b)
  | .mapc kvs => .mapc kvs
  | .fn g a c => .fn g (PV.rens f a) (PV.rens f c)
  | .agg cs => .agg (PV.rens f cs)
  | .tup cs => .tup (PV.rens f cs)
  | .when b p => .when b (PV.ren f p)
  | .d x => .d x
  | .nils => .nils
  | .osl k xs => .osl k xs
  | .undef => .undef
def PV.rens (f : Nat → Nat) : List PV → List PV
  | [] => []
  | p :: ps => PV.ren f p :: PV.rens f ps
end
theorem PV.rens_map (f : Nat → Nat) (ps : List PV) : PV.rens f ps = ps.map (PV.ren f) := by
  induction ps with
  | nil => simp [PV.rens]
  | cons p ps ih => simp [PV.rens, ih]
theorem PV.rens_get (f : Nat → Nat) (ps : List PV) (i : Nat) : (PV.rens f ps)[i]? = (ps[i]?).map (PV.ren f) := by rw [PV.rens_map, List.getElem?_map]
theorem RP.ren {w : World} {S : Reg} {O : Owns} {m0 m l : List Nat} {p : PV} {v : Value} (f : Nat → Nat) (h : RP w S O m0 l p v) (hm : ∀ (b r : Nat), m0[b]? = some r → m[f b]? = some r) :
    RP w S O m l (p.ren f) v := by
  induction h with
  | d l x v h => simp only [PV.ren]; exact .d l x v h
  | nils l => simp only [PV.ren]; exact .nils l
  | osl l k xs a cap hr hk hn ht => simp only [PV.ren]; exact .osl l k xs a cap hr hk hn ht
  | ref l b off r h => simp only [PV.ren]; exact .ref l _ off r (hm b r h)
  | rsl l b off n k a cap hc hl h0 h => simp only [PV.ren]; exact .rsl l _ off n k a cap hc hl h0 (fun hn => by obtain ⟨r, h1, h2⟩ := h hn; exact ⟨r, hm b r h1, h2⟩)
  | mref l b r h => simp only [PV.ren]; exact .mref l _ r (hm b r h)
  | fn l g first caps vf vc h1 h2 _ _ g1 g2 =>
    simp only [PV.ren]
    refine .fn l g _ _ vf vc (by simp [PV.rens_map, h1]) (by simp [PV.rens_map, h2]) (fun i p v hi hv => ?_) (fun i p v hi hv => ?_)
    · rw [PV.rens_get] at hi
      cases hq : first[i]? with
      | none => simp [hq] at hi
      | some q => simp [hq] at hi; subst hi; exact g1 i q v hq hv
    · rw [PV.rens_get] at hi
      cases hq : caps[i]? with
      | none => simp [hq] at hi
      | some q => simp [hq] at hi; subst hi; exact g2 i q v hq hv
  | agg l cs vs hl ho _ ih =>
    simp only [PV.ren]
    refine .agg l _ vs (by simp [PV.rens_map, hl]) ho (fun i p v hi hv => ?_)
    rw [PV.rens_get] at hi
    cases hq : cs[i]? with
    | none => simp [hq] at hi
    | some q => simp [hq] at hi; subst hi; exact ih i q v hq hv
  | tup l cs vs hl _ ih =>
    simp only [PV.ren]
    refine .tup l _ vs (by simp [PV.rens_map, hl]) (fun i p v hi hv => ?_)
    rw [PV.rens_get] at hi
    cases hq : cs[i]? with
    | none => simp [hq] at hi
    | some q => simp [hq] at hi; subst hi; exact ih i q v hq hv
  | whenT l b p v hb _ ih => simp only [PV.ren]; exact .whenT l b _ v hb ih
  | whenF l b p hb => simp only [PV.ren]; exact .whenF l b _ hb
  | undef l v => simp only [PV.ren]; exact .undef l v
theorem RP.unren {w : World} {S : Reg} {O : Owns} {m0 m l : List Nat} {q : PV} {v : Value} (f : Nat → Nat) (n : Nat) (h : RP w S O m l q v) (hm : ∀ (b r : Nat), b < n → m[f b]? = some r → m0[b]? = some r) :
    ∀ p : PV, PV.refsB n p = true → PV.ren f p = q → RP w S O m0 l p v := by
  induction h with
  | d l x v h => intro p hb hp; cases p <;> simp only [PV.ren] at hp <;> cases hp; exact .d l x v h
  | nils l => intro p hb hp; cases p <;> simp only [PV.ren] at hp <;> cases hp; exact .nils l
  | osl l k xs a cap hr hk hn ht => intro p hb hp; cases p <;> simp only [PV.ren] at hp <;> cases hp; exact .osl l k xs a cap hr hk hn ht
  | ref l b off r h =>
    intro p hb hp
    cases p <;> simp only [PV.ren] at hp <;> cases hp
    simp only [PV.refsB, decide_eq_true_eq] at hb
    exact .ref l _ _ r (hm _ r hb h)
  | rsl l b off n' k a cap hc hl h0 h =>
    intro p hb hp
    cases p <;> simp only [PV.ren] at hp <;> cases hp
    simp only [PV.refsB, decide_eq_true_eq] at hb
    exact .rsl l _ _ _ _ a cap hc hl h0 (fun hn => by obtain ⟨r, h1, h2⟩ := h hn; exact ⟨r, hm _ r hb h1, h2⟩)
  | mref l b r h =>
    intro p hb hp
    cases p <;> simp only [PV.ren] at hp <;> cases hp
    simp only [PV.refsB, decide_eq_true_eq] at hb
    exact .mref l _ r (hm _ r hb h)
  | fn l g first caps vf vc h1 h2 _ _ g1 g2 =>
    intro p hb hp
    cases p <;> simp only [PV.ren] at hp <;> cases hp
    simp only [PV.refsB, Bool.and_eq_true] at hb
    refine .fn l _ _ _ vf vc (by simpa [PV.rens_map] using h1) (by simpa [PV.rens_map] using h2) (fun i p v hi hv => ?_) (fun i p v hi hv => ?_)
    · exact g1 i _ v (by rw [PV.rens_get, hi]; rfl) hv p (PV.refsBs_get hb.1 hi) rfl
    · exact g2 i _ v (by rw [PV.rens_get, hi]; rfl) hv p (PV.refsBs_get hb.2 hi) rfl
  | agg l cs vs hl ho _ ih =>
    intro p hb hp
    cases p <;> simp only [PV.ren] at hp <;> cases hp
    simp only [PV.refsB] at hb
    exact .agg l _ vs (by simpa [PV.rens_map] using hl) ho (fun i p v hi hv => ih i _ v (by rw [PV.rens_get, hi]; rfl) hv p (PV.refsBs_get hb hi) rfl)
  | tup l cs vs hl _ ih =>
    intro p hb hp
    cases p <;> simp only [PV.ren] at hp <;> cases hp
    simp only [PV.refsB] at hb
    exact .tup l _ vs (by simpa [PV.rens_map] using hl) (fun i p v hi hv => ih i _ v (by rw [PV.rens_get, hi]; rfl) hv p (PV.refsBs_get hb hi) rfl)
  | whenT l b p v hbt _ ih =>
    intro p' hb hp
    cases p' <;> simp only [PV.ren] at hp <;> cases hp
    simp only [PV.refsB] at hb
    exact .whenT l _ _ v hbt (ih _ hb rfl)
  | whenF l b p hbf =>
    intro p' hb hp
    cases p' <;> simp only [PV.ren] at hp <;> cases hp
    exact .whenF l _ _ hbf
  | undef l v => intro p hb hp; cases p <;> simp only [PV.ren] at hp <;> cases hp; exact .undef l v
theorem PV.rens_mapc {f : Nat → Nat} {cs : List PV} {kvs : List (D × D)} (h : PV.rens f cs = [.mapc kvs]) : cs = [.mapc kvs] := by
  match cs, h with
  | [p], h =>
    simp only [PV.rens, List.cons.injEq, and_true] at h
    cases p <;> simp only [PV.ren] at h <;> cases h
    rfl
  | _ :: _ :: _, h => simp [PV.rens] at h
theorem PV.rens_undef {f : Nat → Nat} {cs : List PV} (h : PV.rens f cs = [.undef]) : cs = [.undef] := by
  match cs, h with
  | [p], h =>
    simp only [PV.rens, List.cons.injEq, and_true] at h
    cases p <;> simp only [PV.ren] at h <;> cases h
    rfl
  | _ :: _ :: _, h => simp [PV.rens] at h
def setAll : List (List PV) → List Nat → List (List PV) → List (List PV)
  | mem, b :: bs, c :: cs => setAll (mem.set b c) bs cs
  | mem, _, _ => mem
theorem setAll_length : ∀ (sel : List Nat) (new mem : List (List PV)), (setAll mem sel new).length = mem.length
  | [], _, _ => by simp [setAll]
  | _ :: _, [], _ => by simp [setAll]
  | b :: bs, c :: cs, mem => by rw [setAll, setAll_length bs cs]; simp
theorem setAll_get : ∀ (sel : List Nat) (new mem : List (List PV)), sel.Nodup → new.length = sel.length → (∀ b ∈ sel, b < mem.length) → ∀ k : Nat,
    (setAll mem sel new)[k]? = if k ∈ sel then new[sel.idxOf k]? else mem[k]?
  | [], new, mem, _, _, _, k => by simp [setAll]
  | b :: bs, [], mem, _, hl, _, k => by simp at hl
  | b :: bs, c :: cs, mem, hn, hl, hb, k => by
    have hn' := List.nodup_cons.1 hn
    rw [setAll, setAll_get bs cs (mem.set b c) hn'.2 (by simpa using hl) (fun x hx => by simpa using hb x (by simp [hx]))]
    by_cases hk : k ∈ bs
    · have hkb : b ≠ k := fun h => hn'.1 (h ▸ hk)
      have hbk : (b == k) = false := by simpa using hkb
      rw [if_pos hk, if_pos (by simp [hk]), List.idxOf_cons, hbk]
      simp
    · rw [if_neg hk]
      by_cases hkb : k = b
      · subst hkb
        have := hb k (by simp)
        rw [if_pos (by simp), List.getElem?_set_self this]; simp
      · rw [if_neg (by simp [hk, hkb]), List.getElem?_set_ne (Ne.symm hkb)]
def fwd (sel : List Nat) (O : Owns) : Owns := fun r =>
  match O r with
  | none => none
  | some (l, t) => match l.reverse with
    | 1 :: x :: q => if x ∈ sel then some (q.reverse ++ [sel.idxOf x, 1], t) else none
    | _ => none
theorem fwd_some {sel : List Nat} {O : Owns} {r : Nat} {l : List Nat} {t : Nat} (h : fwd sel O r = some (l, t)) : ∃ q x, O r = some (q ++ [x, 1], t) ∧ x ∈ sel ∧ l = q ++ [sel.idxOf x, 1] := by
  unfold fwd at h
  split at h
  · cases h
  · rename_i l0 t0 ho
    split at h
    · rename_i x q hq
      split at h
      · rename_i hx
        injection h with h; injection h with h1 h2; subst h1; subst h2
        refine ⟨q.reverse, x, ?_, hx, rfl⟩
        rw [ho]
        have := congrArg List.reverse hq
        simp at this; rw [this]
      · cases h
    · cases h
theorem fwd_of {sel : List Nat} {O : Owns} {r x t : Nat} {q : List Nat} (h : O r = some (q ++ [x, 1], t)) (hx : x ∈ sel) : fwd sel O r = some (q ++ [sel.idxOf x, 1], t) := by
  unfold fwd
  rw [h]
  simp [hx]
theorem fwd_none {sel : List Nat} {O : Owns} {r t : Nat} {l : List Nat} (h : O r = some (l, t)) (hl : ∀ q x, x ∈ sel → l ≠ q ++ [x, 1]) : fwd sel O r = none := by
  cases hf : fwd sel O r with
  | none => rfl
  | some p =>
    obtain ⟨l', t'⟩ := p
    obtain ⟨q, x, h1, h2, _⟩ := fwd_some hf
    rw [h] at h1; injection h1 with h1; injection h1 with h1 _
    exact absurd h1 (hl q x h2)
def bwd (f : Nat → Nat) (t : Nat) (l : List Nat) : List Nat :=
  match l.reverse with
  | 1 :: x :: q => q.reverse ++ [f x, 1]
  | 2 :: q => q.reverse ++ [t, 0]
  | _ => l
theorem bwd_blk (f : Nat → Nat) (t i : Nat) (q : List Nat) : bwd f t (q ++ [i, 1]) = q ++ [f i, 1] := by simp [bwd]
theorem bwd_res (f : Nat → Nat) (t : Nat) (q : List Nat) : bwd f t (q ++ [2]) = q ++ [t, 0] := by simp [bwd]
def PV.callee' : PV → Option (FuncId × List PV × List PV)
  | .fn (.func f) a c => some (f, a, c)
  | .d (.fn (.func f) a c) => some (f, a.map .d, c.map .d)
  | _ => none
theorem RP.callee' {w : World} {S : Reg} {O : Owns} {m l : List Nat} {p : PV} {v : Value} (h : RP w S O m l p v) {f : FuncId} {a c : List PV} (hp : p.callee' = some (f, a, c)) :
    ∃ vf vc, v = .func (.func f) vf vc ∧ vf.size = a.length ∧ vc.size = c.length ∧ (∀ (i : Nat) q u, a[i]? = some q → vf[i]? = some u → ∃ l', RP w S O m l' q u) ∧
      ∀ (i : Nat) q u, c[i]? = some q → vc[i]? = some u → ∃ l', RP w S O m l' q u := by
  unfold PV.callee' at hp
  split at hp
  · injection hp with hp; injection hp with h1 h2; injection h2 with h2 h3; subst h1; subst h2; subst h3
    cases h with
    | fn _ _ _ _ vf vc h1 h2 g1 g2 => exact ⟨vf, vc, rfl, h1, h2, fun i q u hi hu => ⟨_, g1 i q u hi hu⟩, fun i q u hi hu => ⟨_, g2 i q u hi hu⟩⟩
  · injection hp with hp; injection hp with h1 h2; injection h2 with h2 h3; subst h1; subst h2; subst h3
    cases h with
    | d _ _ _ h =>
      cases h with
      | fn _ _ _ vf vc h1 h2 g1 g2 =>
        refine ⟨vf, vc, rfl, by simpa using h1, by simpa using h2, fun i q u hi hu => ?_, fun i q u hi hu => ?_⟩
        · rw [List.getElem?_map] at hi
          rename_i a0 c0
          cases hq : a0[i]? with
          | none => simp [hq] at hi
          | some d => simp [hq] at hi; subst hi; exact ⟨[], .d _ _ _ (g1 i d u hq hu)⟩
        · rw [List.getElem?_map] at hi
          rename_i a0 c0
          cases hq : c0[i]? with
          | none => simp [hq] at hi
          | some d => simp [hq] at hi; subst hi; exact ⟨[], .d _ _ _ (g2 i d u hq hu)⟩
  · cases hp
theorem Rep.afterm {K : Ctx} {S : Reg} {O : Owns} {m : List Nat} {s : GS} {a : Act} {w w' : World} (h : Rep K S O m s a w) {sel m0 : List Nat} (hnd : sel.Nodup) (hsel : ∀ b ∈ sel, b < s.mem.length)
    (hm0 : m0 = sel.map (fun b => m.getD b 0)) {S' : Reg} {O' : Owns} {mem' : List (List PV)} (he : Env S (fwd sel O) w S' O' m0 mem' w')
    {t : Nat} (ht : t < K.n) {r : PV} {v : Value} (hr : RP w' S' O' m0 [2] r v) :
    At K (GS.set ⟨s.slots, setAll s.mem sel (mem'.map (PV.rens (fun b => sel.getD b 0)))⟩ t (r.ren (fun b => sel.getD b 0))) (a.put (some t) v) w' := by
  have hml : mem'.length = sel.length := by rw [← he.mlen, hm0]; simp
  have hmget : ∀ (b x : Nat), sel[b]? = some x → m0[b]? = m[x]? := fun b x hb => by
    have hx : x < m.length := by rw [h.env.mlen]; exact hsel x (List.mem_of_getElem? hb)
    rw [hm0, List.getElem?_map, hb, Option.map_some, List.getD_eq_getElem?_getD, List.getElem?_eq_getElem hx]; rfl
  have hfm : ∀ (b r : Nat), m0[b]? = some r → m[sel.getD b 0]? = some r := fun b r hb => by
    have hlt : b < sel.length := by have := (List.getElem?_eq_some_iff.1 hb).1; rw [hm0] at this; simpa using this
    have hs : sel[b]? = some sel[b] := List.getElem?_eq_getElem hlt
    have : sel.getD b 0 = sel[b] := by rw [List.getD_eq_getElem?_getD, hs]; rfl
    rw [this, ← hmget b _ hs]; exact hb
  have hE := he.ext
  let pass : Nat → Prop := fun b => (fwd sel O b).isSome = true ∨ w.heap.size ≤ b
  have hdec : ∀ b, pass b ∨ ¬ pass b := fun b => Classical.em _
  let O'' : Owns := fun b => if (fwd sel O b).isSome = true ∨ w.heap.size ≤ b then reo O' (bwd (fun b => sel.getD b 0) t) b else O b
  have hOp : ∀ b, pass b → O'' b = reo O' (bwd (fun b => sel.getD b 0) t) b := fun b hb => if_pos hb
  have hOn : ∀ b, ¬ pass b → O'' b = O b := fun b hb => if_neg hb
  have hO'p : ∀ (b : Nat) l t', O' b = some (l, t') → pass b := fun b l t' hb => by
    rcases he.onew b l t' hb with h1 | ⟨l0, t0, h1, _⟩
    · exact .inr h1
    · exact .inl (by rw [h1]; rfl)
  have hold : ∀ b, ¬ pass b → w'.heap[b]? = w.heap[b]? := fun b hb => by
    refine he.old b (Nat.lt_of_not_le fun h => hb (.inr h)) ?_
    cases hf : fwd sel O b with
    | none => rfl
    | some x => exact absurd (.inl (by rw [hf]; rfl)) hb
  have hkeep : ∀ (b : Nat) l t' , O b = some (l, t') → (∀ q x, x ∈ sel → l ≠ q ++ [x, 1]) → O'' b = some (l, t') := fun b l t' hb hl => by
    rw [hOn b]
    · exact hb
    · rintro (h1 | h1)
      · rw [fwd_none hb hl] at h1; cases h1
      · exact absurd (h.env.olt b l t' hb) (Nat.not_lt_of_le h1)
  have hback : ∀ (l : List Nat) (q : PV) (u : Value) (l' : List Nat), (∀ q', bwd (fun b => sel.getD b 0) t (q' ++ l) = q' ++ l') → RP w' S' O' m0 l q u → RP w' S' O'' m l' (q.ren (fun b => sel.getD b 0)) u := fun l q u l' hb hq =>
    (hq.ren (fun b => sel.getD b 0) hfm).frame l' (Ext.refl _ _) (fun _ _ h => h) (fun b t' q' hO => by rw [hOp b (hO'p b _ t' hO), reo_of hO, hb]) (fun _ _ h => h)
  have hstay : ∀ (l : List Nat) (q : PV) (u : Value), (∀ q' q'' x, x ∈ sel → q' ++ l ≠ q'' ++ [x, 1]) → RP w S O m l q u → RP w' S' O'' m l q u := fun l q u hl hq =>
    hq.ext hE he.s0 (fun b t' q' hO => hkeep b _ t' hO (fun q'' x hx => hl q' q'' x hx)) (fun _ _ h => h)
  have henv : Env K.S0 K.O0 K.w0 S' O'' m (setAll s.mem sel (mem'.map (PV.rens (fun b => sel.getD b 0)))) w' := by
    refine ⟨h.env.ext.trans hE h.env.s0, fun b hb hO => ?_, fun b l t' o hb hO hot => ?_, fun b o hb => he.s0 b o (h.env.s0 b o hb), fun b o hb => ?_, fun b o l t' hS hO => ?_, he.slt, fun b l t' hO => ?_, fun b l t' hO => ?_, by rw [setAll_length]; exact h.env.mlen, fun i cs r' hi hr' hne' => ?_⟩
    · rw [hold b, h.env.old b hb hO]
      rintro (h1 | h1)
      · cases hf : fwd sel O b with
        | none => rw [hf] at h1; cases h1
        | some x =>
          obtain ⟨l', t'⟩ := x
          obtain ⟨q, x, h2, _, _⟩ := fwd_some hf
          rcases h.env.onew b _ _ h2 with h3 | ⟨l0, t0, h3, _⟩
          · omega
          · rw [hO] at h3; cases h3
      · have := h.env.ext.size; omega
    · have hcell : w'.cell? ⟨b, o, none⟩ = w.cell? ⟨b, o, none⟩ := by
        cases hf : fwd sel O b with
        | none => simp only [World.cell?, hold b (by
            rintro (h1 | h1)
            · rw [hf] at h1; cases h1
            · have := h.env.ext.size; omega)]
        | some x =>
          obtain ⟨l', t''⟩ := x
          obtain ⟨q, x, h2, _, _⟩ := fwd_some hf
          refine he.part b l' t'' o (Nat.lt_of_lt_of_le hb h.env.ext.size) hf ?_
          rcases h.env.onew b _ _ h2 with h3 | ⟨l0, t0, h3, h4⟩
          · omega
          · rw [hO] at h3; injection h3 with h3; injection h3 with _ h3; omega
      rw [hcell]; exact h.env.part b l t' o hb hO hot
    · rcases he.snew b o hb with h1 | h1 | ⟨l, t', h1, h2⟩
      · exact h.env.snew b o h1
      · exact .inr (.inl (Nat.le_trans h.env.ext.size h1))
      · obtain ⟨q, x, h3, _, _⟩ := fwd_some h1
        rcases h.env.onew b _ _ h3 with h4 | ⟨l0, t0, h4, h5⟩
        · exact .inr (.inl h4)
        · exact .inr (.inr ⟨l0, t0, h4, by omega⟩)
    · rcases hdec b with hp | hp
      · rw [hOp b hp] at hO; obtain ⟨l0, h1, _⟩ := reo_some hO; exact he.sown b o l0 t' hS h1
      · rw [hOn b hp] at hO
        rcases he.snew b o hS with h1 | h1 | ⟨l1, t1, h1, _⟩
        · exact h.env.sown b o l t' h1 hO
        · exact absurd (.inr h1) hp
        · exact absurd (.inl (by rw [h1]; rfl)) hp
    · rcases hdec b with hp | hp
      · rw [hOp b hp] at hO; obtain ⟨l0, h1, _⟩ := reo_some hO; exact he.olt b l0 t' h1
      · rw [hOn b hp] at hO; exact Nat.lt_of_lt_of_le (h.env.olt b l t' hO) hE.size
    · rcases hdec b with hp | hp
      · rw [hOp b hp] at hO
        obtain ⟨l0, h1, _⟩ := reo_some hO
        rcases he.onew b l0 t' h1 with h2 | ⟨l1, t1, h2, h3⟩
        · exact .inl (Nat.le_trans h.env.ext.size h2)
        · obtain ⟨q, x, h4, _, _⟩ := fwd_some h2
          rcases h.env.onew b _ _ h4 with h5 | ⟨l2, t2, h5, h6⟩
          · exact .inl h5
          · exact .inr ⟨l2, t2, h5, by omega⟩
      · rw [hOn b hp] at hO; exact h.env.onew b l t' hO
    · rw [setAll_get sel _ s.mem hnd (by simp [hml]) hsel] at hi
      by_cases his : i ∈ sel
      · rw [if_pos his, List.getElem?_map] at hi
        have hidx : sel[sel.idxOf i]? = some i := by
          rw [List.getElem?_eq_getElem (List.idxOf_lt_length_of_mem his)]; simp
        cases hc : mem'[sel.idxOf i]? with
        | none => simp [hc] at hi
        | some cs0 =>
          simp only [hc, Option.map_some, Option.some.injEq] at hi; subst hi
          have hmi : m0[sel.idxOf i]? = some r' := by rw [hmget _ i hidx]; exact hr'
          obtain ⟨g1, g2⟩ := he.mem _ cs0 r' hc hmi (by rintro rfl; exact hne' rfl)
          have hfi : sel.getD (sel.idxOf i) 0 = i := by rw [List.getD_eq_getElem?_getD, hidx]; rfl
          refine ⟨?_, g2.to rfl (Ext.refl _ _) (fun _ _ h => h) (by simp [PV.rens_map]) (fun j p hp => ?_) (fun kvs hc => .inl (by rw [hc]; rfl)) (fun hc => by rw [hc]; rfl)⟩
          · rw [hOp r' (hO'p r' _ _ g1), reo_of g1]
            have := bwd_blk (fun b => sel.getD b 0) t (sel.idxOf i) []
            simp only [List.nil_append, hfi] at this; rw [this]
          · rw [PV.rens_get] at hp
            cases hq : cs0[j]? with
            | none => simp [hq] at hp
            | some q =>
              simp only [hq, Option.map_some, Option.some.injEq] at hp; subst hp
              refine ⟨q, rfl, fun u hu => hback [j, sel.idxOf i, 1] q u [j, i, 1] (fun q' => ?_) hu⟩
              have := bwd_blk (fun b => sel.getD b 0) t (sel.idxOf i) (q' ++ [j])
              simp only [hfi, List.append_assoc, List.cons_append, List.nil_append] at this
              exact this
      · rw [if_neg his] at hi
        obtain ⟨g1, g2⟩ := h.env.mem i cs r' hi hr' hne'
        have hne : ∀ q x, x ∈ sel → [i, 1] ≠ q ++ [x, 1] := fun q x hx heq => by
          have := congrArg (fun l => l.reverse[1]?) heq; simp at this; exact his (this ▸ hx)
        have hnp : ¬ pass r' := by
          rintro (h1 | h1)
          · rw [fwd_none g1 hne] at h1; cases h1
          · exact absurd (h.env.olt _ _ _ g1) (Nat.not_lt_of_le h1)
        refine ⟨hkeep _ _ _ g1 hne, g2.frame (hold _ hnp) hE he.s0 (fun j b t' q' hO => hkeep b _ t' hO (fun q'' x hx heq => ?_)) (fun _ _ h => h)⟩
        have := congrArg (fun l => l.reverse[1]?) heq; simp at this; exact his (this ▸ hx)
  refine ⟨S', O'', m, henv, h.defers, by simp [Act.put, h.size], h.pre, fun i p hp => ?_⟩
  rw [getD_put _ _ _ _ (by rw [h.size]; exact ht)]
  rw [GS.get_set] at hp
  by_cases hi : i = t
  · rw [if_pos hi] at hp ⊢; injection hp with hp; subst hp; subst hi
    exact hback [2] r v [i, 0] (bwd_res _ i) hr
  · rw [if_neg hi] at hp ⊢
    refine hstay _ _ _ (fun q' q'' x hx heq => ?_) (h.slots i p hp)
    have := congrArg List.getLast? heq; simp at this
theorem GOps_callm {K : Ctx} {ops : Array Oper} {Q : Exit → GS → Prop} {s : GS} {i : Nat} {rest : List Nat} {o : Oper} {t : Nat} {fx : Operand} {xs : List Operand} {tys : Array TypeId} {f : FuncId} {fn : Func} {fa fc : List PV}
    {R : PV → List (List PV) → Prop} (sel : List Nat) (args0 : List PV) (mem0 : List (List PV))
    (ho : ops[i]? = some o) (hop : o.op = .call ⟨.value fx, xs.toArray, tys⟩) (hd : o.dst = some t) (hg : o.guard = none)
    (hfx : (s.ev fx).callee' = some (f, fa, fc)) (hargs : PV.copies (fa ++ xs.map s.ev ++ fc) = PV.rens (fun b => sel.getD b 0) args0)
    (hnd : sel.Nodup) (hsel : ∀ b ∈ sel, b < s.mem.length) (hmem : sel.map (fun b => s.mem.getD b []) = mem0.map (PV.rens (fun b => sel.getD b 0)))
    (hra : PV.refsBs sel.length args0 = true) (hrm : mem0.all (PV.refsBs sel.length) = true)
    (hf : K.P.funcs[f]? = some fn) (hb : fn.body.isSome = true) (hn : (fn.name == "runtime.NumGoroutine") = false) (ht : t < K.n)
    (hc : GCall K.P f args0 mem0 R)
    (h : ∀ r mem', R r mem' → mem'.length = sel.length ∧ GOps K ops Q rest (GS.set ⟨s.slots, setAll s.mem sel (mem'.map (PV.rens (fun b => sel.getD b 0)))⟩ t (r.ren (fun b => sel.getD b 0)))) :
    GOps K ops Q (i :: rest) s := by
  rintro a w ⟨S, O, m, hr⟩
  obtain ⟨l, hrf⟩ := hr.ev fx
  obtain ⟨vf, vc, hvf, hs1, hs2, g1, g2⟩ := hrf.callee' hfx
  have hrun : (execOp a.eval o).run K.P w = .ok (.enter f (vf ++ (xs.map a.eval).toArray ++ vc)) w := by
    simp only [execOp, hop]
    simp [resolve, Deferred.ofValue, hvf, invoke, run_callFunc hf hb hn]
  simp only [wpOps, ho, Region.wanted, hg, if_true]
  refine .inl ?_
  simp only [Oper.wp, hrun, Oper.upon_enter]
  have hmget : ∀ (b x : Nat), sel[b]? = some x → (sel.map (fun b => m.getD b 0))[b]? = m[x]? := fun b x hb => by
    have hx : x < m.length := by rw [hr.env.mlen]; exact hsel x (List.mem_of_getElem? hb)
    rw [List.getElem?_map, hb, Option.map_some, List.getD_eq_getElem?_getD, List.getElem?_eq_getElem hx]; rfl
  have hum : ∀ (b r : Nat), b < sel.length → m[sel.getD b 0]? = some r → (sel.map (fun b => m.getD b 0))[b]? = some r := fun b r hb hm => by
    have hs : sel[b]? = some sel[b] := List.getElem?_eq_getElem hb
    rw [hmget b _ hs]
    rw [List.getD_eq_getElem?_getD, hs] at hm; exact hm
  have hml0 : mem0.length = sel.length := by have := congrArg List.length hmem; simpa using this.symm
  have hentry : Env S (fwd sel O) w S (fwd sel O) (sel.map (fun b => m.getD b 0)) mem0 w := by
    have he := hr.env
    refine ⟨Ext.refl S w, fun _ _ _ => rfl, fun _ _ _ _ _ _ _ => rfl, fun _ _ h => h, fun _ _ h => .inl h, fun b o l t' hS hO => ?_, he.slt, fun b l t' hO => ?_, fun b l t' hO => .inr ⟨l, t', hO, Nat.le_refl _⟩, by simp [hml0], fun j cs r' hj hr' hne' => ?_⟩
    · obtain ⟨q, x, h1, _, _⟩ := fwd_some hO; exact he.sown b o _ t' hS h1
    · obtain ⟨q, x, h1, _, _⟩ := fwd_some hO; exact he.olt b _ t' h1
    · have hjl : j < sel.length := by rw [← hml0]; exact (List.getElem?_eq_some_iff.1 hj).1
      have hsj : sel[j]? = some sel[j] := List.getElem?_eq_getElem hjl
      have hmx : m[sel[j]]? = some r' := by rw [← hmget j _ hsj]; exact hr'
      have hcx : s.mem[sel[j]]? = some (PV.rens (fun b => sel.getD b 0) cs) := by
        have h1 := congrArg (fun l => l[j]?) hmem
        simp only [List.getElem?_map, hsj, hj, Option.map_some, Option.some.injEq] at h1
        have hlt := hsel _ (List.mem_of_getElem? hsj)
        rw [List.getElem?_eq_getElem hlt, ← h1, List.getD_eq_getElem?_getD, List.getElem?_eq_getElem hlt]; rfl
      obtain ⟨k1, k2⟩ := he.mem _ _ r' hcx hmx (by rw [PV.rens_map]; simpa using hne')
      have hidx : sel.idxOf sel[j] = j := hnd.idxOf_getElem j hjl
      refine ⟨?_, k2.to rfl (Ext.refl _ _) (fun _ _ h => h) (by simp [PV.rens_map]) (fun jj p hp => ?_) (fun kvs hc => .inl (PV.rens_mapc hc)) (fun hc => PV.rens_undef hc)⟩
      · have := fwd_of (sel := sel) (O := O) (r := r') (x := sel[j]) (t := 0) (q := []) (by simpa using k1) (List.mem_of_getElem? hsj)
        simpa [hidx] using this
      · refine ⟨PV.ren (fun b => sel.getD b 0) p, by rw [PV.rens_get, hp]; rfl, fun u h2 => ?_⟩
        have hb2 : PV.refsB sel.length p = true := PV.refsBs_get (List.all_eq_true.1 hrm cs (List.mem_of_getElem? hj)) hp
        have h3 := h2.unren (m0 := sel.map (fun b => m.getD b 0)) (fun b => sel.getD b 0) sel.length hum p hb2 rfl
        refine h3.frame _ (Ext.refl _ _) (fun _ _ h => h) (fun b t' q hO => ?_) (fun _ _ h => h)
        have := fwd_of (sel := sel) (O := O) (r := b) (x := sel[j]) (t := t') (q := q ++ [jj]) (by simpa using hO) (List.mem_of_getElem? hsj)
        simpa [hidx] using this
  have hlen : (fa ++ xs.map s.ev ++ fc).length = args0.length := by have := congrArg List.length hargs; simpa [PV.copies_map, PV.rens_map] using this
  have hcall := hc w S (fwd sel O) (sel.map (fun b => m.getD b 0)) (vf ++ (xs.map a.eval).toArray ++ vc) hentry (by simp at hlen; simp [hs1, hs2]; omega) (fun j p v hp hv => by
    have hb2 : PV.refsB sel.length p = true := PV.refsBs_get hra hp
    have h1 : (PV.copies (fa ++ xs.map s.ev ++ fc))[j]? = some (PV.ren (fun b => sel.getD b 0) p) := by rw [hargs, PV.rens_get, hp]; rfl
    obtain ⟨q, hq, hqe⟩ := PV.copies_getElem? _ _ _ h1
    have hex : ∃ l', RP w S O m l' q v := by
      by_cases h1 : j < fa.length
      · rw [List.append_assoc, List.getElem?_append_left h1] at hq
        rw [Array.append_assoc, Array.getElem?_append_left (by omega)] at hv
        exact g1 j q v hq hv
      · by_cases h2 : j < fa.length + xs.length
        · rw [List.getElem?_append_left (by simp; omega), List.getElem?_append_right (by omega), List.getElem?_map] at hq
          rw [Array.getElem?_append_left (by simp; omega), Array.getElem?_append_right (by omega), hs1] at hv
          cases hx : xs[j - fa.length]? with
          | none => simp [hx] at hq
          | some x => simp [hx] at hq hv; subst hq; subst hv; exact hr.ev x
        · rw [List.getElem?_append_right (by simp; omega)] at hq
          rw [Array.getElem?_append_right (by simp; omega)] at hv
          refine g2 _ q v hq ?_
          rw [← hv]; congr 1; simp; omega
    obtain ⟨l', hl'⟩ := hex
    have h4 : RP w S (fwd sel O) m [j, 0] q.copy v := hl'.copy _ _
    rw [← hqe] at h4
    exact h4.unren (fun b => sel.getD b 0) sel.length hum p hb2 rfl)
  refine Calls.mono hcall ?_
  rintro e w' ⟨v, r, mem', S', O', m', rfl, hR, henv, hm, hres⟩
  obtain ⟨hml, hrest⟩ := h r mem' hR
  have hmm : m' = sel.map (fun b => m.getD b 0) := by
    have h1 : m'.length = sel.length := by rw [henv.mlen]; exact hml
    exact (hm.eq_of_length (by simp [h1])).symm
  subst hmm
  simp only
  rw [hd]
  exact hrest _ _ (hr.afterm hnd hsel rfl henv ht hres)
end Go.Proofs.YtklkbfpjimeaoaaGreat.E
namespace Go.Proofs.YtklkbfpjimeaoaaGreat.E
open Go
theorem fold_splice : ∀ (l : List Value) (m off : Nat) (cells : Array Value), off + m + l.length ≤ cells.size →
    (l.zipIdx m).foldl (fun (cs : Array Value) (x : Value × Nat) => cs.setIfInBounds (off + x.2) x.1) cells = (splice cells.toList (off + m) l).toArray
  | [], m, off, cells, _ => by simp [splice]
  | v :: l, m, off, cells, h => by
    rw [List.zipIdx_cons, List.foldl_cons, fold_splice l (m + 1) off _ (by simp at h ⊢; omega)]
    congr 1
    apply List.ext_getElem?
    intro j
    simp only [List.length_cons] at h
    rw [splice_get _ _ _ (by simp; omega), splice_get _ _ _ (by simp; omega)]
    simp only [List.length_cons, Array.toList_setIfInBounds, List.getElem?_set]
    by_cases h1 : off + m = j
    · subst h1
      rw [if_neg (by omega)]
      have hlt : off + m < cells.toList.length := by simp; omega
      rw [if_pos hlt, if_pos (by omega)]; simp
    · by_cases h2 : off + m ≤ j ∧ j < off + m + (l.length + 1)
      · rw [if_pos h2, if_pos (by omega), show j - (off + m) = (j - (off + (m + 1))) + 1 by omega, List.getElem?_cons_succ]
      · rw [if_neg h2, if_neg (by omega), if_neg h1]
theorem fold_splice' (v : Value) (off : Nat) (cells : Array Value) (h : off + v.cells.size ≤ cells.size) :
    v.cells.zipIdx.foldl (fun (cs : Array Value) (x : Value × Nat) => cs.setIfInBounds (off + x.2) x.1) cells = (splice cells.toList off v.cells.toList).toArray := by
  have := fold_splice v.cells.toList 0 off cells (by simpa using h)
  simp only [Nat.add_zero] at this
  rw [← this, ← Array.foldl_toList, Array.toList_zipIdx]
theorem fill_cons (place : Nat → Option (Nat × Nat)) (cells : Array Value) (i off size : Nat) (v : Value) (rest : List (Nat × Value)) (hp : place i = some (off, size)) (hs : v.cells.size = size)
    (hf : off + size ≤ cells.size) : Instr.fill place cells ((i, v) :: rest) = Instr.fill place (splice cells.toList off v.cells.toList).toArray rest := by
  rw [Instr.fill]
  simp only [hp]
  have h1 : (v.cells.size ≠ size || decide (off + v.cells.size > cells.size)) = false := by simp [hs]; omega
  have h2 : (fun (cs : Array Value) (x : Value × Nat) => match x with | (c, j) => cs.setIfInBounds (off + j) c) = fun cs x => cs.setIfInBounds (off + x.2) x.1 := by funext cs x; cases x; rfl
  simp only [h1, Bool.false_eq_true, if_false]
  rw [← fold_splice' v off cells (by omega)]
def bfill (place : Nat → Option (Nat × Nat)) : List PV → List (Nat × PV) → Option (List PV)
  | cs, [] => some cs
  | cs, (i, p) :: rest => match place i with
    | some (off, size) => if p.whole = true ∧ p.cellsOf.length = size ∧ off + size ≤ cs.length then bfill place (splice cs off (PV.copies p.cellsOf)) rest else none
    | none => none
theorem bfill_run {w : World} {S : Reg} {m : List Nat} (place : Nat → Option (Nat × Nat)) : ∀ (parts : List (Nat × PV)) (vs : List (Nat × Value)) (cs cs' : List PV) (cells : Array Value),
    parts.map (·.1) = vs.map (·.1) → (∀ (j : Nat) i p v, parts[j]? = some (i, p) → vs[j]? = some (i, v) → ∃ O l, RP w S O m l p v) →
    cells.size = cs.length → (∀ (j : Nat) v, cells[j]? = some v → v.oneCell' = true) → (∀ (j : Nat) q v, cs[j]? = some q → cells[j]? = some v → RP w S noOwns m [] q v) → bfill place cs parts = some cs' →
    ∃ cells', Instr.fill place cells vs = some cells' ∧ cells'.size = cs'.length ∧ (∀ (j : Nat) v, cells'[j]? = some v → v.oneCell' = true) ∧ ∀ (j : Nat) q v, cs'[j]? = some q → cells'[j]? = some v → RP w S noOwns m [] q v
  | [], vs, cs, cs', cells, hm, _, hs, ho, hc, hb => by
    have : vs = [] := by cases vs <;> simp_all
    subst this
    simp only [bfill] at hb; injection hb with hb; subst hb
    exact ⟨cells, rfl, hs, ho, hc⟩
  | (i, p) :: rest, [], cs, cs', cells, hm, _, hs, ho, hc, hb => by simp at hm
  | (i, p) :: rest, (i', v) :: vs, cs, cs', cells, hm, hr, hs, ho, hc, hb => by
    simp only [List.map_cons, List.cons.injEq] at hm
    obtain ⟨rfl, hm⟩ := hm
    simp only [bfill] at hb
    split at hb
    · rename_i off size hpl
      split at hb
      · rename_i hcond
        obtain ⟨hw, hl, hfit⟩ := hcond
        obtain ⟨O, l, hrp⟩ := hr 0 i p v rfl rfl
        obtain ⟨g1, g2, g3⟩ := hrp.cellsOf hw
        have hfitv : off + v.cells.toList.length ≤ cells.toList.length := by simp; omega
        have hfitp : off + (PV.copies p.cellsOf).length ≤ cs.length := by simp [PV.copies_map]; omega
        rw [fill_cons place cells i off size v vs hpl (by omega) (by omega)]
        refine bfill_run place rest vs (splice cs off (PV.copies p.cellsOf)) cs' _ hm (fun j i p v hp hv => hr (j + 1) i p v hp hv) (by simp [splice_length _ _ _ hfitp, splice_length _ _ _ hfitv, hs]) (fun j u hu => ?_) (fun j q u hq hu => ?_) hb
        · rw [List.getElem?_toArray, splice_get _ _ _ hfitv] at hu
          split at hu
          · exact g2 _ u (by simpa using hu)
          · exact ho j u (by simpa using hu)
        · rw [List.getElem?_toArray, splice_get _ _ _ hfitv] at hu
          rw [splice_get _ _ _ hfitp] at hq
          have hle : (PV.copies p.cellsOf).length = v.cells.toList.length := by simp [PV.copies_map]; omega
          by_cases hc1 : off ≤ j ∧ j < off + v.cells.toList.length
          · rw [if_pos hc1] at hu
            rw [if_pos (by omega)] at hq
            obtain ⟨q', hq', rfl⟩ := PV.copies_getElem? _ _ _ hq
            rcases g3 _ q' u hq' (by simpa using hu) with h4 | h4
            · exact h4.copy _ _
            · exact h4.copy _ _
          · rw [if_neg hc1] at hu
            rw [if_neg (by omega)] at hq
            exact hc j q u hq (by simpa using hu)
      · cases hb
    · cases hb
theorem parts_get {K : Ctx} {S : Reg} {O : Owns} {m : List Nat} {s : GS} {a : Act} {w : World} (h : Rep K S O m s a w) (parts : List (Nat × Operand)) (j i : Nat) (p : PV) (v : Value)
    (hp : (parts.map fun x => (x.1, s.ev x.2))[j]? = some (i, p)) (hv : (parts.map fun x => (x.1, a.eval x.2))[j]? = some (i, v)) : ∃ O l, RP w S O m l p v := by
  rw [List.getElem?_map] at hp hv
  cases hx : parts[j]? with
  | none => simp [hx] at hp
  | some x =>
    simp [hx] at hp hv
    obtain ⟨l, hr⟩ := h.ev x.2
    rw [hp.2, hv.2] at hr
    exact ⟨O, l, hr⟩
theorem zeros_rp (w : World) (S : Reg) (m : List Nat) (z : Value) (j : Nat) (q : PV) (v : Value) (hq : (zeros z)[j]? = some q) (hv : z.cells[j]? = some v) : RP w S noOwns m [] q v := by
  simp only [zeros, List.getElem?_map] at hq
  rw [show z.cells.toList[j]? = some v by simpa using hv] at hq
  simp only [Option.map_some, Option.some.injEq] at hq
  subst hq; exact ofConst_rp _ _ _ _ _ v
def placesOf (P : Program) (fs : Array Field) : List (Nat × Nat) := fs.toList.map fun f => (f.offset, ((P.info? f.type).map (·.size)).getD 0)
theorem RP_aggc {w : World} {S : Reg} {O O' : Owns} {m : List Nat} (l' : List Nat) {ps : List PV} {vs : Array Value} (L : Nat → List Nat) (hl : vs.size = ps.length)
    (ho : ∀ (i : Nat) v, vs[i]? = some v → v.oneCell' = true) (h : ∀ (i : Nat) p v, ps[i]? = some p → vs[i]? = some v → RP w S O m (L i) p v) : RP w S O' m l' (.agg (PV.copies ps)) (.agg vs) := by
  refine .agg _ _ vs (by simp [PV.copies_map, hl]) ho (fun i p v hi hv => ?_)
  obtain ⟨p, hp, rfl⟩ := PV.copies_getElem? _ _ _ hi
  exact (h i p v hp hv).copy _ _
theorem Q_buildG {K : Ctx} {s : GS} {t : Nat} {ty rt : TypeId} {parts : Array (Nat × Operand)} {pos : String} {af : Array Edge} {g : Option (Nat × Bool)} {fs : Array Field} {z : Value} {zs cs' : List PV} {pl : List (Nat × Nat)} {ps : List (Nat × PV)} {r : PV}
    (hu : K.P.underlying ty = some (.struct fs)) (hz : (K.P.info? ty).map (·.zero) = some (some z)) (h1 : z.cells.all (·.oneCell') = true) (hall : fs.all (fun f => (K.P.info? f.type).isSome) = true)
    (hpl : placesOf K.P fs = pl) (hzs : zeros z = zs) (hps : (parts.toList.map fun x => (x.1, s.ev x.2)) = ps) (hb : bfill (pl[·]?) zs ps = some cs') (hr : mkAgg cs' = r ∨ PV.agg (PV.copies cs') = r) (ht : t < K.n) :
    Qy K ⟨some t, .build ty parts, rt, pos, af, g⟩ s t r := by
  subst hzs; subst hps
  refine fun S O m a w h => ?_
  obtain ⟨cells', g1, g2, g3, g4⟩ := bfill_run (w := w) (S := S) (m := m) (pl[·]?) _ (parts.toList.map fun x => (x.1, a.eval x.2)) _ cs' z.cells (by simp) (fun j i p v hp hv => parts_get h _ j i p v hp hv)
    (by simp [zeros]) (fun j v hv => by have := Array.all_eq_true_iff_forall_mem.1 h1; exact this v (Array.mem_of_getElem? hv)) (fun j q v hq hv => zeros_rp w S m z j q v hq hv) hb
  refine ⟨.agg cells', fun w _ => ?_, by rcases hr with rfl | rfl; exact RP_mkAgg _ (fun _ => []) g2 g3 g4; exact RP_aggc _ (fun _ => []) g2 g3 g4⟩
  have hm : (fs.mapM fun f => (do pure (f.offset, ← sizeOf f.type) : Sem (Nat × Nat))).run K.P w = .ok pl.toArray w := by
    have key : ∀ (l : List Field), (∀ f ∈ l, (K.P.info? f.type).isSome = true) → (l.mapM fun f => (do pure (f.offset, ← sizeOf f.type) : Sem (Nat × Nat))).run K.P w = .ok (l.map fun f => (f.offset, ((K.P.info? f.type).map (·.size)).getD 0)) w := by
      intro l
      induction l with
      | nil => intro _; simp
      | cons f l ih =>
        intro hl
        obtain ⟨i, hi⟩ := Option.isSome_iff_exists.1 (hl f (by simp))
        have hs : (sizeOf f.type).run K.P w = .ok i.size w := by simp [sizeOf, typeInfo, hi]
        rw [List.mapM_cons, Sem.run_bind, Sem.run_bind, hs]
        simp only [Result.andThen_ok, Sem.run_pure, Sem.run_bind, ih (fun f hf => hl f (by simp [hf]))]
        simp [hi]
    have h2 := key fs.toList (fun f hf => by have := Array.all_eq_true_iff_forall_mem.1 hall; exact this f (by simpa using hf))
    have h3 : (fs.mapM fun f => (do pure (f.offset, ← sizeOf f.type) : Sem (Nat × Nat))) = List.toArray <$> (fs.toList.mapM fun f => (do pure (f.offset, ← sizeOf f.type) : Sem (Nat × Nat))) := by
      have := List.mapM_toArray (m := Sem) (l := fs.toList) (f := fun f => (do pure (f.offset, ← sizeOf f.type) : Sem (Nat × Nat)))
      simpa using this
    rw [h3, Sem.run_map, h2, Result.andThen_ok]
    rw [← hpl]; rfl
  have hzv : (zeroValue ty).run K.P w = .ok z w := by
    cases hq : K.P.info? ty with
    | none => simp [hq] at hz
    | some i =>
      have hs : i.zero = some z := by simpa [hq] using hz
      simp [zeroValue, typeInfo, hq, hs]
  have hplace : (fun i : Nat => pl.toArray[i]?) = (pl[·]?) := by funext i; simp
  have hpm : (parts.map fun x => (x.1, a.eval x.2)).toList = parts.toList.map fun x => (x.1, a.eval x.2) := by simp
  have hrun : (Instr.build ty (parts.map fun x => (x.1, a.eval x.2))).run K.P w = .ok (.agg cells') w := by
    unfold Instr.build
    rw [Sem.run_bind, hzv]
    simp only [Result.andThen_ok, Sem.run_bind, run_underlying hu, hm, hplace, hpm, g1]
    rfl
  simp only [execOp]
  have : (parts.map fun x => match x with | (i, x) => (i, a.eval x)) = parts.map fun x => (x.1, a.eval x.2) := by congr 1
  simp [this, hrun]
theorem Q_build {K : Ctx} {s : GS} {t : Nat} {ty rt : TypeId} {parts : Array (Nat × Operand)} {pos : String} {af : Array Edge} {g : Option (Nat × Bool)} {fs : Array Field} {z : Value} {zs cs' : List PV} {pl : List (Nat × Nat)} {ps : List (Nat × PV)} {r : PV}
    (hu : K.P.underlying ty = some (.struct fs)) (hz : (K.P.info? ty).map (·.zero) = some (some z)) (h1 : z.cells.all (·.oneCell') = true) (hall : fs.all (fun f => (K.P.info? f.type).isSome) = true)
    (hpl : placesOf K.P fs = pl) (hzs : zeros z = zs) (hps : (parts.toList.map fun x => (x.1, s.ev x.2)) = ps) (hb : bfill (pl[·]?) zs ps = some cs') (hr : mkAgg cs' = r) (ht : t < K.n) :
    Qy K ⟨some t, .build ty parts, rt, pos, af, g⟩ s t r := Q_buildG hu hz h1 hall hpl hzs hps hb (.inl hr) ht
theorem fill_seq {k : Nat} : ∀ (vs : List Value) (i0 : Nat) (cells : Array Value), (∀ v ∈ vs, v.cells.size = k) → (i0 + vs.length) * k ≤ cells.size →
    Instr.fill (fun i => some (i * k, k)) cells ((List.range' i0 vs.length).zip vs) = some (splice cells.toList (i0 * k) (vs.flatMap fun v => v.cells.toList)).toArray
  | [], i0, cells, _, _ => by simp [Instr.fill, splice]
  | v :: vs, i0, cells, hk, hf => by
    have hv := hk v (by simp)
    simp only [List.length_cons] at hf
    have hmul : (i0 + (vs.length + 1)) * k = i0 * k + k + vs.length * k := by rw [Nat.add_mul, Nat.add_mul]; omega
    have hfl : ∀ l : List Value, (∀ v ∈ l, v.cells.size = k) → (l.flatMap fun v => v.cells.toList).length = l.length * k := by
      intro l
      induction l with
      | nil => intro _; simp
      | cons x l ih => intro h; simp only [List.flatMap_cons, List.length_append, List.length_cons, ih (fun v hv => h v (by simp [hv])), Nat.add_mul, Nat.one_mul, Array.length_toList, h x (by simp)]; omega
    have hlv := hfl vs (fun x hx => hk x (by simp [hx]))
    have h1 : i0 * k + v.cells.toList.length ≤ cells.toList.length := by simp; omega
    rw [List.length_cons, List.range'_succ, List.zip_cons_cons, fill_cons (fun i => some (i * k, k)) cells i0 (i0 * k) k v _ rfl hv (by omega)]
    rw [fill_seq vs (i0 + 1) _ (fun x hx => hk x (by simp [hx])) (by simp [splice_length _ _ _ h1]; rw [show i0 + 1 + vs.length = i0 + (vs.length + 1) by omega]; exact hf)]
    congr 2
    apply List.ext_getElem?
    intro j
    have e1 : (i0 + 1) * k = i0 * k + k := by rw [Nat.add_mul, Nat.one_mul]
    have hL := splice_get (splice cells.toList (i0 * k) v.cells.toList) ((i0 + 1) * k) (vs.flatMap fun v => v.cells.toList) (by simp [splice_length _ _ _ h1, hlv, e1]; omega) j
    have hR := splice_get cells.toList (i0 * k) ((v :: vs).flatMap fun v => v.cells.toList) (by simp [hlv, hv]; omega) j
    rw [hR]
    refine hL.trans ?_
    rw [splice_get _ _ _ h1, e1, hlv]
    simp only [List.flatMap_cons, List.length_append, Array.length_toList, hv, hlv]
    by_cases c1 : i0 * k + k ≤ j ∧ j < i0 * k + k + vs.length * k
    · rw [if_pos c1, if_pos (by omega), List.getElem?_append_right (by simp; omega)]
      congr 1; simp [hv]; omega
    · rw [if_neg c1]
      by_cases c2 : i0 * k ≤ j ∧ j < i0 * k + k
      · rw [if_pos c2, if_pos (by omega), List.getElem?_append_left (by simp; omega)]
      · rw [if_neg c2, if_neg (by omega)]
theorem flat_get {k : Nat} : ∀ (vs : List Value) (i j : Nat) (v u : Value), (∀ v ∈ vs, v.cells.size = k) → vs[i]? = some v → j < k → (vs.flatMap fun v => v.cells.toList)[i * k + j]? = some u → v.cells[j]? = some u
  | [], i, j, v, u, _, hi, _, _ => by simp at hi
  | x :: vs, 0, j, v, u, hk, hi, hj, hu => by
    simp at hi; subst hi
    rw [List.flatMap_cons, Nat.zero_mul, Nat.zero_add, List.getElem?_append_left (by simp [hk x (by simp)]; exact hj)] at hu
    simpa using hu
  | x :: vs, i + 1, j, v, u, hk, hi, hj, hu => by
    have hx := hk x (by simp)
    rw [List.flatMap_cons, List.getElem?_append_right (by simp [hx, Nat.add_mul]; omega)] at hu
    refine flat_get vs i j v u (fun y hy => hk y (by simp [hy])) (by simpa using hi) hj ?_
    rw [← hu]; congr 1; simp [hx, Nat.add_mul]; omega
theorem flat_len {k : Nat} : ∀ (vs : List Value), (∀ v ∈ vs, v.cells.size = k) → (vs.flatMap fun v => v.cells.toList).length = vs.length * k
  | [], _ => by simp
  | x :: vs, h => by simp only [List.flatMap_cons, List.length_append, List.length_cons, flat_len vs (fun v hv => h v (by simp [hv])), Nat.add_mul, Nat.one_mul, Array.length_toList, h x (by simp)]; omega
theorem Rd.cells_size {w : World} {S : Reg} {d : D} {v : Value} (h : Rd w S d v) : v.cells.size = d.cells.length ∧ (∀ (j : Nat) u, v.cells[j]? = some u → u.oneCell' = true) ∧ ∀ (j : Nat) x u, d.cells[j]? = some x → v.cells[j]? = some u → Rd w S x u := by
  by_cases hd : ∃ cs, d = .agg cs
  · obtain ⟨cs, rfl⟩ := hd
    cases h with
    | agg _ vs hl ho h => exact ⟨hl, ho, h⟩
  · have hd' : ∀ cs, d ≠ .agg cs := fun cs hc => hd ⟨cs, hc⟩
    have h1 := h.oneCell hd'
    have h2 : d.cells = [d] := by cases d <;> first | rfl | exact absurd rfl (hd' _)
    rw [Value.cells_of_one h1, h2]
    refine ⟨rfl, fun j u hu => ?_, fun j x u hx hu => ?_⟩
    · cases j with
      | zero => simp at hu; exact hu ▸ h1
      | succ j => simp at hu
    · cases j with
      | zero => simp at hu hx; subst hu; subst hx; exact h
      | succ j => simp at hu
theorem Rep.newRow {K : Ctx} {S : Reg} {O : Owns} {m : List Nat} {s : GS} {a : Act} {w : World} (h : Rep K S O m s a w) {t : Nat} (ht : t < K.n) (vs : Array Value) (el : TypeId) (k cap : Nat) (ds : List D)
    (hcap : ds.length ≤ cap) (hsz : cap * k ≤ vs.size) (hlim : ds.length ≤ lim) (hk : ∀ d ∈ ds, d.cells.length = k)
    (hcells : ∀ (i : Nat) x (j : Nat) y, ds[i]? = some x → x.cells[j]? = some y → ∃ v, vs[i * k + j]? = some v ∧ v.oneCell' = true ∧ Rd w S y v) :
    At K (s.set t (.osl k ds)) (a.put (some t) (.slice (some ⟨w.heap.size, 0, none⟩) ds.length cap)) (w.alloc (.cells vs el)) := by
  have hE : Ext S w (w.alloc (.cells vs el)) := ext_alloc S w _ h.env.slt
  have he := h.env
  have hsz0 : K.w0.heap.size ≤ w.heap.size := he.ext.size
  have henv : Env K.S0 K.O0 K.w0 (fun b o => S b o ∨ (b = w.heap.size ∧ o < ds.length * k)) (fun b => if b = w.heap.size then some ([t, 0], ds.length * k) else O b) m s.mem (w.alloc (.cells vs el)) := by
    refine ⟨he.ext.trans hE he.s0, fun b hb hO => ?_, fun b l t' o hb hO hot => ?_, fun b o h => .inl (he.s0 b o h), fun b o hb => ?_, fun b o l t' hS hO => ?_, fun b o hS => ?_, fun b l t' hO => ?_, fun b l t' hO => ?_, he.mlen, fun i cs r hi hr hne' => ?_⟩
    · rw [heap_alloc_old' w _ b (show b < w.heap.size by omega)]; exact he.old b hb hO
    · rw [World.cell?_alloc_lt w _ ⟨b, o, none⟩ (show b < w.heap.size by omega)]; exact he.part b l t' o hb hO hot
    · rcases hb with hb | ⟨rfl, _⟩
      · exact he.snew b o hb
      · exact .inr (.inl hsz0)
    · rcases hS with hS | ⟨rfl, hlt⟩
      · rw [if_neg (Nat.ne_of_lt (he.slt b o hS))] at hO; exact he.sown b o l t' hS hO
      · simp at hO; omega
    · rcases hS with hS | ⟨rfl, hlt⟩
      · have := he.slt b o hS; simp; omega
      · simp
    · by_cases hb : b = w.heap.size
      · subst hb; simp
      · rw [if_neg hb] at hO; have := he.olt b l t' hO; simp; omega
    · by_cases hb : b = w.heap.size
      · exact .inl (by omega)
      · rw [if_neg hb] at hO; exact he.onew b l t' hO
    · obtain ⟨g1, g2⟩ := he.mem i cs r hi hr hne'
      have hrl := he.olt _ _ _ g1
      exact ⟨by rw [if_neg (Nat.ne_of_lt hrl)]; exact g1, g2.frame (heap_alloc_old' w _ r hrl) hE (fun _ _ h => .inl h) (fun j b t' q hb => by rw [if_neg (Nat.ne_of_lt (he.olt b _ t' hb))]; exact hb) (fun _ _ h => h)⟩
  have hcell : ∀ o, (w.alloc (.cells vs el)).cell? ⟨w.heap.size, o, none⟩ = vs[o]? := fun o => cell_of_row _ _ o vs el (0, 0) (heap_alloc_new' w _)
  have hlt : ∀ (i : Nat) x (j : Nat) y, ds[i]? = some x → x.cells[j]? = some y → i * k + j < ds.length * k := fun i x j y hi hj => by
    have hjk : j < k := by rw [← hk x (List.mem_of_getElem? hi)]; exact (List.getElem?_eq_some_iff.1 hj).1
    have hil : i < ds.length := (List.getElem?_eq_some_iff.1 hi).1
    calc i * k + j < i * k + k := by omega
      _ = (i + 1) * k := by rw [Nat.add_mul, Nat.one_mul]
      _ ≤ ds.length * k := Nat.mul_le_mul_right _ hil
  have hrdn : Rd (w.alloc (.cells vs el)) (fun b o => S b o ∨ (b = w.heap.size ∧ o < ds.length * k)) (.sl ds) (.slice (some ⟨w.heap.size, 0, none⟩) ds.length cap) := by
    refine .sl ds (some ⟨w.heap.size, 0, none⟩) cap k hcap hlim hk (by simp) (fun ad had => ?_) (fun ad i x j y v had hi hj hv => ?_)
    · injection had with had; subst had
      intro i x j y hi hj
      obtain ⟨v, h2, h3, _⟩ := hcells i x j y hi hj
      exact ⟨rfl, .inr ⟨rfl, by have := hlt i x j y hi hj; show 0 + (i * k + j) < _; omega⟩, v, by rw [hcell, Nat.zero_add]; exact h2, h3⟩
    · injection had with had; subst had
      obtain ⟨v', h2, _, h4⟩ := hcells i x j y hi hj
      rw [hcell, Nat.zero_add, h2] at hv; injection hv with hv; subst hv
      exact h4.ext hE (fun _ _ h => .inl h)
  refine ⟨_, _, m, henv, h.defers, by simp [Act.put, h.size], h.pre, fun i q hq => ?_⟩
  rw [getD_put _ _ _ _ (by rw [h.size]; exact ht)]
  rw [GS.get_set] at hq
  by_cases hit : i = t
  · rw [if_pos hit] at hq ⊢; injection hq with hq; subst hq; subst hit
    exact .osl [i, 0] k ds (some ⟨w.heap.size, 0, none⟩) cap hrdn hk (by simp) (fun ad had => by
      injection had with had; subst had
      exact ⟨rfl, by simp, vs, el, heap_alloc_new' w _, by simpa using hsz⟩)
  · rw [if_neg hit] at hq ⊢
    exact (h.slots i q hq).ext hE (fun _ _ h => .inl h) (fun b t' q' hb => by rw [if_neg (Nat.ne_of_lt (he.olt b _ t' hb))]; exact hb) (fun _ _ h => h)
theorem Y_buildSlice {K : Ctx} {s : GS} {t n : Nat} {ty e rt : TypeId} {parts : Array (Nat × Operand)} {xs : List Operand} {pos : String} {af : Array Edge} {g : Option (Nat × Bool)} {z : Value} {k by_ : Nat} {ds : List D}
    (hu : K.P.underlying ty = some (.slice e)) (hinf : (K.P.info? e).map (fun i => (i.zero, i.size, i.bytes)) = some (some z, k, by_)) (hp : parts.toList = (List.range xs.length).zip xs) (hn : xs.length = n)
    (hzc : z.cells.size = k) (hds : PV.toDs (xs.map s.ev) = some ds) (hk : ∀ d ∈ ds, d.cells.length = k) (hsz : n * k ≤ 16777216) (hk0 : 0 < k) (ht : t < K.n) :
    Yld K ⟨some t, .buildSlice ty n parts, rt, pos, af, g⟩ s (s.set t (.osl k ds)) := by
  rintro a w ⟨S, O, m, h⟩
  obtain ⟨hlen, hrd⟩ := evs_rd h xs hds
  obtain ⟨inf, hin, hiz, his, hib⟩ : ∃ inf, K.P.info? e = some inf ∧ inf.zero = some z ∧ inf.size = k ∧ inf.bytes = by_ := by
    cases hq : K.P.info? e with
    | none => simp [hq] at hinf
    | some i => simp [hq] at hinf; exact ⟨i, rfl, hinf.1, hinf.2.1, hinf.2.2⟩
  have hrdi : ∀ (i : Nat) d, ds[i]? = some d → ∃ v, (xs.map a.eval)[i]? = some v ∧ Rd w S d v := fun i d hi => by
    have hlt : i < (xs.map a.eval).length := by have := (List.getElem?_eq_some_iff.1 hi).1; simp; omega
    exact ⟨_, List.getElem?_eq_getElem hlt, hrd i d _ hi (List.getElem?_eq_getElem hlt)⟩
  have hvk : ∀ v ∈ xs.map a.eval, v.cells.size = k := fun v hv => by
    obtain ⟨i, hi⟩ := List.getElem?_of_mem hv
    have hlt : i < ds.length := by have := (List.getElem?_eq_some_iff.1 hi).1; simp at this; omega
    have h1 := hrd i _ v (List.getElem?_eq_getElem hlt) hi
    rw [h1.cells_size.1]; exact hk _ (List.getElem_mem hlt)
  have hnk : n * k = (xs.map a.eval).length * k := by simp [hn]
  have hflen := flat_len (k := k) (xs.map a.eval) hvk
  have hfill : ∀ cells : Array Value, cells.size = n * k → Instr.fill (fun i => some (i * k, k)) cells (parts.toList.map fun x => (x.1, a.eval x.2)) = some ((xs.map a.eval).flatMap fun v => v.cells.toList).toArray := fun cells hc => by
    have h1 : (parts.toList.map fun x => (x.1, a.eval x.2)) = (List.range' 0 (xs.map a.eval).length).zip (xs.map a.eval) := by
      rw [hp, List.zip_map_right, List.length_map, List.range_eq_range']; rfl
    rw [h1, fill_seq _ 0 cells hvk (by simp [hc, hn])]
    congr 2
    unfold splice
    rw [Nat.zero_mul, Nat.zero_add, hflen, ← hnk, List.take_zero, List.nil_append, List.drop_of_length_le (by simp [hc]), List.append_nil]
  have hzv : (zeroValue e).run K.P w = .ok z w := by simp [zeroValue, typeInfo, hin, hiz]
  have hrun : (Instr.buildSlice ty n (parts.map fun x => (x.1, a.eval x.2))).run K.P w =
      .ok (.slice (some ⟨w.heap.size, 0, none⟩) n n) (w.alloc (.cells ((xs.map a.eval).flatMap fun v => v.cells.toList).toArray e)) := by
    unfold Instr.buildSlice
    have hno : ¬ (n * k > 2 ^ 24) := by simp; omega
    have hpm : (parts.map fun x => (x.1, a.eval x.2)).toList = parts.toList.map fun x => (x.1, a.eval x.2) := by simp
    simp only [Sem.run_bind, run_underlying hu, Result.andThen_ok, sizeOf, typeInfo, run_program, hin, Sem.run_pure, his]
    rw [if_neg hno]
    by_cases h0 : n * k = 0
    · rw [if_pos h0]
      simp only [Sem.run_bind, Sem.run_pure, Result.andThen_ok, pure_bind]
      rw [hpm, hfill _ (by simp [h0])]
      simp [newRow, World.alloc_eq]
    · rw [if_neg h0]
      simp only [Sem.run_bind, Sem.run_pure, Result.andThen_ok, hzv, pure_bind]
      rw [hpm, hfill _ (by simp)]
      simp [newRow, World.alloc_eq]
  have hexec : (execOp a.eval ⟨some t, .buildSlice ty n parts, rt, pos, af, g⟩).run K.P w = .ok (.value (.slice (some ⟨w.heap.size, 0, none⟩) n n)) (w.alloc (.cells ((xs.map a.eval).flatMap fun v => v.cells.toList).toArray e)) := by
    simp only [execOp]
    have : (parts.map fun x => match x with | (i, x) => (i, a.eval x)) = parts.map fun x => (x.1, a.eval x.2) := by congr 1
    simp [this, hrun]
  have hdn : ds.length = n := by omega
  refine ⟨_, _, hexec, ?_⟩
  have hfin := h.newRow ht ((xs.map a.eval).flatMap fun v => v.cells.toList).toArray e k n ds (by omega) (by rw [List.size_toArray, hflen, ← hnk]; exact Nat.le_refl _) (by
      have : n ≤ n * k := Nat.le_mul_of_pos_right _ hk0
      unfold lim; omega) hk (fun i x j y hi hj => by
    obtain ⟨v, hv, hrv⟩ := hrdi i x hi
    have hjk : j < k := by rw [← hk x (List.mem_of_getElem? hi)]; exact (List.getElem?_eq_some_iff.1 hj).1
    have hil : i < (xs.map a.eval).length := (List.getElem?_eq_some_iff.1 hv).1
    have hlt : i * k + j < ((xs.map a.eval).flatMap fun v => v.cells.toList).length := by
      rw [hflen]
      calc i * k + j < i * k + k := by omega
        _ = (i + 1) * k := by rw [Nat.add_mul, Nat.one_mul]
        _ ≤ _ := Nat.mul_le_mul_right _ hil
    have hg := List.getElem?_eq_getElem hlt
    have hu := flat_get (k := k) (xs.map a.eval) i j v _ hvk hv hjk hg
    obtain ⟨_, h2, h3⟩ := hrv.cells_size
    exact ⟨_, by rw [List.getElem?_toArray]; exact hg, h2 j _ hu, h3 j y _ hj hu⟩)
  rw [hdn] at hfin
  exact hfin
theorem Q_convert {K : Ctx} {s : GS} {t : Nat} {src dst rt : TypeId} {x : Operand} {pos : String} {af : Array Edge} {g : Option (Nat × Bool)} {k k' : IntKind} {n r : Int} {d : TypeDesc}
    (hx : s.ev x = .d (.int k n)) (hs : K.P.underlying src = some d) (hd : K.P.underlying dst = some (.int k')) (hw : k'.wrap n = r) (ht : t < K.n) :
    Qy K ⟨some t, .convert src dst x, rt, pos, af, g⟩ s t (.d (.int k' r)) := by
  subst hw
  refine fun S O m a w h => ⟨.int k' (k'.wrap n), fun w _ => ?_, .d _ _ _ (.int _ _)⟩
  have h1 := rd_int (h.evd hx)
  simp only [execOp, h1]
  simp [convert, run_underlying hs, run_underlying hd, Conv.intToInt]
theorem Q_bits {K : Ctx} {s : GS} {t : Nat} {op : BinOp} {ty yt rt : TypeId} {x y : Operand} {pos : String} {af : Array Edge} {g : Option (Nat × Bool)} {k : IntKind} {a b r : Int}
    (hx : s.ev x = .d (.int k a)) (hy : s.ev y = .d (.int k b)) (hr : Op.intBits op k a b = pure (.int k r)) (ho : op = .and ∨ op = .or ∨ op = .xor ∨ op = .andNot) (ht : t < K.n) :
    Qy K ⟨some t, .binOp op ty x y yt, rt, pos, af, g⟩ s t (.d (.int k r)) := by
  refine fun S O m ac w h => ⟨.int k r, fun w _ => ?_, .d _ _ _ (.int _ _)⟩
  have h1 := rd_int (h.evd hx)
  have h2 := rd_int (h.evd hy)
  have hb : binOp op ty (.int k a) (.int k b) = Op.intBits op k a b := by rcases ho with rfl | rfl | rfl | rfl <;> simp [binOp]
  have hg : eqGuard op ty x y (.int k a) (.int k b) = pure () := by rcases ho with rfl | rfl | rfl | rfl <;> simp [eqGuard]
  simp only [execOp, h1, h2, hg, hb, hr]
  rfl
theorem Q_quo {K : Ctx} {s : GS} {t : Nat} {ty yt rt : TypeId} {x y : Operand} {pos : String} {af : Array Edge} {g : Option (Nat × Bool)} {k : IntKind} {a b r : Int}
    (hx : s.ev x = .d (.int k a)) (hy : s.ev y = .d (.int k b)) (h0 : b ≠ 0) (hr : k.wrap (a.tdiv b) = r) (ht : t < K.n) :
    Qy K ⟨some t, .binOp .quo ty x y yt, rt, pos, af, g⟩ s t (.d (.int k r)) := by
  subst hr
  refine fun S O m ac w h => ⟨_, fun w _ => ?_, .d _ _ _ (.int _ _)⟩
  have h1 := rd_int (h.evd hx)
  have h2 := rd_int (h.evd hy)
  simp only [execOp, h1, h2]
  simp [eqGuard, binOp, Op.intDiv, h0]
theorem Q_rem {K : Ctx} {s : GS} {t : Nat} {ty yt rt : TypeId} {x y : Operand} {pos : String} {af : Array Edge} {g : Option (Nat × Bool)} {k : IntKind} {a b r : Int}
    (hx : s.ev x = .d (.int k a)) (hy : s.ev y = .d (.int k b)) (h0 : b ≠ 0) (hr : a.tmod b = r) (ht : t < K.n) :
    Qy K ⟨some t, .binOp .rem ty x y yt, rt, pos, af, g⟩ s t (.d (.int k r)) := by
  subst hr
  refine fun S O m ac w h => ⟨_, fun w _ => ?_, .d _ _ _ (.int _ _)⟩
  have h1 := rd_int (h.evd hx)
  have h2 := rd_int (h.evd hy)
  simp only [execOp, h1, h2]
  simp [eqGuard, binOp, Op.intDiv, h0]
theorem Y_move_take {K : Ctx} {s : GS} {t u : Nat} {ty : TypeId} {pos : String} {af : Array Edge} {g : Option (Nat × Bool)} {k : Nat} {xs : List D}
    (hu : s.get u = some (.osl k xs)) (htu : t ≠ u) (ht : t < K.n) :
    Yld K ⟨some t, .move (.tmp u), ty, pos, af, g⟩ s ((s.set u (.d (.sl xs))).set t (.osl k xs)) := by
  intro a w h
  obtain ⟨v, w', h1, h2⟩ := Y_assign_take (ty := ty) (pos := pos) (af := af) (g := g) hu htu ht a w h
  exact ⟨v, w', h1, h2⟩
end Go.Proofs.YtklkbfpjimeaoaaGreat.E
