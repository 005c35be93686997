import Derived.Test.YtklkbfpjimeaoaaGreatM14
import Derived.StringKeys
import Derived.DeepKeys4
/- Contracts of functions. Conditions: none. -/
set_option linter.unusedSimpArgs false
set_option linter.unusedVariables false
namespace Go.Proofs.YtklkbfpjimeaoaaGreat.E
open Go
section
def D.leafQ : D → D → Bool
 | .int k a, .int k' b => decide (k = k') && decide (a = b)
 | .str a, .str b => decide (a = b)
 | .bool a, .bool b => decide (a = b)
 | _, _ => false
def D.leafsQ : List D → List D → Bool
 | [], [] => true
 | a :: as, b :: bs => D.leafQ a b && D.leafsQ as bs
 | _, _ => false
def D.keyQ : D → D → Bool
 | .agg as, .agg bs => D.leafsQ as bs
 | a, b => D.leafQ a b
theorem leafQ_iff : ∀ {a b : D} {v u : Value}, a.lit = some v → b.lit = some u → (D.leafQ a b = true ↔ v = u) := by
 intro a b v u ha hb
 cases a <;> first | (exfalso; simp [D.lit] at ha; done) | skip
 all_goals cases b <;> first | (exfalso; simp [D.lit] at hb; done) | skip
 all_goals (injection ha with ha; injection hb with hb; subst ha; subst hb; simp [D.leafQ])
theorem leafsQ_iff : ∀ {as bs : List D} {vs us : List Value}, D.lits as = some vs → D.lits bs = some us → (D.leafsQ as bs = true ↔ vs = us)
 | [], [], vs, us, ha, hb => by injection ha with ha; injection hb with hb; subst ha; subst hb; simp [D.leafsQ]
 | a :: as, b :: bs, vs, us, ha, hb => by
  rw [D.lits] at ha hb
  cases h1 : a.lit with
  | none => simp [h1] at ha
  | some v =>
   cases h2 : D.lits as with
   | none => simp [h1, h2] at ha
   | some vs' =>
    cases h3 : b.lit with
    | none => simp [h3] at hb
    | some u =>
     cases h4 : D.lits bs with
     | none => simp [h3, h4] at hb
     | some us' =>
      simp only [h1, h2, Option.some.injEq] at ha
      simp only [h3, h4, Option.some.injEq] at hb
      subst ha; subst hb
      rw [D.leafsQ, Bool.and_eq_true, leafQ_iff h1 h3, leafsQ_iff h2 h4, List.cons.injEq]
 | [], b :: bs, vs, us, ha, hb => by
  injection ha with ha; subst ha
  rw [D.lits] at hb
  split at hb
  · injection hb with hb; subst hb; simp [D.leafsQ]
  · cases hb
 | a :: as, [], vs, us, ha, hb => by
  injection hb with hb; subst hb
  rw [D.lits] at ha
  split at ha
  · injection ha with ha; subst ha; simp [D.leafsQ]
  · cases ha
theorem keyV_lit {a : D} (h : ∀ cs, a ≠ .agg cs) : a.keyV = a.lit := by cases a <;> first | rfl | exact absurd rfl (h _)
theorem keyQ_leaf {a b : D} (h : ∀ cs, a ≠ .agg cs) : D.keyQ a b = D.leafQ a b := by cases a <;> first | rfl | exact absurd rfl (h _)
variable {v u : Value}
theorem keyQ_iff {a b : D} (ha : a.keyV = some v) (hb : b.keyV = some u) : D.keyQ a b = true ↔ v = u := by
 cases a with
 | agg as =>
  cases b with
  | agg bs =>
   simp only [D.keyV, Option.map_eq_some_iff] at ha hb
   obtain ⟨vs, h1, rfl⟩ := ha
   obtain ⟨us, h2, rfl⟩ := hb
   rw [D.keyQ, leafsQ_iff h1 h2]
   simp
  | _ =>
   simp only [D.keyV, Option.map_eq_some_iff] at ha
   obtain ⟨vs, h1, rfl⟩ := ha
   first | (exfalso; simp [D.keyV, D.lit] at hb; done) | (injection hb with hb; subst hb; show false = true ↔ _; simp)
 | _ =>
  cases b with
  | agg bs =>
   simp only [D.keyV, Option.map_eq_some_iff] at hb
   obtain ⟨vs, h1, rfl⟩ := hb
   first | (exfalso; simp [D.keyV, D.lit] at ha; done) | (injection ha with ha; subst ha; show false = true ↔ _; simp)
  | _ =>
   rw [keyV_lit (by intro cs h; cases h)] at ha hb
   rw [keyQ_leaf (by intro cs h; cases h)]
   exact leafQ_iff ha hb
variable {w : World} {S : Reg}
theorem rd_lit {d : D} (hl : d.lit = some u) (h : Rd w S d v) : v = u := by
 cases d <;> first | (exfalso; simp [D.lit] at hl; done) | (injection hl with hl; subst hl; cases h; rfl)
theorem lits_get : ∀ {ds : List D} {vs : List Value}, D.lits ds = some vs → vs.length = ds.length ∧ ∀ (i : Nat) d v, ds[i]? = some d → vs[i]? = some v → d.lit = some v
 | [], vs, h => by injection h with h; subst h; exact ⟨rfl, fun i d v h => by simp at h⟩
 | d :: ds, vs, h => by
  rw [D.lits] at h
  split at h
  · rename_i v vs' h1 h2
    injection h with h; subst h
    obtain ⟨h3, h4⟩ := lits_get h2
    refine ⟨by simp [h3], fun i d' v' hd hv => ?_⟩
    cases i with
    | zero => simp only [List.getElem?_cons_zero, Option.some.injEq] at hd hv; subst hd; subst hv; exact h1
    | succ i => exact h4 i d' v' (by simpa using hd) (by simpa using hv)
  · cases h
theorem rd_keyV {k : D} (hk : k.keyV = some u) (h : Rd w S k v) : v = u := by
 cases k with
 | agg cs =>
  simp only [D.keyV, Option.map_eq_some_iff] at hk
  obtain ⟨vs, h1, rfl⟩ := hk
  cases h with
  | agg _ us hl ho hh =>
   obtain ⟨h2, h3⟩ := lits_get h1
   congr 1
   apply Array.ext
   · simp [hl, h2]
   · intro i hi1 hi2
     have hi : i < cs.length := by omega
     have hv : i < vs.length := by omega
     have := rd_lit (h3 i _ _ (gE hi) (gE hv)) (hh i _ _ (gE hi) (Array.getElem?_eq_getElem hi1))
     rw [this]; simp
 | _ => exact rd_lit (by rw [← keyV_lit (by intro cs h; cases h)]; exact hk) h
def KG (P : Program) (kt : TypeId) (k : D) : Prop := ∃ v l, k.keyV = some v ∧ keyOf P kt v = some l
def KRel (ks : List D) (es : Array MapEntry) : Prop := (∀ (k k' : Nat) e e', es[k]? = some e → es[k']? = some e' → e.key = e'.key → k = k') ∧ (∀ (i : Nat) e, es[i]? = some e → ∃ (j : Nat) (k : D), ks[j]? = some k ∧ k.keyV = some e.key) ∧ ∀ (j : Nat) (k : D), ks[j]? = some k → ∃ (i : Nat) (e : MapEntry), es[i]? = some e ∧ k.keyV = some e.key
theorem findG {P : Program} {kt : TypeId} (L : WideMaps.KeyLaw P kt) {ks : List D} {es : Array MapEntry} (hrel : KRel ks es) (hks : ∀ k ∈ ks, KG P kt k) {k : D} (hk : KG P kt k) (w : World) : ∃ kv, k.keyV = some kv ∧ (Instr.checkKey false 10000 kt kv).run P w = .ok () w ∧ (Instr.checkKey es.isEmpty 10000 kt kv).run P w = .ok () w ∧ (Instr.keyThatStays kv kv).run P w = .ok kv w ∧
 (((Instr.findKey kt kv es.toList).run P w = .ok none w ∧ ∀ k' ∈ ks, k'.keyQ k = false) ∨
  ∃ (i : Nat) (e : MapEntry) (j : Nat) (k' : D), (Instr.findKey kt kv es.toList).run P w = .ok (some (i, e.val)) w ∧ es[i]? = some e ∧ e.key = kv ∧ ks[j]? = some k' ∧ k'.keyQ k = true) := by
 obtain ⟨kv, l, h1, h2⟩ := hk
 refine ⟨kv, h1, L.check w false h2, L.check w es.isEmpty h2, L.stays w h2, ?_⟩
 have hes : ∀ e ∈ es.toList, ∃ l, keyOf P kt e.key = some l := fun e he => by
  obtain ⟨i, hi⟩ := List.mem_iff_getElem?.1 he
  obtain ⟨j, k', hj, hkv⟩ := hrel.2.1 i e (by simpa using hi)
  obtain ⟨v', l', h3, h4⟩ := hks k' (mG hj)
  rw [hkv] at h3; injection h3 with h3; subst h3; exact ⟨l', h4⟩
 rcases L.find w h2 es.toList hes with ⟨h3, h4⟩ | ⟨i, e, h3, h4, h5⟩
 · refine .inl ⟨h3, fun k' hk' => ?_⟩
   obtain ⟨j, hj⟩ := List.mem_iff_getElem?.1 hk'
   obtain ⟨i, e, hi, hkv⟩ := hrel.2.2 j k' hj
   have hne := h4 e (List.mem_iff_getElem?.2 ⟨i, by simpa using hi⟩)
   cases hq : k'.keyQ k with
   | false => rfl
   | true => exact absurd ((keyQ_iff hkv h1).1 hq) hne
 · have hi : es[i]? = some e := by simpa using h4
   obtain ⟨j, k', hj, hkv⟩ := hrel.2.1 i e hi
   exact .inr ⟨i, e, j, k', h3, hi, h5, hj, (keyQ_iff hkv h1).2 h5⟩
variable {K : Ctx} {s : GS}
theorem Rep.mapP {O : Owns} {m : List Nat} {a : Act} (h : Rep K S O m s a w) {b : Nat} {ks : List D} {vs : List PV} (hb : s.mem[b]? = some (mpc ks vs)) (hl : vs.length = ks.length) (hit : ∀ k ∈ ks, k ≠ .nilF) :
 ∃ r es c, m[b]? = some r ∧ O r = some ([b, 1], 0) ∧ w.heap[r]? = some (.map es c) ∧ KRel ks es ∧ ∀ (i : Nat) e (j : Nat) k q, es[i]? = some e → ks[j]? = some k → k.keyV = some e.key → vs[j]? = some q → RP w S O m [j + 1, b, 1] q e.val := by
 have hlt : b < m.length := by rw [h.env.mlen]; exact (lG hb)
 obtain ⟨hO, hblk⟩ := h.env.mem b _ m[b] hb (gE hlt) (by simp [mpc])
 have hget : ∀ (j : Nat) (x : D × D), (ks.map fun k => (k, k))[j]? = some x → ks[j]? = some x.1 := fun j x hx => by
  rw [List.getElem?_map] at hx
  cases hk : ks[j]? with
  | none => simp [hk] at hx
  | some k => simp only [hk, Option.map_some, Option.some.injEq] at hx; subst hx; rfl
 have hput : ∀ (j : Nat) (k : D), ks[j]? = some k → (ks.map fun k => (k, k))[j]? = some (k, k) := fun j k hk => by rw [List.getElem?_map, hk]; rfl
 unfold mpc at hblk
 rcases hblk with ⟨vs', el, h1, h2, h3, h4⟩ | ⟨kvs', es, c, hc, h1, h2, h3, h4⟩ | ⟨_, hc⟩ | ⟨b', pos, hc, h1⟩ | ⟨kvs', p, vs', es, c, hc, h1, h2, h3, h5, h4⟩
 · exfalso
   have hlt : 0 < vs'.size := by simp at h2; omega
   have := h4 0 _ _ rfl (Array.getElem?_eq_getElem hlt)
   cases this
 · injection hc with hc hv
   subst hv
   have hks : ks = [] := List.eq_nil_of_length_eq_zero hl.symm
   subst hks
   injection hc with hc
   subst hc
   refine ⟨m[b], es, c, gE hlt, hO, h1, ⟨fun i i' e e' hi => ?_, fun i e hi => ?_, fun j k hj => by simp at hj⟩, fun i e j k q _ hj => by simp at hj⟩ <;>
    (obtain ⟨x, hx, _⟩ := h2 i e hi; cases hx)
 · cases hc
 · exfalso
   injection hc with hc hv
   injection hc with hc
   cases ks with
   | nil => simp [iterK] at hc
   | cons k r =>
    simp only [List.map_cons, iterK, List.cons.injEq, Prod.mk.injEq] at hc
    exact hit k (by simp) hc.1.1
 · injection hc with hc hv
   injection hc with hc
   subst hv; subst hc
   refine ⟨m[b], es, c, gE hlt, hO, h1, ⟨h5, fun i e hi => ?_, fun j k hj => ?_⟩, fun i e j k q hi hj hk hq => h4 i e j (k, k) q hi (hput j k hj) hk hq⟩
   · obtain ⟨j, x, hj, hx⟩ := h2 i e hi; exact ⟨j, x.1, hget j x hj, hx⟩
   · exact h3 j (k, k) (hput j k hj)
theorem Rep.setMapP {O : Owns} {m : List Nat} {a : Act} (h : Rep K S O m s a w) {b r : Nat} {ks ks' : List D} {vs vs' : List PV} {es es' : Array MapEntry} {c c' : Nat} (hb : s.mem[b]? = some (mpc ks vs)) (hr : m[b]? = some r)
 (hh : w.heap[r]? = some (.map es c)) (hne : vs' ≠ []) (hrel : KRel ks' es') (hv : ∀ (i : Nat) e (j : Nat) k q, es'[i]? = some e → ks'[j]? = some k → k.keyV = some e.key → vs'[j]? = some q → RP w S O m [j + 1, b, 1] q e.val) :
 Rep K S O m ⟨s.slots, s.mem.set b (mpc ks' vs')⟩ a { w with heap := w.heap.setIfInBounds r (.map es' c') } := by
 have he := h.env
 obtain ⟨hown, _⟩ := he.mem b _ r hb hr (by simp [mpc])
 have hSr : ∀ o, ¬ S r o := fun o hS => absurd (he.sown r o _ _ hS hown) (Nat.not_lt_zero _)
 have hE : Ext S w { w with heap := w.heap.setIfInBounds r (.map es' c') } := ext_setMap hh hSr
 have hoth : ∀ b', b' ≠ r → ({ w with heap := w.heap.setIfInBounds r (.map es' c') } : World).heap[b']? = w.heap[b']? := fun b' hb' => (MapKept.heap_set hh).2 b' hb'
 refine ⟨⟨he.ext.trans hE he.s0, fun k hk hO => ?_, fun k l t o hk hO hot => ?_, he.s0, he.snew, he.sown, fun k o hS => ?_, fun k l t hO => ?_, he.onew, by simp [he.mlen], fun i cs r' hi hr' hne => ?_⟩, h.defers, h.size, h.pre, fun i p hp => (h.slots i p hp).ext hE (fun _ _ h => h) (fun _ _ _ h => h) (fun _ _ h => h)⟩
 · have : k ≠ r := by
    rintro rfl
    rcases he.onew k _ _ hown with h1 | ⟨l0, t0, h1, _⟩
    · omega
    · rw [hO] at h1; cases h1
   rw [hoth k this]; exact he.old k hk hO
 · have : k ≠ r := by
    rintro rfl
    rcases he.onew k _ _ hown with h1 | ⟨l0, t0, h1, h2⟩
    · omega
    · rw [hO] at h1; injection h1 with h1; injection h1 with _ h1; omega
   have hc : ({ w with heap := w.heap.setIfInBounds r (.map es' c') } : World).cell? ⟨k, o, none⟩ = w.cell? ⟨k, o, none⟩ := by simp only [World.cell?, hoth k this]
   rw [hc]; exact he.part k l t o hk hO hot
 · have := he.slt k o hS; simpa using this
 · have := he.olt k l t hO; simpa using this
 · by_cases hib : i = b
   · subst hib
     rw [hr] at hr'; injection hr' with hr'; subst hr'
     have hlt : i < s.mem.length := (lG hb)
     have hi' : mpc ks' vs' = cs := by
      have : (s.mem.set i (mpc ks' vs'))[i]? = some cs := hi
      rw [List.getElem?_set_self hlt] at this; injection this
     subst hi'
     obtain ⟨h0, h1, h2⟩ := hrel
     match vs', hne with
     | p :: vs', _ =>
      refine ⟨hown, .inr (.inr (.inr (.inr ⟨ks'.map (fun k => (k, k)), p, vs', es', c', rfl, (MapKept.heap_set hh).1, fun k e hk => ?_, fun j x hj => ?_, h0, fun k e j x q hk hj hx hq => ?_⟩)))⟩
      · obtain ⟨j, k', hj, hx⟩ := h1 k e hk
        exact ⟨j, (k', k'), by rw [List.getElem?_map, hj]; rfl, hx⟩
      · rw [List.getElem?_map] at hj
        cases hk : ks'[j]? with
        | none => simp [hk] at hj
        | some k => simp only [hk, Option.map_some, Option.some.injEq] at hj; subst hj; exact h2 j k hk
      · rw [List.getElem?_map] at hj
        cases hk' : ks'[j]? with
        | none => simp [hk'] at hj
        | some k' =>
         simp only [hk', Option.map_some, Option.some.injEq] at hj; subst hj
         exact (hv k e j k' q hk hk' hx hq).ext hE (fun _ _ h => h) (fun _ _ _ h => h) (fun _ _ h => h)
   · have hi' : s.mem[i]? = some cs := by
      have : (s.mem.set b (mpc ks' vs'))[i]? = some cs := hi
      rwa [List.getElem?_set_ne (Ne.symm hib)] at this
     obtain ⟨g1, g2⟩ := he.mem i cs r' hi' hr' hne
     have hrr : r' ≠ r := by
      rintro rfl
      rw [g1] at hown; injection hown with hown; injection hown with hown _; injection hown with hown _; exact hib hown
     exact ⟨g1, g2.frame (hoth r' hrr) hE (fun _ _ h => h) (fun _ _ _ _ h => h) (fun _ _ h => h)⟩
def hasK (k : D) : List D → Bool
 | [] => false
 | x :: r => match x.keyQ k with
  | true => true
  | false => hasK k r
theorem hasK_true {k x : D} : ∀ {ks : List D}, x ∈ ks → x.keyQ k = true → hasK k ks = true
 | y :: r, hx, hq => by
  rw [hasK]
  split
  · rfl
  · rename_i hy
    rcases List.mem_cons.1 hx with rfl | hx
    · rw [hq] at hy; cases hy
    · exact hasK_true hx hq
def repK (k : D) (p : PV) : List D → List PV → List PV
 | x :: r, v :: vs => (match x.keyQ k with
  | true => p
  | false => v) :: repK k p r vs
 | _, vs => vs
variable {p : PV}
theorem repK_get {k : D} : ∀ {ks : List D} {vs : List PV} {j : Nat} {x : D} {q : PV}, ks[j]? = some x → (repK k p ks vs)[j]? = some q → (x.keyQ k = true ∧ q = p) ∨ (x.keyQ k = false ∧ vs[j]? = some q)
 | [], _, _, _, _, h, _ => by simp at h
 | y :: r, [], j, x, q, _, h => by rw [repK] at h; simp at h; intros; simp_all
 | y :: r, v :: vs, j, x, q, hx, h => by
  rw [repK] at h
  cases j with
  | zero =>
   simp only [List.getElem?_cons_zero, Option.some.injEq] at hx h
   subst hx
   split at h
   · rename_i hq; exact .inl ⟨hq, h.symm⟩
   · rename_i hq; exact .inr ⟨hq, by simpa using h⟩
  | succ j =>
   rw [List.getElem?_cons_succ] at h hx
   rw [List.getElem?_cons_succ]
   exact repK_get hx h
theorem repK_ne {k : D} : ∀ {ks : List D} {vs : List PV}, vs ≠ [] → repK k p ks vs ≠ []
 | [], _, h => h
 | _ :: _, [], h => absurd rfl h
 | _ :: _, _ :: _, _ => by rw [repK]; simp
def putKs (ks : List D) (k : D) : List D := match hasK k ks with
 | true => ks
 | false => ks ++ [k]
def putVs (ks : List D) (k : D) (vs : List PV) (p : PV) : List PV := match hasK k ks with
 | true => repK k p ks vs
 | false => vs ++ [p]
theorem D_mapUp {mx kx vx : Operand} {ty rt kt et : TypeId} {pos : String} {af : Array Edge} {g : Option (Nat × Bool)} {b : Nat} {ks : List D} {vs : List PV} {k : D} (L : WideMaps.KeyLaw K.P kt) (hu : K.P.underlying ty = some (.map kt et))
 (hmx : s.ev mx = .mref b) (hm : s.mem[b]? = some (mpc ks vs)) (hl : vs.length = ks.length) (hit : ∀ k ∈ ks, k ≠ .nilF) (hks : ∀ k ∈ ks, KG K.P kt k) (hkx : s.ev kx = .d k) (hk : KG K.P kt k) (hvx : s.ev vx = p) (hno : p.noown = true) :
 Does K ⟨none, .mapUpdate ty mx kx vx, rt, pos, af, g⟩ s ⟨s.slots, s.mem.set b (mpc (putKs ks k) (putVs ks k vs p))⟩ := by
 rintro a w ⟨S, O, m, h⟩
 obtain ⟨r, es, c, hr, hO, hh, hrel, hval⟩ := h.mapP hm hl hit
 obtain ⟨l, hrm⟩ := h.ev mx
 rw [hmx] at hrm
 generalize hmv : a.eval mx = mv at hrm
 obtain ⟨lv, hrv⟩ := h.ev vx
 rw [hvx] at hrv
 obtain ⟨kv, h1, h2, _, h4, h5⟩ := findG L hrel hks hk w
 have hke := rd_keyV h1 (h.evd hkx)
 cases hrm with
 | mref _ _ r' hr' =>
  rw [hr] at hr'; injection hr' with hr'; subst hr'
  rcases h5 with ⟨f1, f2⟩ | ⟨i, e, j, k', f1, f2, f3, f4, f5⟩
  · have hha : hasK k ks = false := by
     cases hq : hasK k ks with
     | false => rfl
     | true =>
      exfalso
      have : ∀ ks : List D, (∀ x ∈ ks, x.keyQ k = false) → hasK k ks = false := by
       intro ks
       induction ks with
       | nil => intro _; rfl
       | cons x r ih => intro h; rw [hasK, h x (by simp)]; exact ih fun y hy => h y (by simp [hy])
      rw [this ks f2] at hq; cases hq
    unfold putKs putVs
    rw [hha]
    refine ⟨{ w with heap := w.heap.setIfInBounds r (.map (es.push { key := a.eval kx, val := a.eval vx, born := c }) (c + 1)) }, ?_, S, O, m, h.setMapP hm hr hh (by simp) ⟨fun i i' e e' hi hi' he => ?_, fun i e hi => ?_, fun j x hj => ?_⟩ (fun i e j x q hi hj hx hq => ?_)⟩
    · simp only [execOp, hmv]
      simp [Instr.mapUpdate, run_underlying hu, MapKept.run_getObj_map hh, hke, h2, f1, MapKept.run_setObj_map _ hh, Result.andThen]
    · rw [Array.getElem?_push] at hi hi'
      have hno' : ∀ (i : Nat) e, es[i]? = some e → e.key ≠ a.eval kx := fun i e hi he => by
       obtain ⟨j, x, hj, hx⟩ := hrel.2.1 i e hi
       have := f2 x (mG hj)
       rw [(keyQ_iff hx h1).2 (by rw [he, hke])] at this; cases this
      split at hi <;> split at hi'
      · omega
      · injection hi with hi; subst hi; exact absurd he.symm (hno' i' e' hi')
      · injection hi' with hi'; subst hi'; exact absurd he (hno' i e hi)
      · exact hrel.1 i i' e e' hi hi' he
    · rw [Array.getElem?_push] at hi
      split at hi
      · injection hi with hi; subst hi; exact ⟨ks.length, k, by simp, by rw [h1, hke]⟩
      · obtain ⟨j, x, hj, hx⟩ := hrel.2.1 i e hi
        exact ⟨j, x, by rw [List.getElem?_append_left (lG hj)]; exact hj, hx⟩
    · by_cases hjl : j < ks.length
      · rw [List.getElem?_append_left hjl] at hj
        obtain ⟨i, e, hi, hx⟩ := hrel.2.2 j x hj
        exact ⟨i, e, by rw [Array.getElem?_push, if_neg (Nat.ne_of_lt (Array.getElem?_eq_some_iff.1 hi).1)]; exact hi, hx⟩
      · rw [List.getElem?_append_right (by omega)] at hj
        have hj0 : j - ks.length = 0 := by
         have := (lG hj); simp at this; omega
        rw [hj0] at hj
        simp only [List.getElem?_cons_zero, Option.some.injEq] at hj
        subst hj
        exact ⟨es.size, { key := a.eval kx, val := a.eval vx, born := c }, by simp, by show k.keyV = some (a.eval kx); rw [h1, hke]⟩
    · rw [Array.getElem?_push] at hi
      by_cases hjl : j < ks.length
      · rw [List.getElem?_append_left hjl] at hj
        rw [List.getElem?_append_left (by omega)] at hq
        split at hi
        · injection hi with hi; subst hi
          exfalso
          have := f2 x (mG hj)
          rw [(keyQ_iff hx h1).2 (by rw [hke])] at this; cases this
        · exact hval i e j x q hi hj hx hq
      · rw [List.getElem?_append_right (by omega)] at hj hq
        have hj0 : j - ks.length = 0 := by
         have := (lG hj); simp at this; omega
        rw [hj0] at hj
        rw [show j - vs.length = 0 by omega] at hq
        simp only [List.getElem?_cons_zero, Option.some.injEq] at hj hq
        subst hj; subst hq
        split at hi
        · injection hi with hi; subst hi; exact hrv.any hno _ _
        · exfalso
          obtain ⟨j', x', hj', hx'⟩ := hrel.2.1 i e hi
          have := f2 x' (mG hj')
          rw [h1] at hx; injection hx with hx
          rw [(keyQ_iff hx' h1).2 hx.symm] at this; cases this
  · have hha : hasK k ks = true := hasK_true (mG f4) f5
    unfold putKs putVs
    rw [hha]
    have hvne : vs ≠ [] := by
     rintro rfl
     have := (lG f4)
     simp at hl; omega
    refine ⟨{ w with heap := w.heap.setIfInBounds r (.map (es.modify i fun e => { e with key := a.eval kx, val := a.eval vx }) c) }, ?_, S, O, m, h.setMapP hm hr hh (repK_ne hvne) ?_ (fun i' e' j' x q hi hj hx hq => ?_)⟩
    · simp only [execOp, hmv]
      simp [Instr.mapUpdate, run_underlying hu, MapKept.run_getObj_map hh, hke, h2, f1, f2, f3, h4, MapKept.run_setObj_map _ hh, Result.andThen]
    · have hkey : ∀ (i' : Nat) e', (es.modify i fun e => { e with key := a.eval kx, val := a.eval vx })[i']? = some e' → ∃ e0, es[i']? = some e0 ∧ e0.key = e'.key := fun i' e' hi' => by
       rw [Array.getElem?_modify] at hi'
       split at hi'
       · rename_i hii
         subst hii
         rw [f2] at hi'
         injection hi' with hi'; subst hi'
         exact ⟨e, f2, by rw [f3, hke]⟩
       · exact ⟨e', hi', rfl⟩
      have hkey' : ∀ (i' : Nat) e0, es[i']? = some e0 → ∃ e', (es.modify i fun e => { e with key := a.eval kx, val := a.eval vx })[i']? = some e' ∧ e0.key = e'.key := fun i' e0 hi' => by
       rw [Array.getElem?_modify]
       split
       · rename_i hii
         subst hii
         rw [f2] at hi'
         injection hi' with hi'; subst hi'
         exact ⟨_, by rw [f2]; rfl, by rw [f3, hke]⟩
       · exact ⟨e0, hi', rfl⟩
      refine ⟨fun i1 i2 e1 e2 g1 g2 he => ?_, fun i1 e1 g1 => ?_, fun j1 x1 g1 => ?_⟩
      · obtain ⟨a1, b1, c1⟩ := hkey i1 e1 g1
        obtain ⟨a2, b2, c2⟩ := hkey i2 e2 g2
        exact hrel.1 i1 i2 a1 a2 b1 b2 (by rw [c1, c2, he])
      · obtain ⟨a1, b1, c1⟩ := hkey i1 e1 g1
        obtain ⟨j1, x1, d1, d2⟩ := hrel.2.1 i1 a1 b1
        exact ⟨j1, x1, d1, by rw [d2, c1]⟩
      · obtain ⟨i1, e1, b1, c1⟩ := hrel.2.2 j1 x1 g1
        obtain ⟨e2, d1, d2⟩ := hkey' i1 e1 b1
        exact ⟨i1, e2, d1, by rw [c1, d2]⟩
    · rw [Array.getElem?_modify] at hi
      split at hi
      · rename_i hii
        subst hii
        rw [f2] at hi
        injection hi with hi; subst hi
        rcases repK_get hj hq with ⟨_, rfl⟩ | ⟨g1, _⟩
        · exact hrv.any hno _ _
        · exfalso
          rw [(keyQ_iff hx h1).2 (by show a.eval kx = kv; exact hke)] at g1; cases g1
      · rename_i hii
        rcases repK_get hj hq with ⟨g1, rfl⟩ | ⟨g1, g2⟩
        · exfalso
          have := (keyQ_iff hx h1).1 g1
          exact hii (hrel.1 i i' e e' f2 hi (by rw [f3, this]))
        · exact hval i' e' j' x q hi hj hx g2
end
section
def lookP (k : D) (z : PV) : List D → List PV → PV
 | x :: r, v :: vs => match x.keyQ k with
  | true => v
  | false => lookP k z r vs
 | _, _ => z
theorem lookP_no {k : D} {z : PV} : ∀ {ks : List D} {vs : List PV}, (∀ x ∈ ks, x.keyQ k = false) → lookP k z ks vs = z
 | [], _, _ => by unfold lookP; rfl
 | _ :: _, [], _ => by unfold lookP; rfl
 | x :: r, v :: vs, h => by rw [lookP, h x (by simp)]; exact lookP_no fun y hy => h y (by simp [hy])
theorem lookP_has {k : D} {z : PV} : ∀ {ks : List D} {vs : List PV}, ks.length = vs.length → (∃ x ∈ ks, x.keyQ k = true) → ∃ (j : Nat) (x : D), ks[j]? = some x ∧ x.keyQ k = true ∧ vs[j]? = some (lookP k z ks vs)
 | [], _, _, ⟨_, h, _⟩ => by cases h
 | x :: r, [], h, _ => by cases h
 | x :: r, v :: vs, hl, ⟨y, hy, hq⟩ => by
  rw [lookP]
  cases hx : x.keyQ k with
  | true => exact ⟨0, x, rfl, hx, rfl⟩
  | false =>
   rcases List.mem_cons.1 hy with rfl | hy
   · rw [hx] at hq; cases hq
   · obtain ⟨j, x', h1, h2, h3⟩ := lookP_has (z := z) (ks := r) (vs := vs) (by simpa using hl) ⟨y, hy, hq⟩
     exact ⟨j + 1, x', by simpa using h1, h2, by simpa using h3⟩
theorem hasK_no {k : D} : ∀ {ks : List D}, (∀ x ∈ ks, x.keyQ k = false) → hasK k ks = false
 | [], _ => rfl
 | x :: r, h => by rw [hasK, h x (by simp)]; exact hasK_no fun y hy => h y (by simp [hy])
variable {P : Program} {et : TypeId} {z : Value}
theorem run_zero (hz : (P.info? et).map (·.zero) = some (some z)) (w : World) : (zeroValue et).run P w = .ok z w := by
 cases hq : P.info? et with
 | none => simp [hq] at hz
 | some i =>
  have hs : i.zero = some z := by simpa [hq] using hz
  simp [zeroValue, typeInfo, hq, hs]
def orZ (f : Option (Nat × Value)) (z : Value) : Value := match f with
 | some x => x.2
 | none => z
variable {ty kt : TypeId}
theorem run_lookG {w : World} {r c : Nat} {es : Array MapEntry} {kv : Value} {f : Option (Nat × Value)} (hu : P.underlying ty = some (.map kt et)) (hz : (P.info? et).map (·.zero) = some (some z)) (hh : w.heap[r]? = some (.map es c))
 (h1 : (Instr.checkKey es.isEmpty 10000 kt kv).run P w = .ok () w) (h2 : (Instr.findKey kt kv es.toList).run P w = .ok f w) (ok : Bool) :
 (Instr.lookup ty (.map (some r)) kv ok).run P w = .ok (if ok = true then .tuple #[(orZ f z), .bool f.isSome] else (orZ f z)) w := by
 cases f with
 | none => cases ok <;> simp [Instr.lookup, run_underlying hu, MapKept.run_getObj_map hh, h1, h2, run_zero hz, Result.andThen, orZ]
 | some x =>
  obtain ⟨i, v⟩ := x
  cases ok <;> simp [Instr.lookup, run_underlying hu, MapKept.run_getObj_map hh, h1, h2, Result.andThen, orZ]
variable {K : Ctx} {s : GS} {t : Nat}
theorem Yld_now {o : Oper} {p : PV} (hd : o.dst = some t) (ht : t < K.n) (h : ∀ S O m a w, Rep K S O m s a w → ∃ v, (execOp a.eval o).run K.P w = .ok (.value v) w ∧ RP w S O m [t, 0] p v) : Yld K o s (s.set t p) := by
 rintro a w ⟨S, O, m, hr⟩
 obtain ⟨v, h1, h2⟩ := h S O m a w hr
 exact ⟨v, w, h1, by rw [hd]; exact ⟨S, O, m, hr.put ht h2⟩⟩
variable {rt : TypeId} {pos : String} {af : Array Edge}
theorem Y_lookP {mx kx : Operand} {g : Option (Nat × Bool)} {b : Nat} {ks : List D} {vs : List PV} {k : D} {zp : PV} (ok : Bool) (L : WideMaps.KeyLaw K.P kt)
 (hu : K.P.underlying ty = some (.map kt et)) (hz : (K.P.info? et).map (·.zero) = some (some z)) (hzp : ∀ (w : World) (S : Reg) (O : Owns) (m l : List Nat), RP w S O m l zp z) (hmx : s.ev mx = .mref b) (hm : s.mem[b]? = some (mpc ks vs)) (hl : vs.length = ks.length) (hit : ∀ k ∈ ks, k ≠ .nilF)
 (hks : ∀ k ∈ ks, KG K.P kt k) (hno : PV.noowns vs = true) (hkx : s.ev kx = .d k) (hk : KG K.P kt k) (ht : t < K.n) : Yld K ⟨some t, .lookup ty mx kx ok, rt, pos, af, g⟩ s (s.set t (match ok with | true => .tup [lookP k zp ks vs, .d (.bool (hasK k ks))] | false => lookP k zp ks vs)) := by
 refine Yld_now rfl ht fun S O m a w h => ?_
 obtain ⟨r, es, c, hr, hO, hh, hrel, hval⟩ := h.mapP hm hl hit
 obtain ⟨l, hrm⟩ := h.ev mx
 rw [hmx] at hrm
 generalize hmv : a.eval mx = mv at hrm
 cases hrm with
 | mref _ _ r' hr' =>
  rw [hr] at hr'; injection hr' with hr'; subst hr'
  obtain ⟨kv, h1, _, h3, _, h5⟩ := findG L hrel hks hk w
  have hke := rd_keyV h1 (h.evd hkx)
  have fin : ∀ f : Option (Nat × Value), (Instr.findKey kt kv es.toList).run K.P w = .ok f w → f.isSome = hasK k ks → (∀ l, RP w S O m l (lookP k zp ks vs) (orZ f z)) →
   ∃ v, (execOp a.eval ⟨some t, .lookup ty mx kx ok, rt, pos, af, g⟩).run K.P w = .ok (.value v) w ∧ RP w S O m [t, 0] (match ok with | true => .tup [lookP k zp ks vs, .d (.bool (hasK k ks))] | false => lookP k zp ks vs) v := by
   intro f hf hfs hfr
   refine ⟨_, by simp only [execOp, hmv, hke]; simp only [Sem.run_bind, run_lookG hu hz hh h3 hf ok, Result.andThen_ok]; rfl, ?_⟩
   cases ok with
   | true =>
    simp only [if_true]
    refine .tup _ _ _ (by simp) (fun i p u hi hu' => ?_)
    match i with
    | 0 => simp at hi hu'; subst hi; subst hu'; exact hfr _
    | 1 => simp at hi hu'; subst hi; subst hu'; rw [hfs]; exact .d _ _ _ (.bool _)
    | i + 2 => simp at hi
   | false => exact hfr [t, 0]
  rcases h5 with ⟨f1, f2⟩ | ⟨i, e, j, k', f1, g2, g3, g4, g5⟩
  · exact fin none f1 (hasK_no f2).symm fun l => by rw [lookP_no f2]; exact hzp _ _ _ _ _
  · refine fin _ f1 (hasK_true (mG g4) g5).symm fun l => ?_
    obtain ⟨j', x, q1, q2, q3⟩ := lookP_has (z := zp) (k := k) hl.symm ⟨k', mG g4, g5⟩
    obtain ⟨vx, _, hvx, _⟩ := hks x (mG q1)
    have hxv : x.keyV = some e.key := by rw [hvx, (keyQ_iff hvx h1).1 q2, g3]
    exact (hval i e j' x _ g2 q1 hxv q3).any (PV.noowns_get hno q3) _ _
def mgetQ (k z : D) : List (D × D) → D
 | [] => z
 | x :: r => match x.1.keyQ k with
  | true => x.2
  | false => mgetQ k z r
def mhasQ (k : D) : List (D × D) → Bool
 | [] => false
 | x :: r => match x.1.keyQ k with
  | true => true
  | false => mhasQ k r
theorem mget_no {k z : D} : ∀ {kvs : List (D × D)}, (∀ x ∈ kvs, x.1.keyQ k = false) → mgetQ k z kvs = z ∧ mhasQ k kvs = false
 | [], _ => ⟨rfl, rfl⟩
 | x :: r, h => by rw [mgetQ, mhasQ, h x (by simp)]; exact mget_no fun y hy => h y (by simp [hy])
theorem mget_has {k z : D} : ∀ {kvs : List (D × D)}, (∃ x ∈ kvs, x.1.keyQ k = true) → mhasQ k kvs = true ∧ ∃ x ∈ kvs, x.1.keyQ k = true ∧ mgetQ k z kvs = x.2
 | [], ⟨_, h, _⟩ => by cases h
 | x :: r, ⟨y, hy, hq⟩ => by
  rw [mgetQ, mhasQ]
  cases hx : x.1.keyQ k with
  | true => exact ⟨rfl, x, by simp, hx, rfl⟩
  | false =>
   rcases List.mem_cons.1 hy with rfl | hy
   · rw [hx] at hq; cases hq
   · obtain ⟨h1, x', h2, h3, h4⟩ := mget_has (z := z) ⟨y, hy, hq⟩
     exact ⟨h1, x', by simp [h2], h3, h4⟩
theorem Y_lookG {mx kx : Operand} {g : Option (Nat × Bool)} {kvs : List (D × D)} {k zd : D} (ok : Bool) (L : WideMaps.KeyLaw K.P kt)
 (hu : K.P.underlying ty = some (.map kt et)) (hz : (K.P.info? et).map (·.zero) = some (some z)) (hzd : ∀ (w : World) (S : Reg), Rd w S zd z) (hmx : s.ev mx = .d (.map kvs)) (hks : ∀ x ∈ kvs, KG K.P kt x.1) (hkx : s.ev kx = .d k) (hk : KG K.P kt k) (ht : t < K.n) :
 Yld K ⟨some t, .lookup ty mx kx ok, rt, pos, af, g⟩ s (s.set t (match ok with | true => .tup [.d (mgetQ k zd kvs), .d (.bool (mhasQ k kvs))] | false => .d (mgetQ k zd kvs))) := by
 refine Yld_now rfl ht fun S O m a w h => ?_
 have hr := h.evd hmx
 generalize hv : a.eval mx = v at hr
 cases hr with
 | map _ r es c hS hh g1 g2 g3 =>
  obtain ⟨kv, l, hkv, hkl⟩ := hk
  have hke := rd_keyV hkv (h.evd hkx)
  have hes : ∀ e ∈ es.toList, ∃ l, keyOf K.P kt e.key = some l := fun e he => by
   obtain ⟨i, hi⟩ := List.mem_iff_getElem?.1 he
   obtain ⟨x, hx, hxk⟩ := g1 i e (by simpa using hi)
   obtain ⟨v', l', h3, h4⟩ := hks x hx
   rw [hxk] at h3; injection h3 with h3; subst h3; exact ⟨l', h4⟩
  have key : ∃ f, (Instr.findKey kt kv es.toList).run K.P w = .ok f w ∧ f.isSome = mhasQ k kvs ∧ Rd w S (mgetQ k zd kvs) (orZ f z) := by
   rcases L.find w hkl es.toList hes with ⟨h3, h4⟩ | ⟨i, e, h3, h4, h5⟩
   · have hno : ∀ x ∈ kvs, x.1.keyQ k = false := fun x hx => by
      obtain ⟨i, e, hi, hxk⟩ := g2 x hx
      cases hq : x.1.keyQ k with
      | false => rfl
      | true => exact absurd ((keyQ_iff hxk hkv).1 hq) (h4 e (List.mem_iff_getElem?.2 ⟨i, by simpa using hi⟩))
     exact ⟨none, h3, (mget_no (z := zd) hno).2.symm, by rw [(mget_no hno).1]; exact hzd _ _⟩
   · have hi : es[i]? = some e := by simpa using h4
     obtain ⟨x, hx, hxk⟩ := g1 i e hi
     obtain ⟨q1, x', q2, q3, q4⟩ := mget_has (z := zd) ⟨x, hx, (keyQ_iff hxk hkv).2 h5⟩
     refine ⟨_, h3, q1.symm, ?_⟩
     obtain ⟨v', l', h6, _⟩ := hks x' q2
     rw [q4]
     exact g3 i e x' hi q2 (by rw [h6, (keyQ_iff h6 hkv).1 q3, h5])
  obtain ⟨f, hf1, hf2, hf3⟩ := key
  refine ⟨_, by simp only [execOp, hv, hke]; simp only [Sem.run_bind, run_lookG hu hz hh (L.check w _ hkl) hf1 ok, Result.andThen_ok]; rfl, ?_⟩
  cases ok with
  | true =>
   simp only [if_true]
   refine .tup _ _ _ (by simp) (fun i p u hi hu' => ?_)
   match i with
   | 0 => simp at hi hu'; subst hi; subst hu'; exact .d _ _ _ hf3
   | 1 => simp at hi hu'; subst hi; subst hu'; rw [hf2]; exact .d _ _ _ (.bool _)
   | i + 2 => simp at hi
  | false => exact .d _ _ _ hf3
def PV.mapNil : PV → Option Bool
 | .mref _ => some false
 | .d (.map _) => some false
 | .d .nilM => some true
 | _ => none
theorem run_map_nil (hu : P.underlying ty = some (.map kt et)) (a : Option Nat) (w : World) : (Op.equal ty (.map a) (.map none)).run P w = .ok a.isNone w := by
 rw [Op.equal, show Op.maxDepth = 9999 + 1 from rfl, Op.equalIn]
 cases a <;> simp [run_underlying hu]
theorem Q_mapeq {yt : TypeId} {x : Operand} {g : Option (Nat × Bool)} {b : Bool} (hx : (s.ev x).mapNil = some b) (hu : K.P.underlying ty = some (.map kt et)) :
 Qy K ⟨some t, .binOp .eql ty x (.const (.map none)) yt, rt, pos, af, g⟩ s t (.d (.bool b)) := by
 refine fun S O m a w h => ⟨.bool b, fun w _ => ?_, .d _ _ _ (.bool _)⟩
 obtain ⟨l, hr⟩ := h.ev x
 have hc : a.eval (.const (.map none)) = .map none := rfl
 simp only [execOp, hc]
 generalize hv : a.eval x = v at hr
 generalize hp : s.ev x = p at hr hx
 unfold PV.mapNil at hx
 split at hx
 · injection hx with hx; subst hx
   cases hr with | mref _ _ r h => simp [eqGuard, binOp, run_map_nil hu]
 · injection hx with hx; subst hx
   cases hr with | d _ _ _ hr => cases hr with | map _ r es c hS hh g1 g2 g3 => simp [eqGuard, binOp, run_map_nil hu]
 · injection hx with hx; subst hx
   cases hr with | d _ _ _ hr => cases hr; simp [eqGuard, binOp, run_map_nil hu]
 · cases hx
theorem Le_freezeP {keep : List (List PV)} {ks : List D} {vs : List PV} {ds : List D} (n : Nat) (hmem : s.mem = keep ++ [mpc ks vs]) (hn : keep.length = n) (hds : PV.toDs vs = some ds) (hl : vs.length = ks.length) (hit : ∀ k ∈ ks, k ≠ .nilF) (hm : K.m0.length ≤ n) :
 Le K s ⟨s.slots.map fun x => (x.1, PV.frz n noF noH (.d (.map (ks.zip ds))) x.2), keep.map (PV.frzs n noF noH (.d (.map (ks.zip ds))))⟩ := by
 refine Le_frz n 1 noF noH (.d (.map (ks.zip ds))) hmem hn hm (by simp [mpc]) (by simp) (fun i cs' hi => ?_) ?_
 · rw [List.getElem?_map] at hi
   cases hc : keep[i]? with
   | none => simp [hc] at hi
   | some cs0 =>
    simp only [hc, Option.map_some, Option.some.injEq] at hi
    subst hi
    refine ⟨cs0, rfl, by simp [PV.frzs_map], fun j p' hp => ?_⟩
    rw [PV.frzs_get] at hp
    cases hq : cs0[j]? with
    | none => simp [hq] at hp
    | some p0 => simp only [hq, Option.map_some, Option.some.injEq] at hp; exact ⟨p0, rfl, .inr hp.symm⟩
 · intro S O m a w h r hr O'
   have hbn : s.mem[n]? = some (mpc ks vs) := by rw [hmem, List.getElem?_append_right (by omega)]; simp [hn]
   refine ⟨fun off l => .undef _ _, fun off c k ad cap l _ _ _ _ => .undef _ _, fun l => ?_⟩
   obtain ⟨r', es, c, h1, _, h2, h3, h4⟩ := h.mapP hbn hl hit
   rw [hr] at h1; injection h1 with h1; subst h1
   obtain ⟨gl, gd⟩ := PV.toDs_get _ _ hds
   refine .d _ _ _ (.map _ r es c (.inr ⟨rfl, by omega⟩) h2 (fun i e hi => ?_) (fun x hx => ?_) (fun i e x hi hx hk => ?_))
   · obtain ⟨j, k, hj, hkv⟩ := h3.2.1 i e hi
     have hjl : j < ds.length := by rw [gl, hl]; exact (lG hj)
     exact ⟨(k, ds[j]), List.mem_iff_getElem?.2 ⟨j, by rw [List.getElem?_zip_eq_some]; exact ⟨hj, gE hjl⟩⟩, hkv⟩
   · obtain ⟨j, hj⟩ := List.mem_iff_getElem?.1 hx
     rw [List.getElem?_zip_eq_some] at hj
     exact h3.2.2 j x.1 hj.1
   · obtain ⟨j, hj⟩ := List.mem_iff_getElem?.1 hx
     rw [List.getElem?_zip_eq_some] at hj
     obtain ⟨p, hp, hpd⟩ := gd j x.2 hj.2
     exact ((h4 i e j x.1 p hi hj.1 hk hp).toD _ hpd).frame (fun _ _ _ => rfl) (fun _ _ _ _ h => h) (fun _ _ h => .inl h)
end
section
variable {P : Program}
theorem map_of {ty : TypeId} {i : TI} (hi : TOk P ty i) {k e : TypeId} (hk : i.kind = .map k e) : P.underlying ty = some (.map k e) := by
 obtain ⟨d, hd, _, hd2⟩ := hi.und
 rw [hk] at hd2
 cases d with
 | map k' e' =>
  rw [kndB, Bool.and_eq_true] at hd2
  rw [← Nat.eq_of_beq_eq_true hd2.1, ← Nat.eq_of_beq_eq_true hd2.2]
  exact hd
 | _ => cases hd2
def mus (T : List (Nat × TI)) (ops : List Oper) (i : Nat) (sl : List (Nat × PV)) : Option (Nat × TypeId × D × PV) := opK ops i fun o => match o.dst with
 | some _ => none
 | none => match o.guard with
  | some _ => none
  | none => match o.op with
   | .mapUpdate ty mx kx vx => match look T ty with
    | none => none
    | some ti => match ti.kind with
     | .map kt _ => match evl sl mx with
      | .mref b => match evl sl kx with
       | .d k => frc (evl sl vx) fun p => some (b, kt, k, p)
       | _ => none
      | _ => none
     | _ => none
   | _ => none
variable {K : Ctx} {T : List (Nat × TI)} {fr : List Fr} {ops : Array Oper} {Q : Exit → GS → Prop} {i : Nat} {kt : TypeId} {l : List Nat} {sl : List (Nat × PV)} {mem : List (List PV)} {vs : List PV} {p : PV}
theorem gMu {b : Nat} {mem' : List (List PV)} {ks : List D} {k : D} (hT : tabB K.P T = true)
 (h : mus T ops.toList i sl = some (b, kt, k, p)) (hm : nth mem b = some (mpc ks vs)) (L : WideMaps.KeyLaw K.P kt) (hl : vs.length = ks.length) (hit : ∀ k ∈ ks, k ≠ .nilF) (hks : ∀ k ∈ ks, KG K.P kt k) (hk : KG K.P kt k) (hno : p.noown = true)
 (hmem : mem.set b (mpc (putKs ks k) (putVs ks k vs p)) = mem') (hg : GF K fr (.ops ops l) Q ⟨sl, mem'⟩) : GF K fr (.ops ops (i :: l)) Q ⟨sl, mem⟩ := by
 obtain ⟨o, ho1, h⟩ := opK_of h
 have hoi : ops[i]? = some o := by rw [nth_eq] at ho1; rw [← ho1]; simp
 obtain ⟨dd, op, rt, pos, af, gg⟩ := o
 dsimp only at h
 split at h
 · cases h
 · split at h
   · cases h
   · split at h
     · rename_i ty mx kx vx
       split at h
       · cases h
       · rename_i ti hlk
         split at h
         · rename_i kt' et hkd
           have hu := map_of (tabB_look hT hlk) hkd
           split at h
           · rename_i b' hb'
             split at h
             · rename_i k' hk'
               rw [frc_eq] at h
               injection h with h; injection h with e1 h; injection h with e2 h; injection h with e3 e4
               subst e1; subst e2; subst e3; subst e4; subst hmem
               rw [evl_eq' sl mem] at hb' hk'
               rw [nth_eq] at hm
               rw [evl_eq' sl mem] at hno hg
               exact GOps_act hoi rfl (D_mapUp L hu hb' hm hl hit hks hk' hk rfl hno) hg
             · cases h
           · cases h
         · cases h
     · cases h
def lks (T : List (Nat × TI)) (ops : List Oper) (n i : Nat) (sl : List (Nat × PV)) : Option (Nat × Bool × PV × TypeId × TypeId × D) := opK ops i fun o => dstK n o fun t => match o.guard with
 | some _ => none
 | none => match o.op with
  | .lookup ty mx kx ok => match look T ty with
   | none => none
   | some ti => match ti.kind with
    | .map kt et => match evl sl kx with
     | .d k => frc (evl sl mx) fun p => some (t, ok, p, kt, et, k)
     | _ => none
    | _ => none
  | _ => none
def zvK (ti : TI) : Option PV := match ti.leaf with
 | true => match ti.zs with
  | [z] => frc z.pv some
  | _ => none
 | false => zpvK ti.zs fun ps => match PV.toDs ps with
  | some ds => some (.d (.agg ds))
  | none => none
variable {et : TypeId}
theorem zvK_of {ti : TI} (hT : tabB P T = true) (hl : look T et = some ti) (h : zvK ti = some p) : ∃ z, (P.info? et).map (·.zero) = some (some z) ∧ ∀ (w : World) (S : Reg) (O : Owns) (m l : List Nat), RP w S O m l p z := by
 obtain ⟨z, h1, h2, h3, h4, h5⟩ := (tabB_look hT hl).zero
 refine ⟨z, h1, fun w S O m l => ?_⟩
 unfold zvK at h
 split at h
 · rename_i hlf
   rw [hlf] at h5
   split at h
   · rename_i zk hz
     rw [frc_eq] at h
     injection h with h
     subst h
     rw [hz] at h4
     have hz1 : z.cells = #[z] := by cases z <;> first | rfl | cases h5
     rw [hz1] at h4
     have hzv : z = zk.val := by simpa using h4
     rw [hzv, ← zk.of]
     exact ofConst_rp _ _ _ _ _ _
   · cases h
 · rename_i hlf
   rw [hlf] at h5
   rw [zpvK_eq] at h
   split at h
   · rename_i ds hds
     injection h with h
     subst h
     cases z with
     | agg cs => exact .d _ _ _ (zeroD_rd (by unfold zeroD; dsimp only; rw [h3, hds]; rfl) h2 w S)
     | _ => cases h5
   · cases h
def zvT (T : List (Nat × TI)) (et : TypeId) : Option PV := match look T et with
 | some ti => zvK ti
 | none => none
theorem zvT_of (hT : tabB P T = true) (h : zvT T et = some p) : ∃ z, (P.info? et).map (·.zero) = some (some z) ∧ ∀ (w : World) (S : Reg) (O : Owns) (m l : List Nat), RP w S O m l p z := by
 unfold zvT at h
 split at h
 · rename_i ti hl; exact zvK_of hT hl h
 · cases h
def lkR (ok : Bool) (p : PV) (b : Bool) : PV := match ok with
 | true => .tup [p, .d (.bool b)]
 | false => p
variable {t : Nat} {ok : Bool}
theorem lks_of {k : D} (hT : tabB K.P T = true) (h : lks T ops.toList K.n i sl = some (t, ok, p, kt, et, k)) :
 ∃ ty mx kx rt pos af, ops[i]? = some ⟨some t, .lookup ty mx kx ok, rt, pos, af, none⟩ ∧ t < K.n ∧ K.P.underlying ty = some (.map kt et) ∧ GS.ev ⟨sl, mem⟩ mx = p ∧ GS.ev ⟨sl, mem⟩ kx = .d k := by
 obtain ⟨o, ho1, h1⟩ := opK_of h
 obtain ⟨t', hdt, ht, h2⟩ := dstK_of h1
 clear h h1
 have hoi : ops[i]? = some o := by rw [nth_eq] at ho1; rw [← ho1]; simp
 obtain ⟨dd, op, rt, pos, af, gg⟩ := o
 dsimp only at h2 hdt
 subst hdt
 split at h2
 · cases h2
 · split at h2
   · rename_i ty mx kx ok'
     split at h2
     · cases h2
     · rename_i ti hlk
       split at h2
       · rename_i kt' et' hkd
         split at h2
         · rename_i k' hk'
           rw [frc_eq] at h2
           injection h2 with h; injection h with e1 h; injection h with e2 h; injection h with e3 h; injection h with e4 h; injection h with e5 e6
           subst e1; subst e2; subst e3; subst e4; subst e5; subst e6
           exact ⟨ty, mx, kx, rt, pos, af, hoi, ht, map_of (tabB_look hT hlk) hkd, (evl_eq' sl mem mx).symm, by rw [← evl_eq' sl mem]; exact hk'⟩
         · cases h2
       · cases h2
   · cases h2
theorem gLk {b : Nat} {k : D} {ks : List D} {zp r : PV} (hT : tabB K.P T = true)
 (h : lks T ops.toList K.n i sl = some (t, ok, .mref b, kt, et, k)) (hz : zvT T et = some zp) (hm : nth mem b = some (mpc ks vs)) (L : WideMaps.KeyLaw K.P kt) (hl : vs.length = ks.length) (hit : ∀ k ∈ ks, k ≠ .nilF) (hks : ∀ k ∈ ks, KG K.P kt k) (hk : KG K.P kt k) (hno : PV.noowns vs = true)
 (hr : lkR ok (lookP k zp ks vs) (hasK k ks) = r) (hg : GF K fr (.ops ops l) Q ⟨(t, r) :: sl, mem⟩) : GF K fr (.ops ops (i :: l)) Q ⟨sl, mem⟩ := by
 obtain ⟨ty, mx, kx, rt, pos, af, h1, h2, h3, h4, h5⟩ := lks_of (mem := mem) hT h
 obtain ⟨z, h6, h7⟩ := zvT_of hT hz
 subst hr
 rw [nth_eq] at hm
 refine toO (GOps_val h1 rfl (Y_lookP ok L h3 h6 h7 h4 hm hl hit hks hno h5 hk h2) ?_)
 cases ok <;> exact ofO hg
theorem gLs {k zd : D} {kvs : List (D × D)} {zp r : PV} (hT : tabB K.P T = true)
 (h : lks T ops.toList K.n i sl = some (t, ok, .d (.map kvs), kt, et, k)) (hz : zvT T et = some zp) (hzd : zp.toD = some zd) (L : WideMaps.KeyLaw K.P kt) (hks : ∀ x ∈ kvs, KG K.P kt x.1) (hk : KG K.P kt k)
 (hr : lkR ok (.d (mgetQ k zd kvs)) (mhasQ k kvs) = r) (hg : GF K fr (.ops ops l) Q ⟨(t, r) :: sl, mem⟩) : GF K fr (.ops ops (i :: l)) Q ⟨sl, mem⟩ := by
 obtain ⟨ty, mx, kx, rt, pos, af, h1, h2, h3, h4, h5⟩ := lks_of (mem := mem) hT h
 obtain ⟨z, h6, h7⟩ := zvT_of hT hz
 subst hr
 refine toO (GOps_val h1 rfl (Y_lookG ok L h3 h6 (fun w S => (h7 w S noOwns [] []).toD _ hzd) h4 hks h5 hk h2) ?_)
 cases ok <;> exact ofO hg
def mes (T : List (Nat × TI)) (ops : List Oper) (n i : Nat) (sl : List (Nat × PV)) : Option (Nat × Bool) := opK ops i fun o => dstK n o fun t => match o.guard with
 | some _ => none
 | none => match o.op with
  | .binOp op ty x y _ => match op with
   | .eql => match y with
    | .const (.map none) => match look T ty with
     | none => none
     | some ti => match ti.kind with
      | .map _ _ => match (evl sl x).mapNil with
       | some b => some (t, b)
       | none => none
      | _ => none
    | _ => none
   | _ => none
  | _ => none
theorem gMe {b : Bool} (hT : tabB K.P T = true)
 (h : mes T ops.toList K.n i sl = some (t, b)) (hg : GF K fr (.ops ops l) Q ⟨(t, .d (.bool b)) :: sl, mem⟩) : GF K fr (.ops ops (i :: l)) Q ⟨sl, mem⟩ := by
 obtain ⟨o, ho1, h1⟩ := opK_of h
 obtain ⟨t', hdt, ht, h2⟩ := dstK_of h1
 clear h h1
 have hoi : ops[i]? = some o := by rw [nth_eq] at ho1; rw [← ho1]; simp
 obtain ⟨dd, op, rt, pos, af, gg⟩ := o
 dsimp only at h2 hdt
 subst hdt
 split at h2
 · cases h2
 · split at h2
   · rename_i bop ty x y yt
     split at h2
     · split at h2
       · split at h2
         · cases h2
         · rename_i ti hlk
           split at h2
           · rename_i kt et hkd
             split at h2
             · rename_i b' hb
               injection h2 with h; injection h with e1 e2
               subst e1; subst e2
               rw [evl_eq' sl mem] at hb
               exact toO (GOps_val hoi rfl (Yld_pure rfl ht (Q_mapeq hb (map_of (tabB_look hT hlk) hkd))) (ofO hg))
             · cases h2
           · cases h2
       · cases h2
     · cases h2
   · cases h2
theorem gFm {c : Cf} {s s' : GS} {keep : List (List PV)} {ks : List D} {ds : List D} {n : Nat} (hmem : s.mem = keep ++ [mpc ks vs]) (hn : keep.length = n) (hds : PV.toDs vs = some ds) (hl : vs.length = ks.length) (hit : ∀ k ∈ ks, k ≠ .nilF) (hm : K.m0.length ≤ n)
 (hs : GS.mk (s.slots.map fun x => (x.1, PV.frz n noF noH (.d (.map (ks.zip ds))) x.2)) (keep.map (PV.frzs n noF noH (.d (.map (ks.zip ds))))) = s') (hc : goes c = true) (hg : GF K fr c Q s') : GF K fr c Q s := by
 subst hs
 exact gLe (Le_freezeP n hmem hn hds hl hit hm) hg hc
end
section
theorem PV.ren_aux (f : Nat → Nat) (N : Nat) (hf : ∀ b, b < N → f b = b) : ∀ n, (∀ p : PV, SizeOf.sizeOf p ≤ n → PV.refsB N p = true → PV.ren f p = p) ∧ (∀ ps : List PV, SizeOf.sizeOf ps ≤ n → PV.refsBs N ps = true → PV.rens f ps = ps) := by
 intro n
 induction n with
 | zero => exact ⟨fun p hp => by cases p <;> simp at hp, fun ps hp => by cases ps <;> simp at hp⟩
 | succ n ih =>
  refine ⟨fun p hp hr => ?_, fun ps hp hr => ?_⟩
  · cases p with
    | ref b o => simp only [PV.refsB, decide_eq_true_eq] at hr; simp only [PV.ren, hf b hr]
    | rsl b o c k => simp only [PV.refsB, decide_eq_true_eq] at hr; simp only [PV.ren, hf b hr]
    | mref b => simp only [PV.refsB, decide_eq_true_eq] at hr; simp only [PV.ren, hf b hr]
    | fn g a c =>
     simp only [PV.refsB, Bool.and_eq_true] at hr
     simp only [PV.ren, ih.2 a (by simp at hp; omega) hr.1, ih.2 c (by simp at hp; omega) hr.2]
    | agg cs => simp only [PV.refsB] at hr; simp only [PV.ren, ih.2 cs (by simp at hp; omega) hr]
    | tup cs => simp only [PV.refsB] at hr; simp only [PV.ren, ih.2 cs (by simp at hp; omega) hr]
    | when b q => simp only [PV.refsB] at hr; simp only [PV.ren, ih.1 q (by simp at hp; omega) hr]
    | _ => simp only [PV.ren]
  · cases ps with
    | nil => rfl
    | cons p ps =>
     simp only [PV.refsBs, Bool.and_eq_true] at hr
     simp only [PV.rens, ih.1 p (by simp at hp; omega) hr.1, ih.2 ps (by simp at hp; omega) hr.2]
theorem PV.rens_same {f : Nat → Nat} {N : Nat} (hf : ∀ b, b < N → f b = b) {ps : List PV} (h : PV.refsBs N ps = true) : PV.rens f ps = ps := (PV.ren_aux f N hf _).2 ps (Nat.le_refl _) h
theorem PV.renid_aux (f : Nat → Nat) (hf : ∀ b, f b = b) : ∀ n, (∀ p : PV, SizeOf.sizeOf p ≤ n → PV.ren f p = p) ∧ (∀ ps : List PV, SizeOf.sizeOf ps ≤ n → PV.rens f ps = ps) := by
 intro n
 induction n with
 | zero => exact ⟨fun p hp => by cases p <;> simp at hp, fun ps hp => by cases ps <;> simp at hp⟩
 | succ n ih =>
  refine ⟨fun p hp => ?_, fun ps hp => ?_⟩
  · cases p with
    | ref b o => simp only [PV.ren, hf b]
    | rsl b o c k => simp only [PV.ren, hf b]
    | mref b => simp only [PV.ren, hf b]
    | fn g a c => simp only [PV.ren, ih.2 a (by simp at hp; omega), ih.2 c (by simp at hp; omega)]
    | agg cs => simp only [PV.ren, ih.2 cs (by simp at hp; omega)]
    | tup cs => simp only [PV.ren, ih.2 cs (by simp at hp; omega)]
    | when b q => simp only [PV.ren, ih.1 q (by simp at hp; omega)]
    | _ => simp only [PV.ren]
  · cases ps with
    | nil => rfl
    | cons p ps => simp only [PV.rens, ih.1 p (by simp at hp; omega), ih.2 ps (by simp at hp; omega)]
theorem PV.ren_id' {f : Nat → Nat} (hf : ∀ b, f b = b) (p : PV) : PV.ren f p = p := (PV.renid_aux f hf _).1 p (Nat.le_refl _)
theorem PV.rens_id' {f : Nat → Nat} (hf : ∀ b, f b = b) (ps : List PV) : PV.rens f ps = ps := (PV.renid_aux f hf _).2 ps (Nat.le_refl _)
theorem setAll_range : ∀ (n k : Nat) (mem new : List (List PV)), mem.length = k + n → new.length = n → setAll mem (List.range' k n) new = mem.take k ++ new
 | 0, k, mem, new, h, h2 => by
  have : new = [] := List.eq_nil_of_length_eq_zero h2
  subst this
  cases mem with
  | nil => simp [setAll]
  | cons c r => simp only [List.range'_zero, setAll, List.append_nil]; rw [List.take_of_length_le (by omega)]
 | n + 1, k, mem, c :: new, h, h2 => by
  rw [List.range'_succ, setAll, setAll_range n (k + 1) (mem.set k c) new (by simp; omega) (by simpa using h2)]
  rw [List.take_add_one, List.getElem?_set_self (by omega), List.take_set_of_le (Nat.le_refl k)]
  simp
 | n + 1, k, mem, [], h, h2 => by cases h2
def cms (ops : List Oper) (n i : Nat) (sl : List (Nat × PV)) : Option (Nat × FuncId × List PV) := opK ops i fun o => dstK n o fun t => match o.guard with
 | some _ => none
 | none => match o.op with
  | .call c => match c.callee with
   | .value fx => evsK sl c.args.toList fun ps => match evl sl fx with
    | .fn (.func f) a b => appK a ps fun ap => appK ap b fun all => copiesK all fun all => some (t, f, all)
    | .d (.fn (.func f) a b) => appK (a.map .d) ps fun ap => appK ap (b.map .d) fun all => copiesK all fun all => some (t, f, all)
    | _ => none
   | _ => none
  | _ => none
theorem gM {K : Ctx} {fr : List Fr} {ops : Array Oper} {Q : Exit → GS → Prop} {i t : Nat} {l : List Nat} {sl : List (Nat × PV)} {mem mem' : List (List PV)} {f : FuncId} {args : List PV} {r : PV} (h : cms ops.toList K.n i sl = some (t, f, args)) (hc : Gm K.P f args mem r mem')
 (hra : PV.refsBs mem.length args = true) (hrm : mem.all (PV.refsBs mem.length) = true) (hle : mem.length ≤ mem'.length) (hg : GF K fr (.ops ops l) Q ⟨(t, r) :: sl, mem'⟩) : GF K fr (.ops ops (i :: l)) Q ⟨sl, mem⟩ := by
 refine toO ?_
 have hg := ofO hg
 obtain ⟨o, ho1, h1⟩ := opK_of h
 obtain ⟨t', hdt, ht, h2⟩ := dstK_of h1
 clear h h1
 have hoi : ops[i]? = some o := by rw [nth_eq] at ho1; rw [← ho1]; simp
 split at h2
 · cases h2
 · rename_i hgd
   split at h2
   · rename_i c hop
     split at h2
     · rename_i fx hcal
       rw [evsK_eq] at h2
       have hs1 : ∀ b, b < mem.length → (List.range mem.length).getD b 0 = b := fun b hb => by rw [List.getD_eq_getElem?_getD, List.getElem?_range hb]; rfl
       have hs2 : ∀ b, renN (List.range mem.length) mem.length b = b := fun b => by
        unfold renN
        rw [List.length_range]
        split
        · exact hs1 b (by assumption)
        · omega
       obtain ⟨ca, ar, tys⟩ := c
       dsimp only at hcal h2
       subst hcal
       have key : ∀ (a b : List PV), (GS.ev ⟨sl, mem⟩ fx).callee' = some (f, a, b) → PV.copies (a ++ ar.toList.map (evl sl) ++ b) = args → t' = t → GOps K ops (unf K Q fr) (i :: l) ⟨sl, mem⟩ := by
        intro a b hfx hall htt
        subst htt
        obtain ⟨⟨fn, hf, hb, hn⟩, hp⟩ := hc
        refine GOps_callmn (xs := ar.toList) (List.range mem.length) args mem hoi (by simpa using hop) hdt hgd hfx ?_ List.nodup_range (fun b hb => by simpa using hb) ?_ (by rw [List.length_range]; exact hra) (by rw [List.length_range]; exact hrm) hf hb hn ht hp (fun r' m' hr => ?_)
        · rw [PV.rens_same hs1 hra, ← hall]
          congr 3
          exact List.map_congr_left fun x _ => (evl_eq' sl mem x).symm
        · apply List.ext_getElem?
          intro j
          by_cases hj : j < mem.length
          · rw [List.getElem?_map, List.getElem?_range hj, Option.map_some, List.getElem?_map, gE hj, Option.map_some, PV.rens_same hs1 (List.all_eq_true.1 hrm _ (List.getElem_mem hj)), List.getD_eq_getElem?_getD, gE hj]
            rfl
          · rw [List.getElem?_eq_none (by simp; omega), List.getElem?_eq_none (by simp; omega)]
        · obtain ⟨rfl, rfl⟩ := hr
          have e1 : PV.ren (renN (List.range mem.length) mem.length) r' = r' := PV.ren_id' hs2 r'
          have e2 : ∀ ms : List (List PV), ms.map (PV.rens (renN (List.range mem.length) mem.length)) = ms := fun ms => by
           rw [show PV.rens (renN (List.range mem.length) mem.length) = id from funext fun ps => PV.rens_id' hs2 ps, List.map_id]
          dsimp only
          rw [e1, e2, e2, List.length_range]
          rw [show setAll mem (List.range mem.length) (m'.take mem.length) = m'.take mem.length from by
           have := setAll_range mem.length 0 mem (m'.take mem.length) (by omega) (by simp; omega)
           rw [← List.range_eq_range'] at this
           simpa using this]
          rw [List.take_append_drop]
          exact hg
       split at h2
       · rename_i f' a b hfx
         rw [appK_eq, appK_eq, copiesK_eq] at h2
         injection h2 with h2; injection h2 with e1 h2; injection h2 with e2 e3
         subst e2
         rw [evl_eq' sl mem] at hfx
         exact key a b (by rw [hfx]; rfl) e3 e1
       · rename_i f' a b hfx
         rw [appK_eq, appK_eq, copiesK_eq] at h2
         injection h2 with h2; injection h2 with e1 h2; injection h2 with e2 e3
         subst e2
         rw [evl_eq' sl mem] at hfx
         exact key _ _ (by rw [hfx]; rfl) e3 e1
       · cases h2
     · cases h2
   · cases h2
theorem gmB {P : Program} {f : FuncId} {fn : Func} {c : Code} {args : List PV} {mem mem' : List (List PV)} {r : PV} {n : Nat} {rvs : List ResultVar} {slots : List (Nat × PV)} (k : Nat) (hf : P.funcs[f]? = some fn) (hn : fn.ntmps = n) (hres : fn.results = rvs.toArray)
 (h : ∀ S0 O0 w0 m0, m0.length = k → GF ⟨P, n, S0, O0, w0, m0, [], []⟩ [] (.code c) (Fin P rvs k (fun q m => q = r ∧ m = mem')) ⟨slots, mem⟩)
 (hb : fn.body = some c := by rfl) (hnm : (fn.name == "runtime.NumGoroutine") = false := by rfl) (hal : args.length ≤ n := by exact oR rfl) (hsl : (List.range args.length).zip args = slots := by rfl) (hk : mem.length = k := by rfl) : Gm P f args mem r mem' :=
 gm_body k slots hf hn hres h hb hnm hal hsl hk
end
end Go.Proofs.YtklkbfpjimeaoaaGreat.E
