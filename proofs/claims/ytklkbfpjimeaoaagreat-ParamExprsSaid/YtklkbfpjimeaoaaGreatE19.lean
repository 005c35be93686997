/- THE ENGINE, part 19: rows of one's own (slices whose elements are written); calls that hand new blocks back; fields of a value. Conditions: none; generic in the program. -/
import Derived.Test.YtklkbfpjimeaoaaGreatE18
namespace Go.Proofs.YtklkbfpjimeaoaaGreat.E
open Go

theorem flat_noowns : ∀ xs : List D, PV.noowns (flat xs) = true
  | [] => rfl
  | x :: xs => by
    have hap : ∀ (ds : List D) (ps : List PV), PV.noowns ps = true → PV.noowns (ds.map PV.d ++ ps) = true := by
      intro ds ps hps
      induction ds with
      | nil => simpa using hps
      | cons d ds ih => simp [PV.noowns, PV.noown, ih]
    rw [flat_cons]; exact hap _ _ (flat_noowns xs)

theorem flat_inv {k : Nat} : ∀ (xs : List D), (∀ x ∈ xs, x.cells.length = k) → ∀ (q : Nat) p, (flat xs)[q]? = some p → ∃ i j x y, xs[i]? = some x ∧ x.cells[j]? = some y ∧ q = i * k + j ∧ p = .d y
  | [], _, q, p, h => by simp [flat] at h
  | x :: xs, hk, q, p, h => by
    have hx : x.cells.length = k := hk x (by simp)
    rw [flat_cons] at h
    by_cases hq : q < x.cells.length
    · rw [List.getElem?_append_left (by simpa using hq), List.getElem?_map, List.getElem?_eq_getElem hq] at h
      simp only [Option.map_some, Option.some.injEq] at h
      exact ⟨0, q, x, _, rfl, List.getElem?_eq_getElem hq, by omega, h.symm⟩
    · rw [List.getElem?_append_right (by simpa using Nat.le_of_not_lt hq), List.length_map] at h
      obtain ⟨i, j, y, z, h1, h2, h3, h4⟩ := flat_inv xs (fun y hy => hk y (by simp [hy])) _ p h
      exact ⟨i + 1, j, y, z, by simpa using h1, h2, by rw [Nat.add_mul]; omega, h4⟩

theorem flat_part {k : Nat} : ∀ (xs : List D), (∀ x ∈ xs, x.cells.length = k) → ∀ (i : Nat) x, xs[i]? = some x → ((flat xs).drop (i * k)).take k = x.cells.map PV.d
  | [], _, i, x, h => by simp at h
  | z :: xs, hk, i, x, h => by
    have hz : z.cells.length = k := hk z (by simp)
    rw [flat_cons]
    cases i with
    | zero => simp at h; subst h; rw [Nat.zero_mul, List.drop_zero, List.take_left' (by simpa using hz)]
    | succ i =>
      rw [List.drop_append, List.drop_eq_nil_of_le (by rw [List.length_map, hz, Nat.add_mul]; omega), List.nil_append, List.length_map, hz, show (i + 1) * k - k = i * k by rw [Nat.add_mul]; omega]
      exact flat_part xs (fun y hy => hk y (by simp [hy])) i x (by simpa using h)

theorem flat_set {k : Nat} (y : D) (hy : y.cells.length = k) : ∀ (xs : List D), (∀ x ∈ xs, x.cells.length = k) → ∀ (i : Nat), i < xs.length → splice (flat xs) (i * k) (y.cells.map PV.d) = flat (xs.set i y)
  | [], _, i, h => by simp at h
  | z :: xs, hk, i, h => by
    have hz : z.cells.length = k := hk z (by simp)
    cases i with
    | zero =>
      rw [List.set_cons_zero, flat_cons, flat_cons]
      unfold splice
      rw [Nat.zero_mul, List.take_zero, List.nil_append, Nat.zero_add, List.length_map, hy, ← hz, show z.cells.length = (z.cells.map PV.d).length by simp, List.drop_left]
    | succ i =>
      rw [List.set_cons_succ, flat_cons, flat_cons, ← flat_set y hy xs (fun y hy => hk y (by simp [hy])) i (by simpa using h)]
      unfold splice
      have h1 : (i + 1) * k = (z.cells.map PV.d).length + i * k := by rw [List.length_map, hz, Nat.add_mul]; omega
      rw [h1, List.take_length_add_append, Nat.add_assoc, List.drop_length_add_append]
      simp [List.append_assoc]

/-- A new object, that nobody names. -/
theorem Rep.allocd {K : Ctx} {S : Reg} {O : Owns} {m : List Nat} {s : GS} {a : Act} {w : World} (h : Rep K S O m s a w) (o : Obj) : Rep K S O m s a (w.alloc o) := by
  have he := h.env
  have hE : Ext S w (w.alloc o) := ext_alloc S w o he.slt
  have hsz : K.w0.heap.size ≤ w.heap.size := he.ext.size
  refine ⟨⟨he.ext.trans hE he.s0, fun b hb hO => ?_, fun b l t q hb hO hlt => ?_, he.s0, he.snew, he.sown, fun b o' hS => ?_, fun b l t hO => ?_, he.onew, he.mlen, fun i cs r hi hr hne => ?_⟩, h.defers, h.size, h.pre, fun i p hp => (h.slots i p hp).ext hE (fun _ _ h => h) (fun _ _ _ h => h) (fun _ _ h => h)⟩
  · rw [heap_alloc_old' _ _ _ (by omega)]; exact he.old b hb hO
  · rw [World.cell?_alloc_lt w _ ⟨b, q, none⟩ (show b < w.heap.size by omega)]; exact he.part b l t q hb hO hlt
  · have := he.slt b o' hS; simp; omega
  · have := he.olt b l t hO; simp; omega
  · obtain ⟨g1, g2⟩ := he.mem i cs r hi hr hne
    exact ⟨g1, g2.frame (heap_alloc_old' _ _ _ (he.olt _ _ _ g1)) hE (fun _ _ h => h) (fun _ _ _ _ h => h) (fun _ _ h => h)⟩

/-- A block that is none. -/
theorem Rep.dummy {K : Ctx} {S : Reg} {O : Owns} {m : List Nat} {s : GS} {a : Act} {w : World} (h : Rep K S O m s a w) : Rep K S O (m ++ [0]) ⟨s.slots, s.mem ++ [[]]⟩ a w := by
  have he := h.env
  have hmm : ∀ (b r : Nat), m[b]? = some r → (m ++ [0])[b]? = some r := fun b r hb => by rw [List.getElem?_append_left (List.getElem?_eq_some_iff.1 hb).1]; exact hb
  refine ⟨⟨he.ext, he.old, he.part, he.s0, he.snew, he.sown, he.slt, he.olt, he.onew, by simp [he.mlen], fun i cs r hi hr hne => ?_⟩, h.defers, h.size, h.pre.trans (List.prefix_append _ _), fun i p hp => (h.slots i p hp).ext (Ext.refl S w) (fun _ _ h => h) (fun _ _ _ h => h) hmm⟩
  have hlt : i < s.mem.length := by
    have h1 := (List.getElem?_eq_some_iff.1 hi).1
    simp only [List.length_append, List.length_cons, List.length_nil] at h1
    refine Classical.byContradiction fun h2 => hne ?_
    have : i = s.mem.length := by omega
    subst this
    rw [List.getElem?_append_right (Nat.le_refl _)] at hi
    simpa using hi.symm
  rw [List.getElem?_append_left hlt] at hi
  rw [List.getElem?_append_left (by rw [he.mlen]; exact hlt)] at hr
  obtain ⟨g1, g2⟩ := he.mem i cs r hi hr hne
  exact ⟨g1, g2.frame rfl (Ext.refl S w) (fun _ _ h => h) (fun _ _ _ _ h => h) hmm⟩

/-- A nil slice is an empty row. -/
theorem Le_nilrow {K : Ctx} {s : GS} (t k : Nat) (hs : s.get t = some .nils) : Le K s ⟨[(t, .rsl s.mem.length 0 0 k)], s.mem ++ [[]]⟩ := by
  rintro a w ⟨S, O, m, h⟩
  have hd := h.dummy
  refine ⟨S, O, _, hd.env, hd.defers, hd.size, hd.pre, fun i p hp => ?_⟩
  have hp' : (if i = t then some (PV.rsl s.mem.length 0 0 k) else none) = some p := by
    by_cases hi : i = t
    · subst hi; rw [if_pos rfl]; simpa [GS.get, List.lookup] using hp
    · have : (i == t) = false := by simpa using hi
      simp [GS.get, List.lookup, this] at hp
  by_cases hi : i = t
  · rw [if_pos hi] at hp'
    injection hp' with hp'
    subst hp'; subst hi
    have := h.slots i _ hs
    generalize a.tmps.getD i undef = v at this
    cases this with
    | nils => exact .rsl _ _ _ _ _ none 0 (Nat.le_refl _) (by simp [lim]) (fun _ => rfl) (fun h => absurd rfl h)
  · rw [if_neg hi] at hp'; cases hp'

theorem Y_buildSlice0 {K : Ctx} {s : GS} {t : Nat} {ty e rt : TypeId} {parts : Array (Nat × Operand)} {pos : String} {af : Array Edge} {g : Option (Nat × Bool)} {z : Value} {k by_ : Nat}
    (hu : K.P.underlying ty = some (.slice e)) (hinf : (K.P.info? e).map (fun i => (i.zero, i.size, i.bytes)) = some (some z, k, by_)) (hp : parts = #[]) (ht : t < K.n) :
    Yld K ⟨some t, .buildSlice ty 0 parts, rt, pos, af, g⟩ s (s.set t (.rsl 0 0 0 k)) := by
  subst hp
  rintro a w ⟨S, O, m, h⟩
  obtain ⟨inf, hin⟩ : ∃ inf, K.P.info? e = some inf := by
    cases hq : K.P.info? e with
    | none => simp [hq] at hinf
    | some i => exact ⟨i, rfl⟩
  have hrun : (Instr.buildSlice ty 0 #[]).run K.P w = .ok (.slice (some ⟨w.heap.size, 0, none⟩) 0 0) (w.alloc (.cells #[] e)) := by
    unfold Instr.buildSlice
    simp [run_underlying hu, sizeOf, typeInfo, hin, newRow, World.alloc_eq, Instr.fill]
    have : Array.map (fun _ => (default : Value)) (Array.range 0) = #[] := by simp [Array.range]
    first | rw [this] | (congr 1)
  refine ⟨.slice (some ⟨w.heap.size, 0, none⟩) 0 0, w.alloc (.cells #[] e), ?_, S, O, m, ?_⟩
  · simp only [execOp]; simp [hrun]
  · exact (h.allocd (.cells #[] e)).put ht (.rsl _ _ _ _ _ _ 0 (Nat.le_refl _) (by simp [lim]) (fun _ => rfl) (fun h => absurd rfl h))

theorem zeroCells_one {z : Array Value} {n : Nat} (h : z.all (·.oneCell') = true) (v : Value) (hv : v ∈ Builtin.zeroCells z n) : v.oneCell' = true := by
  unfold Builtin.zeroCells at hv
  have hz := Array.all_eq_true_iff_forall_mem.1 h
  rw [Array.mem_map] at hv
  obtain ⟨i, hi, rfl⟩ := hv
  have hpos : 0 < z.size := by
    rw [Array.mem_range] at hi
    rcases Nat.eq_zero_or_pos z.size with h0 | h0
    · rw [h0, Nat.mul_zero] at hi; omega
    · exact h0
  have hlt : i % z.size < z.size := Nat.mod_lt _ hpos
  rw [getElem!_pos z _ hlt]
  exact hz _ (Array.getElem_mem hlt)

/-- 'append' onto an empty list without room: a new row. -/
theorem Y_appendN {K : Ctx} {s : GS} {t u b o : Nat} {y : Operand} {ty e rt : TypeId} {pos : String} {af : Array Edge} {g : Option (Nat × Bool)} {k by_ : Nat} {ys : List D} {z : Value}
    (hu : s.get u = some (.rsl b o 0 k)) (hy : (s.ev y).list? = some ys) (hk : ∀ y ∈ ys, y.cells.length = k) (hk0 : 0 < k)
    (hun : K.P.underlying ty = some (.slice e)) (hinf : (K.P.info? e).map (fun i => (i.zero, i.size, i.bytes)) = some (some z, k, by_)) (hzs : z.cells.size = k) (hz1 : z.cells.all (·.oneCell') = true)
    (hlen : ys.length ≤ lim) (hB : ys.length * by_ ≤ lim) (ht : t < K.n) :
    Yld K ⟨some t, .call ⟨.builtin .append, #[.tmp u, y], #[ty, ty]⟩, rt, pos, af, g⟩ s ⟨(t, .rsl s.mem.length 0 ys.length k) :: s.slots, s.mem ++ [flat ys]⟩ := by
  rintro a w ⟨S, O, m, h⟩
  have hru := h.slots u _ hu
  have hry := h.evl hy
  obtain ⟨inf, hin, hiz, his, hib⟩ : ∃ inf, K.P.info? e = some inf ∧ inf.zero = some z ∧ inf.size = k ∧ inf.bytes = by_ := by
    cases hq : K.P.info? e with
    | none => simp [hq] at hinf
    | some i => simp [hq] at hinf; exact ⟨i, rfl, hinf.1, hinf.2.1, hinf.2.2⟩
  obtain ⟨ab, hvu⟩ : ∃ ab, a.eval (.tmp u) = .slice ab 0 0 := by
    show ∃ ab, a.tmps.getD u undef = .slice ab 0 0
    generalize a.tmps.getD u undef = v at hru
    cases hru with | rsl _ _ _ _ _ ab cap _ _ h0 _ => exact ⟨ab, by rw [h0 rfl]⟩
  have hrun0 : ∀ v w', (Builtin.append_ #[ty, ty] rt #[a.eval (.tmp u), a.eval y]).run K.P w = .ok v w' → (execOp a.eval ⟨some t, .call ⟨.builtin .append, #[.tmp u, y], #[ty, ty]⟩, rt, pos, af, g⟩).run K.P w = .ok (.value v) w' := by
    intro v w' hr
    simp [execOp, resolve, invoke, builtin, hr]
  by_cases hne : ys = []
  · subst hne
    obtain ⟨ay, capy, hvy⟩ : ∃ ay capy, a.eval y = .slice ay 0 capy := by
      generalize a.eval y = vy at hry
      cases hry with | sl _ ay capy _ _ _ _ _ _ _ => exact ⟨ay, capy, rfl⟩
    have hcells : (Builtin.firstCells inf.size 0 (.slice ay 0 capy)).run K.P w = .ok #[] w := by
      cases ay with
      | none => simp [Builtin.firstCells]
      | some b => simp [Builtin.firstCells, loadCells, loadCellsFrom]
    have hrun : (Builtin.append_ #[ty, ty] rt #[.slice ab 0 0, .slice ay 0 capy]).run K.P w = .ok (.slice ab 0 0) w := by
      cases ab <;> simp [Builtin.append_, run_underlying hun, sizeOf, typeInfo, hin, Builtin.lenOf, hcells, storeCells]
    have hd := h.dummy
    refine ⟨.slice ab 0 0, w, hrun0 _ _ (by rw [hvu, hvy]; exact hrun), S, O, m ++ [0], ?_⟩
    exact hd.put ht (.rsl _ _ _ _ _ _ 0 (Nat.le_refl _) (by simp [lim]) (fun _ => rfl) (fun h => absurd rfl h))
  · have hyslen : 0 < ys.length := List.length_pos_iff.2 hne
    have hlimv : lim = 140737488355328 := rfl
    obtain ⟨ay, capy, hvy⟩ : ∃ ay capy, a.eval y = .slice (some ay) ys.length capy := by
      generalize a.eval y = vy at hry
      cases hry with
      | sl _ ay capy _ _ _ _ hn _ _ =>
        cases ay with
        | none => exact absurd (hn rfl) hne
        | some ay => exact ⟨ay, capy, rfl⟩
    rw [hvy] at hry
    obtain ⟨news, hnl, hnews, hnrd⟩ := hry.news hk
    have hrun : (Builtin.append_ #[ty, ty] rt #[.slice ab 0 0, .slice (some ay) ys.length capy]).run K.P w =
        .ok (.slice (some ⟨w.heap.size, 0, none⟩) ys.length (grownCap w ys.length 0 e)) (w.drew.alloc (.cells (news.toArray ++ Builtin.zeroCells z.cells (grownCap w ys.length 0 e - ys.length)) e)) := by
      cases ab with
      | none => exact run_append_nil (P := K.P) w ty rt e inf z hun hin hiz ay ys.length capy news (by rw [his]; exact hnl) (fun j v hj => (hnews j v hj).1) hyslen (by omega) (by rw [hib]; omega)
      | some ad =>
        have := run_append_grow (P := K.P) w ty rt e inf z hun hin hiz ad 0 0 [] (by simp) (by simp) ay ys.length capy news (by rw [his]; exact hnl) (fun j v hj => (hnews j v hj).1) (by omega) (by omega) (growslice_fits (by omega) (by rw [hib, Nat.zero_add]; omega))
        simpa using this
    have hge := grownCap_ge w ys.length 0 e
    generalize grownCap w ys.length 0 e = cp at hge hrun
    have hd := h.drew
    have hfl := flat_length ys hk
    have henv := hd.env.alloc (news.toArray ++ Builtin.zeroCells z.cells (cp - ys.length)) e (flat ys) (by rw [hfl]; simp [hnl]) (fun j v hj => by
        by_cases hjn : j < news.length
        · rw [Array.getElem?_append_left (by simpa using hjn)] at hj
          exact (hnews j v (by simpa using hj)).2
        · rw [Array.getElem?_append_right (by simpa using Nat.le_of_not_lt hjn)] at hj
          exact zeroCells_one hz1 v (Array.mem_of_getElem? hj)) (fun q p v hp hv => by
        obtain ⟨i, j, x, y', h1, h2, rfl, rfl⟩ := flat_inv ys hk q p hp
        refine ⟨O, [], fun _ _ => rfl, ?_⟩
        have hq := (List.getElem?_eq_some_iff.1 hp).1
        rw [hfl, ← hnl] at hq
        rw [Array.getElem?_append_left (by simpa using hq)] at hv
        exact .d _ _ _ ((hnrd i x j y' v h1 h2 (by simpa using hv)).ext (ext_drew S w) (fun _ _ h => h))) (PV.copies_eq (flat_noowns ys))
    refine ⟨_, _, hrun0 _ _ (by rw [hvu, hvy]; exact hrun), S, _, _, henv, h.defers, by simp [Act.put, h.size], h.pre.trans (List.prefix_append _ _), fun i p hi => ?_⟩
    have hE : Ext S w (w.drew.alloc (.cells (news.toArray ++ Builtin.zeroCells z.cells (cp - ys.length)) e)) := (ext_drew S w).trans (ext_alloc S w.drew _ h.env.slt) (fun _ _ h => h)
    rw [getD_put _ _ _ _ (by rw [h.size]; exact ht)]
    have hi' : (s.set t (.rsl s.mem.length 0 ys.length k)).get i = some p := hi
    rw [GS.get_set] at hi'
    by_cases hit : i = t
    · rw [if_pos hit] at hi' ⊢; injection hi' with hi'; subst hi'
      exact .rsl _ _ _ _ _ _ _ hge hlen (fun h => by omega) (fun _ => ⟨w.heap.size, by rw [← h.env.mlen]; simp, rfl⟩)
    · rw [if_neg hit] at hi' ⊢
      exact (h.slots i p hi').ext hE (fun _ _ h => h) (fun b t q hb => by rw [if_neg (show b ≠ w.drew.heap.size from Nat.ne_of_lt (h.env.olt b _ t hb))]; exact hb) (fun b r hb => by
        rw [List.getElem?_append_left (List.getElem?_eq_some_iff.1 hb).1]; exact hb)

theorem Q_rowIndex {K : Ctx} {s : GS} {t k b off n : Nat} {x ix : Operand} {ty e rt : TypeId} {pos : String} {af : Array Edge} {g : Option (Nat × Bool)} {kk : IntKind} {i : Int}
    (hx : s.ev x = .rsl b off n k) (hi : s.ev ix = .d (.int kk i)) (h0 : 0 ≤ i) (h1 : i.toNat < n) (hu : K.P.underlying ty = some (.slice e)) (hz : (K.P.info? e).map (·.size) = some k) (ht : t < K.n) :
    Qy K ⟨some t, .indexAddr ty x ix, rt, pos, af, g⟩ s t (.ref b (off + i.toNat * k)) := by
  refine fun S O m a w h => ?_
  obtain ⟨l, hr⟩ := h.ev x
  rw [hx] at hr
  have hiv := rd_int (h.evd hi)
  generalize hv : a.eval x = v at hr
  cases hr with
  | rsl _ _ _ _ _ ad cap hc hl _ hh =>
    obtain ⟨r, h2, rfl⟩ := hh (by omega)
    refine ⟨.pointer (some ⟨r, off + i.toNat * k, none⟩), fun w' _ => ?_, .ref _ _ _ r h2⟩
    simp only [execOp, hv, hiv]
    have := run_indexAt_slice (len := n) (cap := cap) (k := kk) hu hz h0 (by omega) w' ⟨r, off, none⟩
    rw [add_at] at this
    simp [this]

theorem Q_rowLen {K : Ctx} {s : GS} {t b off n k : Nat} {x : Operand} {ty e rt : TypeId} {pos : String} {af : Array Edge} {g : Option (Nat × Bool)}
    (hx : s.ev x = .rsl b off n k) (hu : K.P.underlying ty = some (.slice e)) (ht : t < K.n) :
    Qy K ⟨some t, .call ⟨.builtin .len, #[x], #[ty]⟩, rt, pos, af, g⟩ s t (.d (.int .i64 (n : Int))) := by
  refine fun S O m a w h => ?_
  obtain ⟨l, hr⟩ := h.ev x
  rw [hx] at hr
  generalize hv : a.eval x = v at hr
  cases hr with
  | rsl _ _ _ _ _ ad cap hc hl _ hh =>
    refine ⟨.int .i64 (n : Int), fun w _ => ?_, .d _ _ _ (.int _ _)⟩
    simp [execOp, resolve, invoke, builtin, hv, Builtin.len_, run_underlying hu, goInt]

theorem mkAgg_d (ds : List D) : mkAgg (ds.map PV.d) = .d (.agg ds) := by unfold mkAgg; rw [List.map_toDs]

theorem flat_plain {xs : List D} (h : flat xs ≠ []) : plainB (flat xs) = true := by
  match hf : flat xs, h with
  | [], h => exact absurd rfl h
  | [p], _ =>
    have hm : p ∈ flat xs := by rw [hf]; simp
    obtain ⟨x, _, hx⟩ := List.mem_flatMap.1 hm
    obtain ⟨d, _, rfl⟩ := List.mem_map.1 hx
    rfl
  | p :: q :: r, _ => cases p <;> rfl

theorem Q_rowLoad {K : Ctx} {s : GS} {t b o i k : Nat} {x : Operand} {ty rt : TypeId} {pos : String} {af : Array Edge} {g : Option (Nat × Bool)} {xs ds : List D} {d : TypeDesc}
    (hx : s.ev x = .ref b o) (hm : s.mem[b]? = some (flat xs)) (ho : o = i * k) (hi : xs[i]? = some (.agg ds)) (hk : ∀ x ∈ xs, x.cells.length = k) (hk0 : 0 < k) (hz : (K.P.info? ty).map (·.size) = some k) (hu : K.P.underlying ty = some d) (hl : leafT d = false)
    (hB : K.Bs.contains b = false) (ht : t < K.n) : Qy K ⟨some t, .load ty x, rt, pos, af, g⟩ s t (.d (.agg ds)) := by
  subst ho
  have hlt := (List.getElem?_eq_some_iff.1 hi).1
  have := Q_load_agg (t := t) (rt := rt) (pos := pos) (af := af) (g := g) hx hm hz hu hl (by rw [flat_length xs hk, ← Nat.succ_mul]; exact Nat.mul_le_mul_right _ hlt) hB (flat_plain (by intro hfe; have := congrArg List.length hfe; rw [flat_length xs hk, List.length_nil] at this; have := Nat.mul_pos (Nat.lt_of_le_of_lt (Nat.zero_le _) hlt) hk0; omega)) ht
  rw [flat_part xs hk i _ hi] at this
  simp only [D.cells] at this
  rw [mkAgg_d] at this
  exact this

theorem D_rowStore {K : Ctx} {s : GS} {x y : Operand} {ty rt : TypeId} {pos : String} {af : Array Edge} {g : Option (Nat × Bool)} {b o i k : Nat} {xs : List D} {d : D}
    (hx : s.ev x = .ref b o) (hm : s.mem[b]? = some (flat xs)) (ho : o = i * k) (hi : i < xs.length) (hk : ∀ x ∈ xs, x.cells.length = k) (hk0 : 0 < k) (hy : s.ev y = .d d) (hd : d.cells.length = k) (hz : (K.P.info? ty).map (·.size) = some k) :
    Does K ⟨none, .store ty x y, rt, pos, af, g⟩ s ⟨s.slots, s.mem.set b (flat (xs.set i d))⟩ := by
  subst ho
  have hfl := flat_length xs hk
  have hle : i * k + k ≤ xs.length * k := by rw [← Nat.succ_mul]; exact Nat.mul_le_mul_right _ hi
  have hce : (PV.d d).cellsOf = d.cells.map PV.d := by cases d <;> rfl
  have := D_store (pos := pos) (af := af) (g := g) (rt := rt) hx hm hy rfl rfl hce hz (by rw [List.length_map, hd]) (by rw [hfl]; exact hle) (flat_plain (by intro hfe; have := congrArg List.length hfe; rw [hfl, List.length_nil] at this; omega))
  rw [flat_set d hd xs hk i hi] at this
  exact this

theorem Y_rowLoad {K : Ctx} {s : GS} {t b o i k : Nat} {x : Operand} {ty rt : TypeId} {pos : String} {af : Array Edge} {g : Option (Nat × Bool)} {xs ds : List D} {d : TypeDesc}
    (hx : s.ev x = .ref b o) (hm : s.mem[b]? = some (flat xs)) (ho : o = i * k) (hi : xs[i]? = some (.agg ds)) (hk : ∀ x ∈ xs, x.cells.length = k) (hk0 : 0 < k) (hz : (K.P.info? ty).map (·.size) = some k) (hu : K.P.underlying ty = some d) (hl : leafT d = false)
    (ht : t < K.n) : Yld K ⟨some t, .load ty x, rt, pos, af, g⟩ s (s.set t (.d (.agg ds))) := Yld_bs (Yld_pure rfl ht (Q_rowLoad hx hm ho hi hk hk0 hz hu hl rfl ht))

/-- A field of a value. -/
theorem Q_field {K : Ctx} {s : GS} {t : Nat} {x : Operand} {st rt : TypeId} {f : Nat} {pos : String} {af : Array Edge} {g : Option (Nat × Bool)} {fs : Array Field} {fl : Field} {ds : List D} {d : D} {td : TypeDesc}
    (hx : s.ev x = .d (.agg ds)) (hu : K.P.underlying st = some (.struct fs)) (hf : fs[f]? = some fl) (htd : K.P.underlying fl.type = some td) (hl : leafT td = true) (hd : ds[fl.offset]? = some d) (ht : t < K.n) :
    Qy K ⟨some t, .field st x f, rt, pos, af, g⟩ s t (.d d) := by
  refine fun S O m a w h => ?_
  have hr := h.evd hx
  generalize hv : a.eval x = v at hr
  cases hr with
  | agg _ vs hsz ho hh =>
    have hlt : fl.offset < vs.size := by rw [hsz]; exact (List.getElem?_eq_some_iff.1 hd).1
    refine ⟨vs[fl.offset], fun w' _ => ?_, .d _ _ _ (hh _ _ _ hd (Array.getElem?_eq_getElem hlt))⟩
    simp only [execOp, hv]
    simp [Instr.field, run_underlying hu, hf, asAgg, part, run_isAgg htd, hl, Array.getElem?_eq_getElem hlt]

theorem rens_flat (f : Nat → Nat) : ∀ xs : List D, PV.rens f (flat xs) = flat xs
  | [] => rfl
  | x :: xs => by
    have hap : ∀ (ds : List D) (ps qs : List PV), PV.rens f ps = qs → PV.rens f (ds.map PV.d ++ ps) = ds.map PV.d ++ qs := by
      intro ds ps qs hps
      induction ds with
      | nil => simpa using hps
      | cons d ds ih => simp [PV.rens, PV.ren, ih]
    rw [flat_cons]; exact hap _ _ _ (rens_flat f xs)

/-- The state behind a call that hands new blocks back. -/
theorem Rep.aftern {K : Ctx} {S : Reg} {O : Owns} {m : List Nat} {s : GS} {a : Act} {w w' : World} (h : Rep K S O m s a w) {S' : Reg} {O' : Owns} {m' : List Nat} {mem' : List (List PV)} (he : Env S noOwns w S' O' m' mem' w')
    {t : Nat} (ht : t < K.n) {r : PV} {v : Value} (hr : RP w' S' O' m' [2] r v) :
    At K (GS.set ⟨s.slots, s.mem ++ mem'.map (PV.rens (fun b => b + s.mem.length))⟩ t (r.ren (fun b => b + s.mem.length))) (a.put (some t) v) w' := by
  have hml := h.env.mlen
  let O'' : Owns := fun b => if b < w.heap.size then O b else reo O' (bwd (fun b => b + s.mem.length) t) b
  have hO1 : ∀ b, b < w.heap.size → O'' b = O b := fun b hb => if_pos hb
  have hO2 : ∀ b, ¬ b < w.heap.size → O'' b = reo O' (bwd (fun b => b + s.mem.length) t) b := fun b hb => if_neg hb
  have hE := he.ext
  have hold : ∀ b, b < w.heap.size → w'.heap[b]? = w.heap[b]? := fun b hb => he.old b hb rfl
  have hk : ∀ (b : Nat) l t', O b = some (l, t') → O'' b = some (l, t') := fun b l t' hb => by rw [hO1 b (h.env.olt b l t' hb)]; exact hb
  have hnb : ∀ (b : Nat) l t', O' b = some (l, t') → ¬ b < w.heap.size := fun b l t' hb => by
    rcases he.onew b _ t' hb with h1 | ⟨_, _, h1, _⟩
    · omega
    · cases h1
  have hm1 : ∀ (b r : Nat), m[b]? = some r → (m ++ m')[b]? = some r := fun b r hb => by rw [List.getElem?_append_left (List.getElem?_eq_some_iff.1 hb).1]; exact hb
  have hm2 : ∀ (b r : Nat), m'[b]? = some r → (m ++ m')[b + s.mem.length]? = some r := fun b r hb => by rw [List.getElem?_append_right (by omega), hml, Nat.add_sub_cancel]; exact hb
  refine ⟨S', O'', m ++ m', ⟨⟨h.env.ext.trans hE h.env.s0, fun b hb hO => ?_, fun b l t' o hb hO hot => ?_, fun b o hb => he.s0 b o (h.env.s0 b o hb), fun b o hb => ?_, fun b o l t' hS hO => ?_, he.slt, fun b l t' hO => ?_, fun b l t' hO => ?_, by simp [GS.set, hml, he.mlen], fun i cs r' hi hr' hne => ?_⟩, h.defers, by simp [Act.put, h.size], h.pre.trans (List.prefix_append _ _), fun i p hp => ?_⟩⟩
  · rw [hold b (Nat.lt_of_lt_of_le hb h.env.ext.size)]; exact h.env.old b hb hO
  · have : w'.cell? ⟨b, o, none⟩ = w.cell? ⟨b, o, none⟩ := by simp only [World.cell?, hold b (Nat.lt_of_lt_of_le hb h.env.ext.size)]
    rw [this]; exact h.env.part b l t' o hb hO hot
  · rcases he.snew b o hb with h1 | h1 | ⟨_, _, h1, _⟩
    · exact h.env.snew b o h1
    · exact .inr (.inl (Nat.le_trans h.env.ext.size h1))
    · cases h1
  · by_cases hb : b < w.heap.size
    · rw [hO1 b hb] at hO
      rcases he.snew b o hS with h1 | h1 | ⟨_, _, h1, _⟩
      · exact h.env.sown b o l t' h1 hO
      · omega
      · cases h1
    · rw [hO2 b hb] at hO
      obtain ⟨l0, h1, _⟩ := reo_some hO
      exact he.sown b o l0 t' hS h1
  · by_cases hb : b < w.heap.size
    · exact Nat.lt_of_lt_of_le hb hE.size
    · rw [hO2 b hb] at hO; obtain ⟨l0, h1, _⟩ := reo_some hO; exact he.olt b l0 t' h1
  · by_cases hb : b < w.heap.size
    · rw [hO1 b hb] at hO; exact h.env.onew b l t' hO
    · exact .inl (Nat.le_trans h.env.ext.size (Nat.le_of_not_lt hb))
  · simp only [GS.set] at hi
    by_cases hin : i < s.mem.length
    · rw [List.getElem?_append_left hin] at hi
      rw [List.getElem?_append_left (by rw [hml]; exact hin)] at hr'
      obtain ⟨g1, g2⟩ := h.env.mem i cs r' hi hr' hne
      exact ⟨hk _ _ _ g1, g2.frame (hold _ (h.env.olt _ _ _ g1)) hE he.s0 (fun j b t' q hb => hk b _ t' hb) hm1⟩
    · have hge : s.mem.length ≤ i := Nat.le_of_not_lt hin
      rw [List.getElem?_append_right hge, List.getElem?_map] at hi
      rw [List.getElem?_append_right (by rw [hml]; exact hge), hml] at hr'
      cases hc : mem'[i - s.mem.length]? with
      | none => simp [hc] at hi
      | some cs0 =>
        simp only [hc, Option.map_some, Option.some.injEq] at hi; subst hi
        obtain ⟨g1, g2⟩ := he.mem _ cs0 r' hc hr' (by rintro rfl; exact hne rfl)
        have hii : i - s.mem.length + s.mem.length = i := by omega
        refine ⟨?_, g2.to rfl (Ext.refl _ _) (fun _ _ h => h) (by simp [PV.rens_map]) (fun j p hp => ?_) (fun kvs hc => .inl (by rw [hc]; rfl)) (fun hc => by rw [hc]; rfl)⟩
        · rw [hO2 r' (hnb r' _ _ g1), reo_of g1]
          have := bwd_blk (fun b => b + s.mem.length) t (i - s.mem.length) []
          simp only [List.nil_append, hii] at this; rw [this]
        · rw [PV.rens_get] at hp
          cases hq : cs0[j]? with
          | none => simp [hq] at hp
          | some q =>
            simp only [hq, Option.map_some, Option.some.injEq] at hp; subst hp
            refine ⟨q, rfl, fun u hu => (hu.ren (fun b => b + s.mem.length) hm2).frame [j, i, 1] (Ext.refl _ _) (fun _ _ h => h) (fun b t' q' hO => ?_) (fun _ _ h => h)⟩
            rw [hO2 b (hnb b _ _ hO), reo_of hO]
            have := bwd_blk (fun b => b + s.mem.length) t (i - s.mem.length) (q' ++ [j])
            simp only [hii, List.append_assoc, List.cons_append, List.nil_append] at this
            rw [this]
  · rw [getD_put _ _ _ _ (by rw [h.size]; exact ht)]
    rw [GS.get_set] at hp
    by_cases hi : i = t
    · rw [if_pos hi] at hp ⊢; injection hp with hp; subst hp; subst hi
      refine (hr.ren (fun b => b + s.mem.length) hm2).frame _ (Ext.refl _ _) (fun _ _ h => h) (fun b t' q hb => ?_) (fun _ _ h => h)
      rw [hO2 b (hnb b _ _ hb), reo_of hb, bwd_res]
    · rw [if_neg hi] at hp ⊢
      exact (h.slots i p hp).ext hE he.s0 (fun b t' q hb => hk b _ t' hb) hm1

/-- A call of a function on plain data, that hands new blocks back. -/
theorem GOps_calln {K : Ctx} {ops : Array Oper} {Q : Exit → GS → Prop} {s : GS} {i : Nat} {rest : List Nat} {o : Oper} {t : Nat} {fx : Operand} {xs : List Operand} {tys : Array TypeId} {f : FuncId} {fn : Func} {fa fc ds : List D}
    {R : PV → List (List PV) → Prop}
    (ho : ops[i]? = some o) (hop : o.op = .call ⟨.value fx, xs.toArray, tys⟩) (hd : o.dst = some t) (hg : o.guard = none)
    (hfx : (s.ev fx).callee = some (f, fa, fc)) (hxs : PV.toDs (xs.map s.ev) = some ds)
    (hf : K.P.funcs[f]? = some fn) (hb : fn.body.isSome = true) (hn : (fn.name == "runtime.NumGoroutine") = false) (ht : t < K.n)
    (hc : GCall K.P f ((fa ++ ds ++ fc).map .d) [] R) (h : ∀ r m, R r m → GOps K ops Q rest (GS.set ⟨s.slots, s.mem ++ m.map (PV.rens (fun b => b + s.mem.length))⟩ t (r.ren (fun b => b + s.mem.length)))) : GOps K ops Q (i :: rest) s := by
  rintro a w ⟨S, O, m, hr⟩
  obtain ⟨l, hrf⟩ := hr.ev fx
  obtain ⟨vf, vc, hvf, hs1, hs2, g1, g2⟩ := hrf.callee hfx
  obtain ⟨hlen, hrd⟩ := evs_rd hr xs hxs
  have hrun : (execOp a.eval o).run K.P w = .ok (.enter f (vf ++ (xs.map a.eval).toArray ++ vc)) w := by
    simp only [execOp, hop]
    simp [resolve, Deferred.ofValue, hvf, invoke, run_callFunc hf hb hn]
  simp only [wpOps, ho, Region.wanted, hg, if_true]
  refine .inl ?_
  simp only [Oper.wp, hrun, Oper.upon_enter]
  have hcall := hc w S noOwns [] (vf ++ (xs.map a.eval).toArray ++ vc) hr.env.entry (by simp [hs1, hs2, hlen]) (fun j p v hp hv => by
    rw [List.getElem?_map] at hp
    cases hj : (fa ++ ds ++ fc)[j]? with
    | none => rw [hj] at hp; cases hp
    | some d =>
      simp only [hj, Option.map_some, Option.some.injEq] at hp; subst hp
      refine .d _ _ _ ?_
      by_cases h1 : j < fa.length
      · rw [List.append_assoc, List.getElem?_append_left h1] at hj
        rw [Array.append_assoc, Array.getElem?_append_left (by omega)] at hv
        exact g1 j d v hj hv
      · by_cases h2 : j < fa.length + ds.length
        · rw [List.getElem?_append_left (by simp; omega), List.getElem?_append_right (by omega)] at hj
          rw [Array.getElem?_append_left (by simp; omega), Array.getElem?_append_right (by omega), hs1] at hv
          exact hrd _ d v hj (by simpa using hv)
        · rw [List.getElem?_append_right (by simp; omega)] at hj
          rw [Array.getElem?_append_right (by simp; omega)] at hv
          refine g2 _ d v hj ?_
          rw [← hv]; congr 1; simp; omega)
  refine Calls.mono hcall ?_
  rintro e w' ⟨v, r, mem', S', O', m', rfl, hR, henv, hm, hres⟩
  simp only
  rw [hd]
  exact h r mem' hR _ _ (hr.aftern henv ht hres)

end Go.Proofs.YtklkbfpjimeaoaaGreat.E
