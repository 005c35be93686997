/- THE ENGINE, part 17: regions whose order is open and that call, store or make. Conditions: none; generic in the program. -/
import Derived.Test.YtklkbfpjimeaoaaGreatE16
namespace Go.Proofs.YtklkbfpjimeaoaaGreat.E
open Go
theorem Env.trans {S0 : Reg} {O0 : Owns} {w0 : World} {S : Reg} {O : Owns} {m : List Nat} {mem : List (List PV)} {w : World} {S' : Reg} {O' : Owns} {m' : List Nat} {mem' : List (List PV)} {w' : World}
    (h : Env S0 O0 w0 S O m mem w) (h' : Env S O w S' O' m' mem' w') : Env S0 O0 w0 S' O' m' mem' w' where
  ext := h.ext.trans h'.ext h.s0
  old := fun b hb ho => by
    have hO : O b = none := by
      cases hq : O b with
      | none => rfl
      | some x =>
        obtain ⟨l, t⟩ := x
        rcases h.onew b l t hq with h1 | ⟨l0, t0, h1, _⟩
        · omega
        · rw [ho] at h1; cases h1
    rw [h'.old b (Nat.lt_of_lt_of_le hb h.ext.size) hO, h.old b hb ho]
  part := fun b l t o hb ho hlt => by
    have hb' := Nat.lt_of_lt_of_le hb h.ext.size
    rw [← h.part b l t o hb ho hlt]
    cases hq : O b with
    | none => exact World.cell?_of_block (w := w) (h'.old b hb' hq)
    | some x =>
      obtain ⟨l', t'⟩ := x
      rcases h.onew b l' t' hq with h1 | ⟨l0, t0, h1, h2⟩
      · omega
      · rw [ho] at h1; injection h1 with h1; injection h1 with h1 h1'; exact h'.part b l' t' o hb' hq (by omega)
  s0 := fun b o hs => h'.s0 b o (h.s0 b o hs)
  snew := fun b o hs => by
    rcases h'.snew b o hs with h1 | h1 | ⟨l, t, h1, h2⟩
    · exact h.snew b o h1
    · exact .inr (.inl (Nat.le_trans h.ext.size h1))
    · rcases h.onew b l t h1 with h3 | ⟨l0, t0, h3, h4⟩
      · exact .inr (.inl h3)
      · exact .inr (.inr ⟨l0, t0, h3, by omega⟩)
  sown := h'.sown
  slt := h'.slt
  olt := h'.olt
  onew := fun b l t ho => by
    rcases h'.onew b l t ho with h1 | ⟨l0, t0, h1, h2⟩
    · exact .inl (Nat.le_trans h.ext.size h1)
    · rcases h.onew b l0 t0 h1 with h3 | ⟨l1, t1, h3, h4⟩
      · exact .inl h3
      · exact .inr ⟨l1, t1, h3, by omega⟩
  mlen := h'.mlen
  mem := h'.mem
/-- The world keeps what was settled when the region began. -/
def Keeps (K : Ctx) : World → Prop := fun w => Ext K.S0 K.w0 w
/-- Behind the first effect: whichever comes up. -/
def GA (K : Ctx) (ops : Array Oper) (Q : Exit → GS → Prop) (n : Nat) (listed : Array Bool) (s : GS) : Prop :=
  ∀ a w, At K s a w → wpAnyH K.P .any ops (endN K Q) (Keeps K) n listed a w
/-- Ahead of the first effect: the world is the region's first. -/
def GB (K : Ctx) (ops : Array Oper) (Q : Exit → GS → Prop) (n : Nat) (listed : Array Bool) (s : GS) : Prop :=
  ∀ a, Rep K K.S0 K.O0 K.m0 s a K.w0 → wpAnyH K.P .any ops (endN K Q) (Keeps K) n listed a K.w0
theorem GA_done {K : Ctx} {ops : Array Oper} {Q : Exit → GS → Prop} {n : Nat} {listed : Array Bool} {s : GS} (hr : Region.ready .any ops listed = []) (h : Q .normal s) : GA K ops Q n listed s :=
  fun a w ha => wpAnyH_done hr ⟨rfl, s, h, ha⟩ n
theorem GB_go {K : Ctx} {ops : Array Oper} {Q : Exit → GS → Prop} {n : Nat} {listed : Array Bool} {s : GS} (h : GA K ops Q n listed s) : GB K ops Q n listed s :=
  fun a ha => h a K.w0 ⟨_, _, _, ha⟩
theorem Keeps.sreg {K : Ctx} (hB : ∀ i, i < K.m0.length → K.Bs.contains i = true) {w' : World} (hw' : Keeps K w') : Ext (Sreg K K.S0 K.m0) K.w0 w' := by
  refine ⟨hw'.size, hw'.shape, fun b o hbo => ?_, fun b es c hbo hm => ?_, hw'.os, hw'.tape, hw'.output⟩
  · rcases hbo with h1 | ⟨j, h1, h2⟩
    · exact hw'.cell b o h1
    · rw [hB j (List.getElem?_eq_some_iff.1 h1).1] at h2; cases h2
  · rcases hbo with h1 | ⟨j, h1, h2⟩
    · exact hw'.maps b es c h1 hm
    · rw [hB j (List.getElem?_eq_some_iff.1 h1).1] at h2; cases h2
theorem GB_take {K : Ctx} {ops : Array Oper} {Q : Exit → GS → Prop} {s s' : GS} {i t n : Nat} {listed listed' : Array Bool} {o : Oper} {p : PV} (hB : ∀ i, i < K.m0.length → K.Bs.contains i = true) (ho : ops[i]? = some o) (hg : o.guard = none) (hd : o.dst = some t) (ht : t < K.n)
    (hs : Region.noSelect ops = true) (hf : Region.free .any ops listed i = true) (hr : (Region.ready .any ops listed).contains i = true) (hq : Qy K o s t p) (hs' : s.set t p = s') (hl : listed.setIfInBounds i true = listed')
    (h : GB K ops Q n listed' s') : GB K ops Q (n + 1) listed s := by
  subst hs'; subst hl
  intro a hrep
  obtain ⟨v, hrun, hrp⟩ := hq K.S0 K.O0 K.m0 a K.w0 hrep
  refine wpAnyH_take (v := v) ho hs hf hr (fun c a w hc => by cases hc.1) (.inl ⟨by simp [Region.wanted, hg], fun w' hw' => hrun w' ?_⟩) (Ext.refl _ _) ?_
  · exact Keeps.sreg hB hw'
  · have := h (a.put (some t) v) (hrep.put ht hrp)
    rw [hd]; exact this
theorem wpOp_to {P : Program} {ops : Array Oper} {Q Q' : Exit → Act → World → Prop} {i : Nat} {N N' : Act → World → Prop} {a : Act} {w : World} (hQ : ∀ e a w, e ≠ .normal → Q e a w → Q' e a w) (hN : ∀ a w, N a w → N' a w)
    (h : wpOp P ops Q i N a w) : wpOp P ops Q' i N' a w := by
  have hL : LetsOut Q → LetsOut Q' := fun ⟨a, w, hq⟩ => ⟨a, w, hQ _ a w (by intro h; cases h) hq⟩
  unfold wpOp at *
  cases ho : ops[i]? with
  | none => rw [ho] at h; exact hN _ _ h
  | some o =>
    rw [ho] at h
    simp only at h ⊢
    split
    · rename_i hw
      rw [if_pos hw] at h
      rcases h with h | ⟨h1, h2⟩
      · refine .inl ?_
        unfold Oper.wp at *
        generalize (execOp a.eval o).run P w = r at *
        cases r with
        | ok nx w' =>
          cases nx with
          | value v => exact hN _ _ h
          | skip => exact hN _ _ h
          | defer d => exact hN _ _ h
          | enter f args =>
            refine Calls.mono h fun e w'' he => ?_
            cases e with
            | returned v => exact hN _ _ he
            | panicked ch => exact hQ _ _ _ (by intro h; cases h) he
            | outgrown => exact hL he
          | row r args => exact Rows.mono h fun v w'' he => hN _ _ he
          | _ => exact h.elim
        | halt x w' =>
          cases x with
          | panic v => exact hQ _ _ _ (by intro h; cases h) h
          | _ => exact h.elim
      · exact .inr ⟨h1, hL h2⟩
    · rename_i hw
      rw [if_neg hw] at h
      exact hN _ _ h
theorem GA_all {K : Ctx} {ops : Array Oper} {Q : Exit → GS → Prop} {n : Nat} {listed : Array Bool} {s : GS} (rs : List Nat) (hr : Region.ready .any ops listed = rs) (hne : rs ≠ [])
    (h : ∀ i ∈ rs, GOps K ops (fun e s' => e = .normal ∧ GA K ops Q n (listed.setIfInBounds i true) s') [i] s) : GA K ops Q (n + 1) listed s := by
  intro a w ha
  refine wpAnyH_all hr hne fun i hi => ?_
  have h1 := h i hi a w ha
  rw [wpOps_cons] at h1
  refine wpOp_to ?_ ?_ h1
  · rintro e a' w' hne' ⟨s', ⟨he, _⟩, _⟩
    exact absurd he hne'
  · intro a' w' h2
    obtain ⟨s', ⟨_, hga⟩, hat⟩ := (h2 : ∃ s', _ ∧ _)
    obtain ⟨S, O, m, hrep⟩ := hat
    exact ⟨hrep.env.ext, hga a' w' ⟨S, O, m, hrep⟩⟩
theorem Env.rebase {S0 : Reg} {O0 : Owns} {w0 : World} {S : Reg} {O : Owns} {m : List Nat} {mem : List (List PV)} {w : World} (h : Env S0 O0 w0 S O m mem w) : Env S O w S O m mem w where
  ext := Ext.refl _ _
  old := fun _ _ _ => rfl
  part := fun _ _ _ _ _ _ _ => rfl
  s0 := fun _ _ h => h
  snew := fun _ _ h => .inl h
  sown := h.sown
  slt := h.slt
  olt := h.olt
  onew := fun _ l t h => .inr ⟨l, t, h, Nat.le_refl _⟩
  mlen := h.mlen
  mem := h.mem
/-- A region whose order is open. -/
theorem G_drawB {K : Ctx} {id : Nat} {ops : Array Oper} {Q : Exit → GS → Prop} {s : GS} (n : Nat) (hn : ops.size = n) (hm : K.P.follows .mixedOrders = true)
    (h : ∀ S O w m, m.length = s.mem.length → K.m0.length ≤ m.length → GB ⟨K.P, K.n, S, O, w, m, List.range m.length⟩ ops Q n (Array.replicate n false) s) : G K (.region id ops true) Q s := by
  rintro a w ⟨S, O, m, hr⟩
  have hd := hr.drew
  have h1 := h S O w.drew m hd.env.mlen hd.pre.length_le a ⟨hd.env.rebase, hd.defers, hd.size, List.prefix_refl _, hd.slots⟩
  refine wp_mono (Q := endN ⟨K.P, K.n, S, O, w.drew, m, List.range m.length⟩ Q) (wp_region_held (S := Keeps ⟨K.P, K.n, S, O, w.drew, m, List.range m.length⟩) hm ?_) ?_
  · rw [hn]; exact h1
  · rintro e a' w' ⟨rfl, s', hq, S', O', m', hr'⟩
    exact ⟨s', hq, S', O', m', hd.env.trans hr'.env, hr'.defers, hr'.size, hd.pre.trans hr'.pre, hr'.slots⟩
end Go.Proofs.YtklkbfpjimeaoaaGreat.E
