import Derived.Test.YtklkbfpjimeaoaaM7
import Derived.IntWalk
import Derived.Below
import Derived.SizedLaws
import Derived.ChangeArms
import Derived.DataReads
/- Contracts of functions. Conditions: none. -/
set_option linter.unusedSimpArgs false
set_option linter.unusedVariables false
namespace Go.Proofs.Ytklkbfpjimeaoaa.E
open Go Go.RowKit
section
def allOf (W : World) : Reg := fun b _ => b < W.heap.size
theorem Env.start (W : World) : Env (allOf W) noOwns W (allOf W) noOwns [] [] W where
 ext := Ext.refl _ W
 old := fun _ _ _ => rfl
 part := fun _ _ _ _ _ h => by cases h
 s0 := fun _ _ h => h
 snew := fun _ _ h => .inl h
 sown := fun _ _ _ _ _ h => by cases h
 slt := fun _ _ h => h
 olt := fun _ _ _ h => by cases h
 onew := fun _ _ _ h => by cases h
 mlen := rfl
 mem := fun _ _ _ h => by simp at h
theorem Env.below {W w' : World} {S0 S' : Reg} {O' : Owns} {m' : List Nat} {mem' : List (List PV)} (h : Env S0 noOwns W S' O' m' mem' w') : Below W.heap.size W w' :=
 ⟨h.ext.os, h.ext.tape, h.ext.output, h.ext.size, fun k hk => h.old k hk rfl⟩
theorem Pure.row {P : Program} {f : FuncId} {ds : List D} {b : Bool} (h : Pure P f ds (.d (.bool b))) (W : World) (vals : Array Value) (hsz : vals.size = ds.length)
 (hr : ∀ (i : Nat) d v, ds[i]? = some d → vals[i]? = some v → Rd W (allOf W) d v) :
 Calls P f vals W fun e w' => e = .returned (.bool b) ∧ Below W.heap.size W w' := by
 refine (h W (allOf W) noOwns [] vals (Env.start W) (by simpa using hsz) ?_).mono ?_
 · intro i p v hi hv
   rw [List.getElem?_map] at hi
   cases hd : ds[i]? with
   | none => rw [hd] at hi; cases hi
   | some d =>
    rw [hd] at hi
    cases hi
    exact .d _ d v (hr i d v hd hv)
 · rintro e w' ⟨v, r, mem', S', O', m', rfl, ⟨rfl, rfl⟩, henv, _, hrp⟩
   refine ⟨?_, henv.below⟩
   cases hrp with
   | d _ _ _ hd => rw [rd_bool hd]
end
section
def D.mk (P : Program) (e : TypeId) (ds : List D) : D := match P.underlying e with | some (.struct _) => .agg ds | _ => ds.headD .nil
inductive DT (P : Program) : TypeId → List D → Prop
 | bool (t : TypeId) (b : Bool) : P.underlying t = some .bool → DT P t [.bool b]
 | int (t : TypeId) (k : IntKind) (n : Int) : P.underlying t = some (.int k) → (Lit.int k n).wf = true → DT P t [.int k n]
 | str (t : TypeId) (s : ByteArray) : P.underlying t = some .string → s.size ≤ reachBytes → DT P t [.str s]
 | nil (t e : TypeId) : P.underlying t = some (.pointer e) → DT P t [.nil]
 | ptr (t e : TypeId) (ds : List D) : P.underlying t = some (.pointer e) → DT P e ds → DT P t [.ptr (D.mk P e ds)]
 | sl (t e : TypeId) (dss : List (List D)) : P.underlying t = some (.slice e) → dss.length ≤ reachBytes → (∀ (i : Nat) ds, dss[i]? = some ds → DT P e ds) → DT P t [.sl (dss.map (D.mk P e))]
 | struct (t : TypeId) (fs : Array Field) (ds : List D) : P.underlying t = some (.struct fs) → ds.length = P.cellsOf t →
  (∀ (i : Nat) f, fs[i]? = some f → DT P f.type ((ds.drop f.offset).take (P.cellsOf f.type))) → DT P t ds
variable {P : Program} {e : TypeId}
theorem DT.cells {ds : List D} (h : DT P e ds) : (D.mk P e ds).cells = ds := by
 cases h with
 | bool _ b hu => simp [D.mk, hu, D.cells]
 | int _ k n hu => simp [D.mk, hu, D.cells]
 | str _ s hu => simp [D.mk, hu, D.cells]
 | nil _ _ hu => simp [D.mk, hu, D.cells]
 | ptr _ _ ds hu => simp [D.mk, hu, D.cells]
 | sl _ _ dss hu => simp [D.mk, hu, D.cells]
 | struct _ fs ds hu => simp [D.mk, hu, D.cells]
def layoutEnd (P : Program) : Nat → List Field → Option Nat
 | off, [] => some off
 | off, f :: r => if f.offset = off then layoutEnd P (off + P.cellsOf f.type) r else none
theorem layout_le : ∀ (fl : List Field) (off n : Nat), layoutEnd P off fl = some n → off ≤ n ∧ ∀ f ∈ fl, off ≤ f.offset ∧ f.offset + P.cellsOf f.type ≤ n
 | [], off, n, h => by simp only [layoutEnd] at h; injection h with h; exact ⟨by omega, fun f hf => by cases hf⟩
 | f :: r, off, n, h => by
  simp only [layoutEnd] at h
  split at h
  · rename_i ho
    obtain ⟨h1, h2⟩ := layout_le r _ n h
    refine ⟨by omega, fun g hg => ?_⟩
    rcases List.mem_cons.1 hg with rfl | hg
    · omega
    · have := h2 g hg; omega
  · cases h
def closedT (P : Program) (L : List TypeId) : Bool := L.all fun t => match P.underlying t with
 | some .bool | some (.int _) | some .string => true
 | some (.pointer e) => L.contains e && decide (0 < P.cellsOf e)
 | some (.slice e) => L.contains e && decide (0 < P.bytesOf e)
 | some (.struct fs) => fs.toList.all (fun f => L.contains f.type) && (layoutEnd P 0 fs.toList == some (P.cellsOf t))
 | _ => false
def Good (P : Program) (w : World) (t : TypeId) (cs : List Value) : Prop :=
 ∃ ds, DT P t ds ∧ ds.length = cs.length ∧ ∀ (i : Nat) d v, ds[i]? = some d → cs[i]? = some v → Rd w (allOf w) d v ∧ v.oneCell' = true
variable {w : World}
theorem spot_of {a : Addr} {v : Value} (h : w.cell? a = some v) : a.spot = none ∧ a.block < w.heap.size := by
 unfold World.cell? at h
 split at h
 · rename_i c _ _ hb
   refine ⟨?_, (Array.getElem?_eq_some_iff.1 hb).1⟩
   split at h
   · cases h
   · rename_i hs; cases hsp : a.spot with
     | none => rfl
     | some x => simp [hsp] at hs
 · cases h
variable {t : TypeId}
theorem one {d : D} {v : Value} (hd : DT P t [d]) (hr : Rd w (allOf w) d v) (ho : v.oneCell' = true) : Good P w t [v] :=
 ⟨[d], hd, rfl, fun i x u hx hu => by
  cases i with
  | zero => simp at hx hu; subst hx; subst hu; exact ⟨hr, ho⟩
  | succ i => simp at hx⟩
theorem fields_good : ∀ (fl : List Field) (off : Nat) (cs : List Value), layoutEnd P off fl = some (off + cs.length) →
 (∀ f ∈ fl, Good P w f.type ((cs.drop (f.offset - off)).take (P.cellsOf f.type))) →
 ∃ ds : List D, ds.length = cs.length ∧ (∀ (i : Nat) d v, ds[i]? = some d → cs[i]? = some v → Rd w (allOf w) d v ∧ v.oneCell' = true) ∧
  ∀ f ∈ fl, DT P f.type ((ds.drop (f.offset - off)).take (P.cellsOf f.type))
 | [], off, cs, h, _ => by
  simp only [layoutEnd] at h
  injection h with h
  have : cs = [] := List.eq_nil_of_length_eq_zero (by omega)
  subst this
  exact ⟨[], rfl, fun i d v hd => by simp at hd, fun f hf => by cases hf⟩
 | f :: r, off, cs, h, hg => by
  simp only [layoutEnd] at h
  split at h
  · rename_i ho
    obtain ⟨hle, hin⟩ := layout_le r _ _ h
    have hc : P.cellsOf f.type ≤ cs.length := by omega
    obtain ⟨ds1, ht1, hl1, hr1⟩ := hg f (List.mem_cons_self ..)
    rw [show f.offset - off = 0 by omega, List.drop_zero] at hl1 hr1
    rw [List.length_take, Nat.min_eq_left hc] at hl1
    have h' : layoutEnd P (off + P.cellsOf f.type) r = some (off + P.cellsOf f.type + (cs.drop (P.cellsOf f.type)).length) := by
     rw [h, List.length_drop]; congr 1; omega
    obtain ⟨ds2, hl2, hr2, ht2⟩ := fields_good r (off + P.cellsOf f.type) (cs.drop (P.cellsOf f.type)) h' (fun g hgm => by
     have := hg g (List.mem_cons_of_mem _ hgm)
     rw [List.drop_drop, show P.cellsOf f.type + (g.offset - (off + P.cellsOf f.type)) = g.offset - off by have := hin g hgm; omega]
     exact this)
    rw [List.length_drop] at hl2
    have hdt : ∀ g : Field, (off + P.cellsOf f.type ≤ g.offset) → (ds1 ++ ds2).drop (g.offset - off) = ds2.drop (g.offset - (off + P.cellsOf f.type)) := by
     intro g hgo
     rw [List.drop_append, List.drop_eq_nil_of_le (by omega), List.nil_append]
     congr 1; omega
    refine ⟨ds1 ++ ds2, by rw [List.length_append]; omega, fun i d v hd hv => ?_, fun g hgm => ?_⟩
    · by_cases hi : i < ds1.length
      · rw [List.getElem?_append_left hi] at hd
        exact hr1 i d v hd (by rw [List.getElem?_take, if_pos (by omega)]; exact hv)
      · rw [List.getElem?_append_right (by omega)] at hd
        exact hr2 (i - ds1.length) d v hd (by rw [List.getElem?_drop, ← hl1]; rw [show ds1.length + (i - ds1.length) = i by omega]; exact hv)
    · rcases List.mem_cons.1 hgm with rfl | hgm
      · rw [show g.offset - off = 0 by omega, List.drop_zero, ← hl1, List.take_left]; rw [hl1] at *; exact ht1
      · rw [hdt g (hin g hgm).1]; exact ht2 g hgm
  · cases h
variable {H : Type}
theorem weights_mem_all : ∀ {ds : List (DataW H)} {d : DataW H}, d ∈ ds → ∀ n ∈ d.weights P e, n ∈ DataW.weightsAll P e ds
 | x :: r, d, h, n, hn => by
  simp only [DataW.weightsAll, List.mem_append]
  rcases List.mem_cons.1 h with rfl | h
  · exact .inl hn
  · exact .inr (weights_mem_all h n hn)
theorem read {enc : TypeId × Value → H} {base : Nat} {sp : Nat → Bool} {held : Bool} {L : List TypeId} (hL : closedT P L = true) :
 ∀ (fuel : Nat) (t : TypeId) (cs : List Value) (x : DataW H × List MemPlace), t ∈ L → DataW.trod enc P w base sp held fuel t cs = some x → (∀ n ∈ x.1.weights P t, n ≤ reachBytes) → Good P w t cs := by
 intro fuel
 induction fuel with
 | zero => intro t cs x _ h; simp [DataW.trod] at h
 | succ fuel ih =>
  intro t cs x ht h hw
  have hc := List.all_eq_true.1 hL t ht
  cases hu : P.underlying t with
  | none => rw [hu] at hc; cases hc
  | some desc =>
   rw [hu] at hc
   cases desc with
   | bool =>
    obtain ⟨b, rfl, rfl⟩ := DataW.trod_bool hu h
    exact one (.bool t b hu) (.bool b) rfl
   | int k =>
    obtain ⟨n, rfl, rfl, hwf⟩ := DataW.trod_int hu h
    exact one (.int t k n hu hwf) (.int k n) rfl
   | string =>
    obtain ⟨s, rfl, rfl, _⟩ := DataW.trod_string hu h
    have := hw s.data.toList.length (by simp [DataW.weights])
    have hs : s.size ≤ reachBytes := by rw [Array.length_toList] at this; exact this
    exact one (.str t s hu hs) (.str s) rfl
   | pointer e =>
    simp only [Bool.and_eq_true, decide_eq_true_eq, List.contains_iff_mem] at hc
    rcases DataW.trod_pointer hu h with ⟨rfl, rfl⟩ | ⟨a, cs', y, n, hn, rfl, rfl, hcells, ht'⟩
    · exact one (.nil t e hu) .nil rfl
    · obtain rfl : fuel = n := by omega
      obtain ⟨_, hlen, hat⟩ := World.cells?_some hcells
      obtain ⟨ds, hdt, hdl, hrd⟩ := ih e cs' y hc.1 ht' (fun m hm => hw m (by simpa [DataW.weights, hu] using hm))
      have hcell : ∀ (j : Nat), j < cs'.length → ∃ v, cs'[j]? = some v ∧ w.cell? (a.add j) = some v := fun j hj =>
       ⟨_, gE hj, by rw [hat j (by omega)]; exact gE hj⟩
      obtain ⟨v0, _, hv0⟩ := hcell 0 (by omega)
      have hsp : a.spot = none := by have := (spot_of hv0).1; simpa [Addr.add] using this
      have hadd : ∀ j, a.add j = ⟨a.block, a.off + j, none⟩ := fun j => by rw [show a = ⟨a.block, a.off, none⟩ by cases a; simp_all]; exact add_at _ _ _
      refine one (.ptr t e ds hu hdt) (.ptr _ a hsp (fun j d hj => ?_) (fun j d v hj hv => ?_)) rfl
      · rw [hdt.cells] at hj
        have hjl := (lG hj)
        obtain ⟨v, hv1, hv2⟩ := hcell j (by omega)
        rw [hadd] at hv2
        exact ⟨(spot_of hv2).2, v, hv2, (hrd j d v hj hv1).2⟩
      · rw [hdt.cells] at hj
        have hjl := (lG hj)
        obtain ⟨v', hv1, hv2⟩ := hcell j (by omega)
        rw [hadd, hv] at hv2
        injection hv2 with hv2
        subst hv2
        exact (hrd j d v hj hv1).1
   | slice e =>
    simp only [Bool.and_eq_true, decide_eq_true_eq, List.contains_iff_mem] at hc
    rcases DataW.trod_slice hu h with ⟨rfl, rfl⟩ | ⟨a, len, cap, elems, rest, n, hn, rfl, rfl, _, hlc, _, hel, hall, _, _⟩
    · refine one (.sl t e [] hu (by simp [reachBytes]) (fun i ds h => by simp at h)) ?_ rfl
      exact .sl [] none 0 0 (by simp) (by simp [lim]) (by simp) (fun _ => rfl) (fun _ h => by cases h) (fun _ _ _ _ _ _ h => by cases h)
    · obtain rfl : fuel = n := by omega
      have hlen : len ≤ reachBytes := by
       have := hw ((elems.map (·.1)).length * P.bytesOf e + (rest.map (·.1)).length * P.bytesOf e) (by simp [DataW.weights, hu, Nat.add_mul])
       rw [List.length_map, hel] at this
       have h1 : len * 1 ≤ len * P.bytesOf e := Nat.mul_le_mul_left _ hc.2
       omega
      have hget : ∀ i, i < len → ∃ cs', w.cells? base (a.add (i * P.cellsOf e)) (P.cellsOf e) = some cs' ∧ Good P w e cs' := by
       intro i hi
       have hb := hall i hi
       have he : elems[i]? = some (elems[i]'(by omega)) := gE (by omega)
       rw [he] at hb
       obtain ⟨cs', h1, h2⟩ := Option.bind_eq_some_iff.1 hb
       refine ⟨cs', h1, ih e cs' _ hc.1 h2 (fun m hm => hw m ?_)⟩
       have hmem : (elems[i]'(by omega)).1 ∈ elems.map (·.1) := List.mem_map_of_mem (List.getElem_mem _)
       simp only [DataW.weights, hu, List.mem_cons, List.mem_append]
       exact .inr (.inl (weights_mem_all hmem m hm))
      have hex : ∀ i, ∃ ds : List D, i < len → ∃ cs', w.cells? base (a.add (i * P.cellsOf e)) (P.cellsOf e) = some cs' ∧ DT P e ds ∧ ds.length = cs'.length ∧
       ∀ (j : Nat) d v, ds[j]? = some d → cs'[j]? = some v → Rd w (allOf w) d v ∧ v.oneCell' = true := fun i => by
       by_cases hi : i < len
       · obtain ⟨cs', h1, ds, h2⟩ := hget i hi
         exact ⟨ds, fun _ => ⟨cs', h1, h2⟩⟩
       · exact ⟨[], fun h => absurd h hi⟩
      let F : Nat → List D := fun i => Classical.choose (hex i)
      have hF : ∀ i, i < len → ∃ cs', w.cells? base (a.add (i * P.cellsOf e)) (P.cellsOf e) = some cs' ∧ DT P e (F i) ∧ (F i).length = cs'.length ∧
       ∀ (j : Nat) d v, (F i)[j]? = some d → cs'[j]? = some v → Rd w (allOf w) d v ∧ v.oneCell' = true := fun i => Classical.choose_spec (hex i)
      have hspot : ∀ i j, i < len → j < P.cellsOf e → a.spot = none := by
       intro i j hi hj
       obtain ⟨cs', h1, _⟩ := hF 0 (by omega)
       obtain ⟨_, hl, hat⟩ := World.cells?_some h1
       have := hat 0 (by omega)
       rw [gE (by omega)] at this
       have := (spot_of this).1
       simpa [Addr.add] using this
      have hcellF : ∀ i j y, i < len → (F i)[j]? = some y → a.spot = none ∧ ∃ v, w.cell? ⟨a.block, a.off + (i * P.cellsOf e + j), none⟩ = some v ∧ Rd w (allOf w) y v ∧ v.oneCell' = true := by
       intro i j y hi hj
       obtain ⟨cs', h1, h2, h3, h4⟩ := hF i hi
       obtain ⟨_, hl, hat⟩ := World.cells?_some h1
       have hjl := (lG hj)
       have hs := hspot i j hi (by omega)
       have hadd : ∀ j, a.add j = ⟨a.block, a.off + j, none⟩ := fun j => by rw [show a = ⟨a.block, a.off, none⟩ by cases a; simp_all]; exact add_at _ _ _
       have hv : cs'[j]? = some (cs'[j]'(by omega)) := gE (by omega)
       have hc2 := hat j (by omega)
       rw [hv, hadd, add_at, Nat.add_assoc] at hc2
       exact ⟨hs, _, hc2, h4 j y _ hj hv⟩
      have hxs : ((List.range len).map F).map (D.mk P e) = (List.range len).map fun i => D.mk P e (F i) := by rw [List.map_map]; rfl
      refine one (d := .sl (((List.range len).map F).map (D.mk P e))) (.sl t e ((List.range len).map F) hu (by simpa using hlen) (fun i ds hds => ?_)) ?_ rfl
      · rw [List.getElem?_map] at hds
        cases hi : (List.range len)[i]? with
        | none => simp [hi] at hds
        | some i' =>
         obtain ⟨hlt, rfl⟩ := List.getElem?_eq_some_iff.1 hi
         simp only [hi, Option.map_some, List.getElem_range, Option.some.injEq] at hds
         subst hds
         obtain ⟨_, _, h2, _⟩ := hF i (by simpa using hlt)
         exact h2
      · rw [hxs]
        have hg : ∀ (i : Nat) z, ((List.range len).map fun i => D.mk P e (F i))[i]? = some z → i < len ∧ z.cells = F i := by
         intro i z hz
         rw [List.getElem?_map] at hz
         cases hi : (List.range len)[i]? with
         | none => simp [hi] at hz
         | some i' =>
          obtain ⟨hlt, rfl⟩ := List.getElem?_eq_some_iff.1 hi
          simp only [hi, Option.map_some, List.getElem_range, Option.some.injEq] at hz
          subst hz
          obtain ⟨_, _, h2, _⟩ := hF i (by simpa using hlt)
          exact ⟨by simpa using hlt, h2.cells⟩
        have hrl : ((List.range len).map fun i => D.mk P e (F i)).length = len := by simp
        have key := Rd.sl (w := w) (S := allOf w) ((List.range len).map fun i => D.mk P e (F i)) (some a) cap (P.cellsOf e) (by rw [hrl]; exact hlc) (by rw [hrl]; unfold reachBytes at hlen; unfold lim; omega) ?_ (fun h => by cases h) ?_ ?_
        · rw [hrl] at key; exact key
        · intro z hz
          obtain ⟨i, hi, hz'⟩ := List.mem_iff_getElem?.1 hz |>.imp fun i h => And.intro h (hg i z h)
          obtain ⟨hil, hcz⟩ := hz'
          obtain ⟨cs', h1, h2, h3, _⟩ := hF i hil
          rw [hcz, h3]
          exact (World.cells?_some h1).2.1
        · intro ad had i z j y hz hy
          injection had with had; subst had
          obtain ⟨hil, hcz⟩ := hg i z hz
          rw [hcz] at hy
          obtain ⟨hs, v, hv, _, ho⟩ := hcellF i j y hil hy
          exact ⟨hs, (spot_of hv).2, v, hv, ho⟩
        · intro ad i z j y v had hz hy hv
          injection had with had; subst had
          obtain ⟨hil, hcz⟩ := hg i z hz
          rw [hcz] at hy
          obtain ⟨_, v', hv', hr', _⟩ := hcellF i j y hil hy
          rw [hv] at hv'
          injection hv' with hv'
          subst hv'
          exact hr'
   | struct fs =>
    simp only [Bool.and_eq_true, List.all_eq_true, List.contains_iff_mem, beq_iff_eq] at hc
    obtain ⟨xs, n, hn, rfl, hlen, hxl, hf⟩ := DataW.trod_struct hu h
    obtain rfl : fuel = n := by omega
    have hgood : ∀ f ∈ fs.toList, Good P w f.type ((cs.drop (f.offset - 0)).take (P.cellsOf f.type)) := by
     intro f hfm
     obtain ⟨i, hi, hfi⟩ := List.mem_iff_getElem.1 hfm
     have hif : fs[i]? = some f := by rw [← Array.getElem?_toList, gE hi, hfi]
     have hlt : i < fs.size := (Array.getElem?_eq_some_iff.1 hif).1
     have h1 := hf i f hif
     have hx : xs[i]? = some (xs[i]'(by omega)) := gE (by omega)
     rw [hx] at h1
     rw [Nat.sub_zero]
     refine ih f.type _ _ (hc.1 f hfm) h1 (fun m hm => hw m ?_)
     simp only [DataW.weights, hu]
     exact DataW.weights_mem_each (j := i) (t := f.type) (d := (xs[i]'(by omega)).1) (by rw [List.getElem?_map, Array.getElem?_toList, hif]; rfl) (by rw [List.getElem?_map, hx]; rfl) m hm
    obtain ⟨ds, h1, h2, h3⟩ := fields_good fs.toList 0 cs (by rw [hc.2, hlen]; simp) hgood
    refine ⟨ds, .struct t fs ds hu (by rw [h1, hlen]) (fun i f hif => ?_), h1, h2⟩
    have := h3 f (by rw [← Array.getElem?_toList] at hif; exact mG hif)
    rwa [Nat.sub_zero] at this
   | float _ => cases hc
   | _ => cases hc
theorem list_of {α : Type} {f : α → D} {Q : α → Prop} (h : ∀ ds, DT P e ds → ∃ x, Q x ∧ D.mk P e ds = f x) :
 ∀ (dss : List (List D)), (∀ (i : Nat) ds, dss[i]? = some ds → DT P e ds) → ∃ xs : List α, dss.map (D.mk P e) = xs.map f ∧ (∀ x ∈ xs, Q x) ∧ xs.length = dss.length
 | [], _ => ⟨[], rfl, fun x hx => (by cases hx), rfl⟩
 | ds :: r, hd => by
  obtain ⟨x, hq, hx⟩ := h ds (hd 0 ds rfl)
  obtain ⟨xs, h1, h2, h3⟩ := list_of h r (fun i d hi => hd (i + 1) d (by simpa using hi))
  exact ⟨x :: xs, by simp [hx, h1], fun y hy => by rcases List.mem_cons.1 hy with rfl | hy; exact hq; exact h2 y hy, by simp [h3]⟩
theorem arg_sl {enc : TypeId × Value → H} {sp : Nat → Bool} {held : Bool} {L : List TypeId} (hL : closedT P L = true) {t e : TypeId} (ht : t ∈ L) (hu : P.underlying t = some (.slice e))
 {a : Option Addr} {len cap : Nat} {d : DataW H} {ps : List MemPlace} (h : DataW.Trod enc P w 0 sp held t (.slice a len cap) d ps) (hw : ∀ n ∈ d.weights P t, n ≤ reachBytes) :
 ∃ dss : List (List D), Rd w (allOf w) (.sl (dss.map (D.mk P e))) (.slice a len cap) ∧ dss.length ≤ reachBytes ∧ ∀ (i : Nat) ds, dss[i]? = some ds → DT P e ds := by
 obtain ⟨fuel, hf⟩ := h
 obtain ⟨ds, hdt, hl, hr⟩ := read hL fuel t _ _ ht hf hw
 have hc : (Value.slice a len cap).cells.toList = [Value.slice a len cap] := rfl
 rw [hc] at hr
 cases hdt with
 | bool _ _ h => rw [hu] at h; cases h
 | int _ _ _ h => rw [hu] at h; cases h
 | str _ _ h => rw [hu] at h; cases h
 | nil _ _ h => rw [hu] at h; cases h
 | ptr _ _ _ h => rw [hu] at h; cases h
 | struct _ _ _ h => rw [hu] at h; cases h
 | sl _ e' dss h hlen hall =>
  rw [hu] at h
  injection h with h
  injection h with h
  subst h
  exact ⟨dss, (hr 0 _ _ rfl rfl).1, hlen, hall⟩
theorem DT.int_of {k : IntKind} {ds : List D} (h : DT P t ds) (hu : P.underlying t = some (.int k)) : ∃ n, ds = [.int k n] ∧ (Lit.int k n).wf = true := by
 cases h with
 | int _ k' n h hwf => rw [hu] at h; injection h with h; injection h with h; subst h; exact ⟨n, rfl, hwf⟩
 | bool _ _ h => rw [hu] at h; cases h
 | str _ _ h => rw [hu] at h; cases h
 | nil _ _ h => rw [hu] at h; cases h
 | ptr _ _ _ h => rw [hu] at h; cases h
 | struct _ _ _ h => rw [hu] at h; cases h
 | sl _ _ _ h => rw [hu] at h; cases h
theorem DT.str_of {ds : List D} (h : DT P t ds) (hu : P.underlying t = some .string) : ∃ s, ds = [.str s] ∧ s.size ≤ reachBytes := by
 cases h with
 | str _ s h hs => exact ⟨s, rfl, hs⟩
 | bool _ _ h => rw [hu] at h; cases h
 | int _ _ _ h => rw [hu] at h; cases h
 | nil _ _ h => rw [hu] at h; cases h
 | ptr _ _ _ h => rw [hu] at h; cases h
 | struct _ _ _ h => rw [hu] at h; cases h
 | sl _ _ _ h => rw [hu] at h; cases h
theorem DT.struct_of {fs : Array Field} {ds : List D} (h : DT P t ds) (hu : P.underlying t = some (.struct fs)) : ds.length = P.cellsOf t ∧ ∀ (i : Nat) f, fs[i]? = some f → DT P f.type ((ds.drop f.offset).take (P.cellsOf f.type)) := by
 cases h with
 | struct _ _ _ h hl ha => rw [hu] at h; injection h with h; injection h with h; subst h; exact ⟨hl, ha⟩
 | bool _ _ h => rw [hu] at h; cases h
 | int _ _ _ h => rw [hu] at h; cases h
 | str _ _ h => rw [hu] at h; cases h
 | nil _ _ h => rw [hu] at h; cases h
 | ptr _ _ _ h => rw [hu] at h; cases h
 | sl _ _ _ h => rw [hu] at h; cases h
end
end Go.Proofs.Ytklkbfpjimeaoaa.E
namespace Go.Proofs.Ytklkbfpjimeaoaa.E
open Go
variable {w : World}
theorem Env.trans {S0 : Reg} {O0 : Owns} {w0 : World} {S : Reg} {O : Owns} {m : List Nat} {mem : List (List PV)} {S' : Reg} {O' : Owns} {m' : List Nat} {mem' : List (List PV)} {w' : World}
 (h : Env S0 O0 w0 S O m mem w) (h' : Env S O w S' O' m' mem' w') : Env S0 O0 w0 S' O' m' mem' w' where
 ext := h.ext.trans h'.ext h.s0
 old := fun b hb ho => by
  have hO : O b = none := by
   cases hq : O b with
   | none => rfl
   | some x =>
    obtain ⟨l, t⟩ := x
    rcases h.onew b l t hq with h1 | ⟨l0, t0, h1, _⟩
    · omega
    · rw [ho] at h1; cases h1
  rw [h'.old b (Nat.lt_of_lt_of_le hb h.ext.size) hO, h.old b hb ho]
 part := fun b l t o hb ho hlt => by
  have hb' := Nat.lt_of_lt_of_le hb h.ext.size
  rw [← h.part b l t o hb ho hlt]
  cases hq : O b with
  | none => exact World.cell?_of_block (w := w) (h'.old b hb' hq)
  | some x =>
   obtain ⟨l', t'⟩ := x
   rcases h.onew b l' t' hq with h1 | ⟨l0, t0, h1, h2⟩
   · omega
   · rw [ho] at h1; injection h1 with h1; injection h1 with h1 h1'; exact h'.part b l' t' o hb' hq (by omega)
 s0 := fun b o hs => h'.s0 b o (h.s0 b o hs)
 snew := fun b o hs => by
  rcases h'.snew b o hs with h1 | h1 | ⟨l, t, h1, h2⟩
  · exact h.snew b o h1
  · exact .inr (.inl (Nat.le_trans h.ext.size h1))
  · rcases h.onew b l t h1 with h3 | ⟨l0, t0, h3, h4⟩
    · exact .inr (.inl h3)
    · exact .inr (.inr ⟨l0, t0, h3, by omega⟩)
 sown := h'.sown
 slt := h'.slt
 olt := h'.olt
 onew := fun b l t ho => by
  rcases h'.onew b l t ho with h1 | ⟨l0, t0, h1, h2⟩
  · exact .inl (Nat.le_trans h.ext.size h1)
  · rcases h.onew b l0 t0 h1 with h3 | ⟨l1, t1, h3, h4⟩
    · exact .inl h3
    · exact .inr ⟨l1, t1, h3, by omega⟩
 mlen := h'.mlen
 mem := h'.mem
theorem wpOp_to {P : Program} {ops : Array Oper} {Q Q' : Exit → Act → World → Prop} {i : Nat} {N N' : Act → World → Prop} {a : Act} (hQ : ∀ e a w, e ≠ .normal → Q e a w → Q' e a w) (hN : ∀ a w, N a w → N' a w)
 (h : wpOp P ops Q i N a w) : wpOp P ops Q' i N' a w := by
 have hL : LetsOut Q → LetsOut Q' := fun ⟨a, w, hq⟩ => ⟨a, w, hQ _ a w (by intro h; cases h) hq⟩
 unfold wpOp at *
 cases ho : ops[i]? with
 | none => rw [ho] at h; exact hN _ _ h
 | some o =>
  rw [ho] at h
  simp only at h ⊢
  split
  · rename_i hw
    rw [if_pos hw] at h
    rcases h with h | ⟨h1, h2⟩
    · refine .inl ?_
      unfold Oper.wp at *
      generalize (execOp a.eval o).run P w = r at *
      cases r with
      | ok nx w' =>
       cases nx with
       | value v => exact hN _ _ h
       | skip => exact hN _ _ h
       | defer d => exact hN _ _ h
       | enter f args =>
        refine Calls.mono h fun e w'' he => ?_
        cases e with
        | returned v => exact hN _ _ he
        | panicked ch => exact hQ _ _ _ (by intro h; cases h) he
        | outgrown => exact hL he
       | row r args => exact Rows.mono h fun v w'' he => hN _ _ he
       | _ => exact h.elim
      | halt x w' =>
       cases x with
       | panic v => exact hQ _ _ _ (by intro h; cases h) h
       | _ => exact h.elim
    · exact .inr ⟨h1, hL h2⟩
  · rename_i hw
    rw [if_neg hw] at h
    exact hN _ _ h
theorem Env.rebase {S0 : Reg} {O0 : Owns} {w0 : World} {S : Reg} {O : Owns} {m : List Nat} {mem : List (List PV)} (h : Env S0 O0 w0 S O m mem w) : Env S O w S O m mem w where
 ext := Ext.refl _ _
 old := fun _ _ _ => rfl
 part := fun _ _ _ _ _ _ _ => rfl
 s0 := fun _ _ h => h
 snew := fun _ _ h => .inl h
 sown := h.sown
 slt := h.slt
 olt := h.olt
 onew := fun _ l t h => .inr ⟨l, t, h, Nat.le_refl _⟩
 mlen := h.mlen
 mem := h.mem
end Go.Proofs.Ytklkbfpjimeaoaa.E
namespace Go.Proofs.Ytklkbfpjimeaoaa.E
open Go
theorem Q_rowLen {K : Ctx} {s : GS} {t b off n k : Nat} {x : Operand} {ty e rt : TypeId} {pos : String} {af : Array Edge} {g : Option (Nat × Bool)}
 (hx : s.ev x = .rsl b off n k) (hu : K.P.underlying ty = some (.slice e)) (ht : t < K.n) :
 Qy K ⟨some t, .call ⟨.builtin .len, #[x], #[ty]⟩, rt, pos, af, g⟩ s t (.d (.int .i64 (n : Int))) := by
 refine fun S O m a w h => ?_
 obtain ⟨l, hr⟩ := h.ev x
 rw [hx] at hr
 generalize hv : a.eval x = v at hr
 cases hr with
 | rsl _ _ _ _ _ ad cap hc hl _ hh =>
  refine ⟨.int .i64 (n : Int), fun w _ => ?_, .d _ _ _ (.int _ _)⟩
  simp [execOp, resolve, invoke, builtin, hv, Builtin.len_, run_underlying hu, goInt]
theorem Q_field {K : Ctx} {s : GS} {t : Nat} {x : Operand} {st rt : TypeId} {f : Nat} {pos : String} {af : Array Edge} {g : Option (Nat × Bool)} {fs : Array Field} {fl : Field} {ds : List D} {d : D} {td : TypeDesc}
 (hx : s.ev x = .d (.agg ds)) (hu : K.P.underlying st = some (.struct fs)) (hf : fs[f]? = some fl) (htd : K.P.underlying fl.type = some td) (hl : leafT td = true) (hd : ds[fl.offset]? = some d) (ht : t < K.n) :
 Qy K ⟨some t, .field st x f, rt, pos, af, g⟩ s t (.d d) := by
 refine fun S O m a w h => ?_
 have hr := h.evd hx
 generalize hv : a.eval x = v at hr
 cases hr with
 | agg _ vs hsz ho hh =>
  have hlt : fl.offset < vs.size := by rw [hsz]; exact (lG hd)
  refine ⟨vs[fl.offset], fun w' _ => ?_, .d _ _ _ (hh _ _ _ hd (Array.getElem?_eq_getElem hlt))⟩
  simp only [execOp, hv]
  simp [Instr.field, run_underlying hu, hf, asAgg, part, run_isAgg htd, hl, Array.getElem?_eq_getElem hlt]
end Go.Proofs.Ytklkbfpjimeaoaa.E
namespace Go.Proofs.Ytklkbfpjimeaoaa.E
open Go
theorem g_freezeM {K : Ctx} {ops : Array Oper} {Q : Exit → GS → Prop} {l : List Nat} {s s'' : GS} (n : Nat) (keep : List (List PV)) {kvs : List (D × D)} (hmem : s.mem = keep ++ [[.mapc kvs]]) (hg : GOps K ops Q l s'') (hm : K.m0.length ≤ n := by first | (dsimp only [List.length_cons, List.length_nil]; omega) | simp_all) (hn : keep.length = n := by rfl) (hit : isIter kvs = false := by rfl)
 (hs : GS.mk (s.slots.map fun x => (x.1, PV.frz n noF noH (.d (.map kvs)) x.2)) (keep.map (PV.frzs n noF noH (.d (.map kvs)))) = s'' := by simp only [List.map_cons, List.map_nil, PV.frz, PV.frzs, noF, noH, if_true, if_false, Nat.reduceEqDiff, and_self] <;> rfl) : GOps K ops Q l s := by
 subst hs; exact GOps_le (Le_freezeM n hmem hn hm hit) hg
end Go.Proofs.Ytklkbfpjimeaoaa.E
namespace Go.Proofs.Ytklkbfpjimeaoaa.E
open Go
theorem Pf.data {P : Program} {f : FuncId} {args xs : List D} {k : Nat} (h : Pf P f args (.osl k xs)) : Pf P f args (.d (.sl xs)) :=
 ⟨h.1, fun w S O m vals h1 h2 h3 => (h.2 w S O m vals h1 h2 h3).mono fun e w' ⟨v, r, mem', S', O', m', he, hr, henv, hp, hrp⟩ => by
  obtain ⟨rfl, rfl⟩ := hr
  exact ⟨v, _, [], S', O', m', he, ⟨rfl, rfl⟩, henv, hp, hrp.wk (.inr (.inr (.inr (.inr ⟨_, _, rfl, rfl⟩))))⟩⟩
theorem g_split {K : Ctx} {ops : Array Oper} {Q : Exit → GS → Prop} {s : GS} {l : List Nat} {q : PV} {b : Bool} (u : Nat) (want : Bool) (h1 : b = true → GOps K ops Q l s) (h2 : b = false → GOps K ops Q l s)
 (hsu : s.get u = some q := by exact J0) (hgd : q.guard want = some b := by rfl) : GOps K ops Q l s := by
 cases b with
 | true => exact h1 rfl
 | false => exact h2 rfl
theorem g_callo {K : Ctx} {ops : Array Oper} {Q : Exit → GS → Prop} {s s'' : GS} {i : Nat} {rest : List Nat} {t j u : Nat} {want b : Bool} {oj : Oper} {fx : Operand} {xs : List Operand} {tys : Array TypeId} {ty : TypeId} {pos : String} {af : Array Edge} {f : FuncId} {fa fc ds args : List D} {r : PV} {q : PV}
 (ho : ops[i]? = some ⟨some t, .call ⟨.value fx, xs.toArray, tys⟩, ty, pos, af, some (j, want)⟩) (hb : b = true) (hc : Pf K.P f args r) (h : GOps K ops Q rest s'')
 (hj : ops[j]? = some oj := by rfl) (hjd : oj.dst = some u := by rfl) (hsu : s.get u = some q := by exact J0) (hgd : q.guard want = some b := by rfl) (hu : u < K.n := by exact oR rfl)
 (hfx : (s.ev fx).callee = some (f, fa, fc) := by exact J3) (hxs : PV.toDUs true (xs.map s.ev) = some ds := by exact J6)
 (ht : t < K.n := by exact oR rfl) (ha : args = fa ++ ds ++ fc := by rfl) (hs : s.set t r = s'' := by simp only [GS.set] <;> rfl) : GOps K ops Q (i :: rest) s := by
 subst hs; subst ha; subst hb
 rintro a w ⟨S, O, m, hr⟩
 have hyl := wanted_of hr hj hjd hsu hu hgd
 obtain ⟨⟨fn, hf, hbd, hn⟩, hc1⟩ := hc
 have hw : Region.wanted ⟨some t, .call ⟨.value fx, xs.toArray, tys⟩, ty, pos, af, some (j, want)⟩ (yielded ops a.tmps) = true := by simp only [Region.wanted]; rw [hyl]
 simp only [wpOps, ho, hw, if_true]
 obtain ⟨g1, g2⟩ := PV.toDUs_get _ _ _ hxs
 refine .inl (call_wp hr rfl rfl hfx (by simpa using g1) (fun i d v hi hv => ?_) hf hbd hn ht hc1 (fun a' w' hat => h a' w' hat))
 obtain ⟨p, hp, hpd⟩ := g2 i d hi
 rw [List.getElem?_map] at hp hv
 cases hx : xs[i]? with
 | none => simp [hx] at hp
 | some y =>
  simp only [hx, Option.map_some, Option.some.injEq] at hp hv
  subst hp; subst hv
  obtain ⟨l, hry⟩ := hr.ev y
  exact hry.toDU hpd
end Go.Proofs.Ytklkbfpjimeaoaa.E
namespace Go.Proofs.Ytklkbfpjimeaoaa.E
open Go Go.RowKit
theorem arg_agg {H : Type} {enc : TypeId × Value → H} {P : Program} {w : World} {sp : Nat → Bool} {held : Bool} {L : List TypeId} (hL : closedT P L = true) {t : TypeId} (ht : t ∈ L)
 {vs : Array Value} {d : DataW H} {ps : List MemPlace} (h : DataW.Trod enc P w 0 sp held t (.agg vs) d ps) (hw : ∀ n ∈ d.weights P t, n ≤ reachBytes) :
 ∃ ds : List D, DT P t ds ∧ Rd w (allOf w) (.agg ds) (.agg vs) := by
 obtain ⟨fuel, hf⟩ := h
 obtain ⟨ds, hdt, hl, hr⟩ := read hL fuel t _ _ ht hf hw
 have hc : (Value.agg vs).cells.toList = vs.toList := rfl
 rw [hc] at hl hr
 refine ⟨ds, hdt, .agg ds vs (by simpa using hl.symm) (fun i v hv => ?_) (fun i x v hx hv => (hr i x v hx (by simpa using hv)).1)⟩
 have hlt : i < ds.length := by rw [hl]; simpa using (Array.getElem?_eq_some_iff.1 hv).1
 exact (hr i _ v (gE hlt) (by simpa using hv)).2
theorem list_at {P : Program} {e : TypeId} {α : Type} {f : α → D} {Q : α → Prop} :
 ∀ (dss : List (List D)), (∀ (i : Nat) ds, dss[i]? = some ds → ∃ x, Q x ∧ D.mk P e ds = f x) → ∃ xs : List α, dss.map (D.mk P e) = xs.map f ∧ (∀ x ∈ xs, Q x) ∧ xs.length = dss.length
 | [], _ => ⟨[], rfl, fun x hx => (by cases hx), rfl⟩
 | ds :: r, hd => by
  obtain ⟨x, hq, hx⟩ := hd 0 ds rfl
  obtain ⟨xs, h1, h2, h3⟩ := list_at r (fun i d hi => hd (i + 1) d (by simpa using hi))
  exact ⟨x :: xs, by simp [hx, h1], fun y hy => by rcases List.mem_cons.1 hy with rfl | hy; exact hq; exact h2 y hy, by simp [h3]⟩
end Go.Proofs.Ytklkbfpjimeaoaa.E
namespace Go.Proofs.Ytklkbfpjimeaoaa.E
open Go
def depsOf (ops : Array Oper) (i : Nat) : List Nat := match ops[i]? with
 | some o => (o.after.toList.filter fun e => Region.binds .any e).map (·.on)
 | none => []
def upd (b : Nat → Bool) (i : Nat) : Nat → Bool := fun j => cond (Nat.beq j i) true (b j)
def noB : Nat → Bool := fun _ => false
def allB (n : Nat) : Nat → Bool := fun j => Nat.blt j n
def mkS (b : Nat → Bool) (es : List (Nat × Nat × PV)) : List (Nat × PV) := es.map fun x => (x.2.1, cond (b x.1) x.2.2 .undef)
def Valid (ops : Array Oper) (b : Nat → Bool) : Prop := ∀ j, b j = true → ∀ d ∈ depsOf ops j, b d = true
def Stp (K : Ctx) (ops : Array Oper) (M : (Nat → Bool) → List (List PV)) (base : List (Nat × PV)) (i : Nat) (sl r : List (Nat × PV)) : Prop :=
 ∀ (b : Nat → Bool) (rest : List (Nat × PV)), b i = false → (∀ j ∈ depsOf ops i, b j = true) → Valid ops b →
  GOps K ops (fun e s' => e = .normal ∧ s' = ⟨r ++ (sl ++ base ++ rest), M (upd b i)⟩) [i] ⟨sl ++ base ++ rest, M b⟩
inductive Conf (K : Ctx) (ops : Array Oper) (M : (Nat → Bool) → List (List PV)) (base : List (Nat × PV)) : Nat → List (Nat × Nat × PV) → List (Nat × Nat × PV) → Prop
 | done {i : Nat} {es : List (Nat × Nat × PV)} : i = ops.size → Conf K ops M base i es es
 | step {i : Nat} {es fs : List (Nat × Nat × PV)} {sl r : List (Nat × PV)} (hs : Stp K ops M base i sl r) (hsl : ∀ x ∈ sl, ∃ d ∈ depsOf ops i, (d, x) ∈ es) (hc : Conf K ops M base (i + 1) (es ++ r.map fun x => (i, x)) fs) : Conf K ops M base i es fs
variable {K : Ctx} {ops : Array Oper} {base : List (Nat × PV)} {i : Nat} {fs : List (Nat × Nat × PV)}
theorem Conf.le {M : (Nat → Bool) → List (List PV)} {es : List (Nat × Nat × PV)} (h : Conf K ops M base i es fs) : ∃ later, fs = es ++ later := by
 induction h with
 | done _ => exact ⟨[], by simp⟩
 | step _ _ _ ih => obtain ⟨l, h⟩ := ih; exact ⟨_, by rw [h, List.append_assoc]⟩
theorem Conf.idx {M : (Nat → Bool) → List (List PV)} {i0 : Nat} {es : List (Nat × Nat × PV)} (h : Conf K ops M base i0 es fs) : ∀ x ∈ fs, x ∈ es ∨ i0 ≤ x.1 := by
 induction h with
 | done _ => exact fun x hx => .inl hx
 | @step j es fs sl r hs hsl hc ih =>
  intro x hx
  rcases ih x hx with h | h
  · rcases List.mem_append.1 h with h | h
    · exact .inl h
    · obtain ⟨y, _, rfl⟩ := List.mem_map.1 h; exact .inr (Nat.le_refl _)
  · exact .inr (by omega)
theorem Conf.at {M : (Nat → Bool) → List (List PV)} {i0 : Nat} {es : List (Nat × Nat × PV)} (h : Conf K ops M base i0 es fs) (hes : ∀ x ∈ es, x.1 < i0) :
 ∀ i, i0 ≤ i → i < ops.size → ∃ sl r, Stp K ops M base i sl r ∧ (∀ x ∈ r, (i, x) ∈ fs) ∧ (∀ x, (i, x) ∈ fs → x ∈ r) ∧ ∀ x ∈ sl, ∃ d ∈ depsOf ops i, (d, x) ∈ fs := by
 induction h with
 | done h => intro i h1 h2; omega
 | @step j es fs sl r hs hsl hc ih =>
  intro i h1 h2
  have hes' : ∀ x ∈ es ++ r.map (fun x => (j, x)), x.1 < j + 1 := fun x hx => by
   rcases List.mem_append.1 hx with hx | hx
   · have := hes x hx; omega
   · obtain ⟨y, _, rfl⟩ := List.mem_map.1 hx; exact Nat.lt_succ_self _
  by_cases hij : i = j
  · subst hij
    obtain ⟨l, hl⟩ := hc.le
    refine ⟨sl, r, hs, fun x hx => ?_, fun x hx => ?_, fun x hx => ?_⟩
    · rw [hl]; simp only [List.mem_append, List.mem_map]; exact .inl (.inr ⟨x, hx, rfl⟩)
    · rcases hc.idx _ hx with h | h
      · rcases List.mem_append.1 h with h | h
        · have := hes _ h; simp at this
        · obtain ⟨y, hy, he⟩ := List.mem_map.1 h
          injection he with _ he
          exact he ▸ hy
      · simp at h; omega
    · obtain ⟨d, hd, hm⟩ := hsl x hx
      exact ⟨d, hd, by rw [hl]; simp only [List.mem_append]; exact .inl (.inl hm)⟩
  · exact ih hes' i (by omega) h2
theorem key_uniq : ∀ {fs : List (Nat × Nat × PV)}, (fs.map (·.2.1)).Nodup → ∀ {x y : Nat × Nat × PV}, x ∈ fs → y ∈ fs → x.2.1 = y.2.1 → x = y
 | [], _, _, _, h, _, _ => by cases h
 | z :: fs, hn, x, y, hx, hy, he => by
  rw [List.map_cons, List.nodup_cons] at hn
  rcases List.mem_cons.1 hx with rfl | hx'
  · rcases List.mem_cons.1 hy with rfl | hy'
    · rfl
    · exact absurd (List.mem_map.2 ⟨y, hy', he.symm⟩) hn.1
  · rcases List.mem_cons.1 hy with rfl | hy'
    · exact absurd (List.mem_map.2 ⟨x, hx', he⟩) hn.1
    · exact key_uniq hn.2 hx' hy' he
theorem lookup_isSome {l : List (Nat × PV)} {x : Nat × PV} (h : x ∈ l) : ∃ q, l.lookup x.1 = some q := by
 induction l with
 | nil => cases h
 | cons y l ih =>
  obtain ⟨k, q⟩ := y
  rw [List.lookup_cons]
  split
  · exact ⟨_, rfl⟩
  · rcases List.mem_cons.1 h with rfl | h
    · rename_i hb; simp at hb
    · exact ih h
theorem mkS_lookup {b : Nat → Bool} : ∀ {fs : List (Nat × Nat × PV)}, (fs.map (·.2.1)).Nodup → ∀ {i t : Nat} {p : PV}, (i, t, p) ∈ fs → (mkS b fs).lookup t = some (cond (b i) p .undef)
 | [], _, _, _, _, h => by cases h
 | x :: fs, hn, i, t, p, h => by
  rw [List.map_cons, List.nodup_cons] at hn
  simp only [mkS, List.map_cons, List.lookup_cons]
  rcases List.mem_cons.1 h with rfl | h
  · simp
  · have hne : (t == x.2.1) = false := by
     have : t ≠ x.2.1 := by rintro rfl; exact hn.1 (List.mem_map.2 ⟨_, h, rfl⟩)
     simpa using this
    rw [hne]
    exact mkS_lookup hn.2 h
theorem mkS_none {b : Nat → Bool} : ∀ {fs : List (Nat × Nat × PV)} {t : Nat}, t ∉ fs.map (·.2.1) → (mkS b fs).lookup t = none
 | [], _, _ => rfl
 | x :: fs, t, h => by
  simp only [List.map_cons, List.mem_cons, not_or] at h
  have hne : (t == x.2.1) = false := by simpa using h.1
  simp only [mkS, List.map_cons, List.lookup_cons, hne]
  exact mkS_none h.2
theorem lookup_append (l m : List (Nat × PV)) (t : Nat) : (l ++ m).lookup t = (l.lookup t).or (m.lookup t) := by
 induction l with
 | nil => simp
 | cons x l ih =>
  obtain ⟨k, p⟩ := x
  simp only [List.cons_append, List.lookup_cons]
  split
  · simp
  · exact ih
theorem lookup_mem' : ∀ (l : List (Nat × PV)) (t : Nat) (p : PV), l.lookup t = some p → (t, p) ∈ l
 | [], _, _, h => by cases h
 | (k, q) :: l, t, p, h => by
  rw [List.lookup_cons] at h
  split at h
  · rename_i hb
    injection h with h
    have := eq_of_beq hb
    subst this; subst h; simp
  · exact List.mem_cons_of_mem _ (lookup_mem' l t p h)
theorem Le_slots {s s' : GS} (hm : s'.mem = s.mem) (h : ∀ t p, s'.get t = some p → s.get t = some p ∨ p = .undef) : Le K s s' := by
 rintro a w ⟨S, O, m, hr⟩
 refine ⟨S, O, m, hm ▸ hr.env, hr.defers, hr.size, hr.pre, fun t p hp => ?_⟩
 rcases h t p hp with h | rfl
 · exact hr.slots t p h
 · exact .undef _ _
theorem beq_no {j : Nat} (h : ¬ j = i) : Nat.beq j i = false := by
 cases hb : Nat.beq j i with
 | false => rfl
 | true => exact absurd (Nat.eq_of_beq_eq_true hb) h
theorem beq_yes (j : Nat) : Nat.beq j j = true := Nat.beq_refl j
def bOf (listed : Array Bool) : Nat → Bool := fun j => listed.getD j false
variable {listed : Array Bool}
theorem bOf_set (hi : i < listed.size) : bOf (listed.setIfInBounds i true) = upd (bOf listed) i := by
 funext j
 unfold bOf upd
 by_cases hj : j = i
 · subst hj
   rw [beq_yes]; simp [Array.getD, hi]
 · have : Nat.beq j i = false := beq_no hj
   rw [this]
   simp only [cond_false, Array.getD_eq_getD_getElem?]
   rw [Array.getElem?_setIfInBounds_ne (Ne.symm hj)]
def open_ (listed : Array Bool) : Nat := (listed.toList.filter (!·)).length
theorem open_set (hi : i < listed.size) (hf : listed.getD i true = false) : open_ (listed.setIfInBounds i true) + 1 = open_ listed := by
 have key : ∀ (l : List Bool) (i : Nat), l[i]? = some false → ((l.set i true).filter (!·)).length + 1 = (l.filter (!·)).length := by
  intro l
  induction l with
  | nil => intro i h; simp at h
  | cons x l ih =>
   intro i h
   cases i with
   | zero => simp at h; subst h; simp
   | succ i =>
    have := ih i (by simpa using h)
    rw [List.set_cons_succ, List.filter_cons, List.filter_cons]
    split
    · rw [List.length_cons, List.length_cons]; omega
    · exact this
 unfold open_
 rw [show (listed.setIfInBounds i true).toList = listed.toList.set i true by simp]
 refine key _ i ?_
 have hl : listed[i]? = some listed[i] := Array.getElem?_eq_getElem hi
 rw [Array.getD_eq_getD_getElem?, hl] at hf
 rw [Array.getElem?_toList, hl]
 simpa using hf
theorem open_zero (h : open_ listed = 0) (i : Nat) (hi : i < listed.size) : listed.getD i true = true := by
 unfold open_ at h
 rw [List.length_eq_zero_iff, List.filter_eq_nil_iff] at h
 have := h listed[i] (by simp)
 rw [Array.getD_eq_getD_getElem?, Array.getElem?_eq_getElem hi]
 simpa using this
theorem depsOf_mem {o : Oper} (ho : ops[i]? = some o) {e : Edge} (he : e ∈ o.after) (hb : Region.binds .any e = true) : e.on ∈ depsOf ops i := by
 unfold depsOf
 rw [ho]
 exact List.mem_map.2 ⟨e, List.mem_filter.2 ⟨by simpa using he, hb⟩, rfl⟩
theorem G_conf {id : Nat} {Q : Exit → GS → Prop} {s s'' : GS} {M : (Nat → Bool) → List (List PV)} (n : Nat) (hn : ops.size = n) (hm : K.P.follows .mixedOrders = true)
 (hs : Le K s ⟨base, M noB⟩) (hc : Conf K ops M base 0 [] fs) (hnd : (fs.map (·.2.1)).Nodup) (hdis : ∀ x ∈ base, x.1 ∉ fs.map (·.2.1)) (hdep : ∀ i, i < n → ∀ d ∈ depsOf ops i, d < i)
 (hs'' : GS.mk (fs.map (·.2) ++ base) (M (allB n)) = s'') (hfi : ∀ x ∈ fs, x.1 < n) (hq : Q .normal s'') : G K (.region id ops true) Q s := by
 subst hn
 rintro a w ha
 obtain ⟨S, O, m, hr⟩ := hs a w ha
 have hd := hr.drew
 refine wp_mono (Q := endN K Q) (wp_region_any hm ?_) (fun e a' w' ⟨he, s', hq, hat⟩ => ⟨s', he ▸ hq, hat⟩)
 have hbl : ∀ {t p}, (base.lookup t) = some p → t ∉ fs.map (·.2.1) := fun h => hdis _ (lookup_mem' _ _ _ h)
 have key : ∀ fuel (listed : Array Bool) a w, listed.size = ops.size → open_ listed = fuel → Valid ops (bOf listed) → At K ⟨mkS (bOf listed) fs ++ base, M (bOf listed)⟩ a w → wpAny K.P .any ops (endN K Q) fuel listed a w := by
  intro fuel
  induction fuel with
  | zero =>
   intro listed a w hsz ho _ hat
   have hall : ∀ i, i < ops.size → listed.getD i true = true := fun i hi => open_zero ho i (by omega)
   have hb : bOf listed = allB ops.size := by
    funext j
    unfold bOf allB
    by_cases hj : j < ops.size
    · have := hall j hj
      rw [Array.getD_eq_getD_getElem?, Array.getElem?_eq_getElem (by omega)] at this
      rw [Array.getD_eq_getD_getElem?, Array.getElem?_eq_getElem (by omega)]
      simp at this ⊢
      rw [this]; exact (show Nat.blt j ops.size = true by rw [Nat.blt_eq]; exact hj).symm
    · rw [Array.getD_eq_getD_getElem?, Array.getElem?_eq_none (by omega)]
      have : Nat.blt j ops.size = false := by
       cases hb : Nat.blt j ops.size with
       | false => rfl
       | true => rw [Nat.blt_eq] at hb; omega
      rw [this]; rfl
   refine ⟨?_, rfl, s'', hq, ?_⟩
   · rw [List.eq_nil_iff_forall_not_mem]
     intro i hi
     obtain ⟨h1, o, ho, _⟩ := mem_ready.1 hi
     rw [hall i (Array.getElem?_eq_some_iff.1 ho).1] at h1; cases h1
   · rw [← hs'']
     refine Le_slots (s := ⟨mkS (bOf listed) fs ++ base, M (bOf listed)⟩) (by rw [hb]) (fun t p hp => .inl ?_) a w hat
     simp only [GS.get, lookup_append] at hp ⊢
     by_cases ht : t ∈ fs.map (·.2.1)
     · obtain ⟨⟨i, t', p'⟩, hx, rfl⟩ := List.mem_map.1 ht
       have h1 : (fs.map (·.2)).lookup t' = some p' := by
        have := mkS_lookup (b := fun _ => true) hnd hx
        simpa [mkS] using this
       rw [h1] at hp
       rw [mkS_lookup hnd hx, hb]
       have hlt := hfi _ hx
       have : allB ops.size i = true := (show Nat.blt i ops.size = true by rw [Nat.blt_eq]; exact hlt)
       rw [this]; simpa using hp
     · have h1 : (fs.map (·.2)).lookup t = none := by
        have := mkS_none (b := fun _ => true) ht
        simpa [mkS] using this
       rw [h1] at hp
       rw [mkS_none ht]; simpa using hp
  | succ fuel ih =>
   intro listed a w hsz ho hv hat
   refine ⟨fun hr0 => ?_, fun i hi => ?_⟩
   · exfalso
     -- the least one that is open is ready
     have hex : ∃ i, i < ops.size ∧ listed.getD i true = false := by
      refine Classical.byContradiction fun hne => ?_
      have : open_ listed = 0 := by
       unfold open_
       rw [List.length_eq_zero_iff, List.filter_eq_nil_iff]
       intro x hx
       obtain ⟨i, hi, rfl⟩ := List.mem_iff_getElem.1 hx
       have hi' : i < listed.size := by simpa using hi
       have h1 : ¬ (listed.getD i true = false) := fun h => hne ⟨i, by omega, h⟩
       rw [Array.getD_eq_getD_getElem?, Array.getElem?_eq_getElem hi'] at h1
       simpa using h1
      omega
     have hmin : ∀ k i, i ≤ k → i < ops.size → listed.getD i true = false → ∃ j, j < ops.size ∧ listed.getD j true = false ∧ ∀ d, d < j → listed.getD d true = true := by
      intro k
      induction k with
      | zero => intro i h1 h2 h3; exact ⟨i, h2, h3, fun d hd => by omega⟩
      | succ k ihk =>
       intro i h1 h2 h3
       by_cases hd : ∃ d, d < i ∧ listed.getD d true = false
       · obtain ⟨d, h4, h5⟩ := hd; exact ihk d (by omega) (by omega) h5
       · exact ⟨i, h2, h3, fun d hd' => by
          cases h : listed.getD d true with
          | true => rfl
          | false => exact absurd ⟨d, hd', h⟩ hd⟩
     obtain ⟨i, h2, h3⟩ := hex
     obtain ⟨j, hj1, hj2, hj3⟩ := hmin i i (Nat.le_refl _) h2 h3
     have : j ∈ Region.ready .any ops listed := mem_ready.2 ⟨hj2, ops[j], Array.getElem?_eq_getElem hj1, fun e he hb => by
      have hlt := hdep j hj1 _ (depsOf_mem (Array.getElem?_eq_getElem hj1) he hb)
      have := hj3 _ hlt
      rw [Array.getD_eq_getD_getElem?, Array.getElem?_eq_getElem (by omega)] at this ⊢
      simpa using this⟩
     rw [hr0] at this; cases this
   · obtain ⟨hi1, o, hoi, hi2⟩ := mem_ready.1 hi
     have hilt : i < ops.size := (Array.getElem?_eq_some_iff.1 hoi).1
     have hbi : bOf listed i = false := by
      unfold bOf
      rw [Array.getD_eq_getD_getElem?, Array.getElem?_eq_getElem (by omega)] at hi1 ⊢
      simpa using hi1
     have hbd : ∀ j ∈ depsOf ops i, bOf listed j = true := fun j hj => by
      unfold depsOf at hj
      rw [hoi] at hj
      obtain ⟨e, he, rfl⟩ := List.mem_map.1 hj
      obtain ⟨he1, he2⟩ := List.mem_filter.1 he
      exact hi2 e (by simpa using he1) he2
     obtain ⟨sl, r, hst, hr1, hr2, hsl⟩ := hc.at (fun x hx => by cases hx) i (Nat.zero_le _) hilt
     have hle : Le K ⟨mkS (bOf listed) fs ++ base, M (bOf listed)⟩ ⟨sl ++ base ++ (mkS (bOf listed) fs), M (bOf listed)⟩ := Le_slots rfl fun t p hp => by
      simp only [GS.get, lookup_append] at hp ⊢
      cases h1 : sl.lookup t with
      | some q =>
       rw [h1] at hp
       have hqp : q = p := by simpa using hp
       subst hqp
       obtain ⟨d, hd, hmem⟩ := hsl _ (lookup_mem' _ _ _ h1)
       left
       rw [mkS_lookup hnd hmem, hbd d hd]; rfl
      | none =>
       rw [h1] at hp
       cases h2 : base.lookup t with
       | some q =>
        rw [h2] at hp
        left
        rw [mkS_none (hbl h2)]; simpa using hp
       | none =>
        rw [h2] at hp
        left
        have h3 : (mkS (bOf listed) fs).lookup t = some p := by simpa using hp
        rw [h3]; rfl
     have h1 := hst (bOf listed) (mkS (bOf listed) fs) hbi hbd hv a w (hle a w hat)
     rw [wpOps_cons] at h1
     refine wpOp_to ?_ ?_ h1
     · rintro e a' w' hne' ⟨s', ⟨he, _⟩, _⟩
       exact absurd he hne'
     · intro a' w' h2
       obtain ⟨s', ⟨_, rfl⟩, hat'⟩ := (h2 : ∃ s', _ ∧ _)
       have hset := bOf_set (listed := listed) (i := i) (by omega)
       refine ih (listed.setIfInBounds i true) a' w' (by simpa using hsz) (by have := open_set (listed := listed) (i := i) (by omega) hi1; omega) ?_ ?_
       · rw [hset]
         intro j hj d hdj
         unfold upd at hj ⊢
         cases hdi : Nat.beq d i with
         | true => rfl
         | false =>
          simp only [cond_false]
          cases hji : Nat.beq j i with
          | true =>
           have : j = i := Nat.eq_of_beq_eq_true hji
           subst this; exact hbd d hdj
          | false => rw [hji] at hj; exact hv j (by simpa using hj) d hdj
       · rw [hset]
         refine Le_slots (s := ⟨r ++ (sl ++ base ++ mkS (bOf listed) fs), M (upd (bOf listed) i)⟩) (s' := ⟨mkS (upd (bOf listed) i) fs ++ base, M (upd (bOf listed) i)⟩) rfl (fun t p hp => ?_) a' w' hat'
         simp only [GS.get, lookup_append] at hp ⊢
         by_cases ht : t ∈ fs.map (·.2.1)
         · obtain ⟨⟨j, t', p'⟩, hx, rfl⟩ := List.mem_map.1 ht
           rw [mkS_lookup hnd hx] at hp
           have hp' : cond (upd (bOf listed) i j) p' PV.undef = p := by simpa using hp
           left
           by_cases hji : j = i
           · subst hji
             have hu : upd (bOf listed) j j = true := by
              unfold upd
              rw [beq_yes]; rfl
             rw [hu] at hp'
             have hpp : p' = p := hp'
             subst hpp
             obtain ⟨q, hq⟩ := lookup_isSome (hr2 _ hx)
             have := key_uniq hnd (hr1 _ (lookup_mem' _ _ _ hq)) hx rfl
             injection this with _ this
             injection this with _ this
             subst this
             show (r.lookup t').or _ = _
             rw [show r.lookup t' = some q from hq]; rfl
           · have hu : upd (bOf listed) i j = bOf listed j := by
              unfold upd
              rw [beq_no hji]; rfl
             rw [hu] at hp'
             have hrn : r.lookup t' = none := by
              cases hrl : r.lookup t' with
              | none => rfl
              | some q =>
               exfalso
               have := key_uniq hnd (hr1 _ (lookup_mem' _ _ _ hrl)) hx rfl
               injection this with this _
               exact hji this.symm
             have hbn : base.lookup t' = none := by
              cases hb : base.lookup t' with
              | none => rfl
              | some q => exact absurd ht (hbl hb)
             show (r.lookup t').or _ = _
             rw [hrn, hbn, mkS_lookup hnd hx]
             cases hsll : sl.lookup t' with
             | some q =>
              obtain ⟨d, hd, hmem⟩ := hsl _ (lookup_mem' _ _ _ hsll)
              have := key_uniq hnd hmem hx rfl
              injection this with h1 h2
              injection h2 with _ h2
              subst h1; subst h2
              rw [hbd d hd] at hp'
              have hpp : q = p := hp'
              rw [hpp]; rfl
             | none => rw [hp']; rfl
         · rw [mkS_none ht] at hp
           have hp' : base.lookup t = some p := by simpa using hp
           have hrn : r.lookup t = none := by
            cases hrl : r.lookup t with
            | none => rfl
            | some q => exact absurd (List.mem_map.2 ⟨_, hr1 _ (lookup_mem' _ _ _ hrl), rfl⟩) ht
           have hsn : sl.lookup t = none := by
            cases hrl : sl.lookup t with
            | none => rfl
            | some q =>
             obtain ⟨d, _, hmem⟩ := hsl _ (lookup_mem' _ _ _ hrl)
             exact absurd (List.mem_map.2 ⟨_, hmem, rfl⟩) ht
           left
           rw [hrn, hsn, hp']; rfl
 have hb0 : bOf (Array.replicate ops.size false) = noB := by
  funext j
  unfold bOf noB
  rw [Array.getD_eq_getD_getElem?, Array.getElem?_replicate]
  split <;> rfl
 refine key ops.size (Array.replicate ops.size false) a w.drew (by simp) (by simp [open_]) ?_ ?_
 · rw [hb0]; intro j hj; cases hj
 · rw [hb0]
   refine Le_slots (s := ⟨base, M noB⟩) (s' := ⟨mkS noB fs ++ base, M noB⟩) rfl (fun t p hp => ?_) a w.drew ⟨S, O, m, hd⟩
   simp only [GS.get, lookup_append] at hp ⊢
   by_cases ht : t ∈ fs.map (·.2.1)
   · obtain ⟨⟨j, t', p'⟩, hx, rfl⟩ := List.mem_map.1 ht
     rw [mkS_lookup hnd hx] at hp
     right
     have : PV.undef = p := by simpa [noB] using hp
     exact this.symm
   · rw [mkS_none ht] at hp
     left; simpa using hp
end Go.Proofs.Ytklkbfpjimeaoaa.E
