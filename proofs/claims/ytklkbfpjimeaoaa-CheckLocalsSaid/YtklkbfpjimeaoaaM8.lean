import Derived.Test.YtklkbfpjimeaoaaM7
import Derived.IntWalk
import Derived.Below
import Derived.SizedLaws
import Derived.ChangeArms
import Derived.DataReads
/- Contracts of functions. Conditions: none. -/
set_option linter.unusedSimpArgs false
set_option linter.unusedVariables false
namespace Go.Proofs.Ytklkbfpjimeaoaa.E
open Go Go.RowKit
section
def allOf (W : World) : Reg := fun b _ => b < W.heap.size
theorem Env.start (W : World) : Env (allOf W) noOwns W (allOf W) noOwns [] [] W where
 ext := Ext.refl _ W
 old := fun _ _ _ => rfl
 part := fun _ _ _ _ _ h => by cases h
 s0 := fun _ _ h => h
 snew := fun _ _ h => .inl h
 sown := fun _ _ _ _ _ h => by cases h
 slt := fun _ _ h => h
 olt := fun _ _ _ h => by cases h
 onew := fun _ _ _ h => by cases h
 mlen := rfl
 mem := fun _ _ _ h => by simp at h
theorem Env.below {W w' : World} {S0 S' : Reg} {O' : Owns} {m' : List Nat} {mem' : List (List PV)} (h : Env S0 noOwns W S' O' m' mem' w') : Below W.heap.size W w' :=
 ⟨h.ext.os, h.ext.tape, h.ext.output, h.ext.size, fun k hk => h.old k hk rfl⟩
theorem Pure.row {P : Program} {f : FuncId} {ds : List D} {b : Bool} (h : Pure P f ds (.d (.bool b))) (W : World) (vals : Array Value) (hsz : vals.size = ds.length)
 (hr : ∀ (i : Nat) d v, ds[i]? = some d → vals[i]? = some v → Rd W (allOf W) d v) :
 Calls P f vals W fun e w' => e = .returned (.bool b) ∧ Below W.heap.size W w' := by
 refine (h W (allOf W) noOwns [] vals (Env.start W) (by simpa using hsz) ?_).mono ?_
 · intro i p v hi hv
   rw [List.getElem?_map] at hi
   cases hd : ds[i]? with
   | none => rw [hd] at hi; cases hi
   | some d =>
    rw [hd] at hi
    cases hi
    exact .d _ d v (hr i d v hd hv)
 · rintro e w' ⟨v, r, mem', S', O', m', rfl, ⟨rfl, rfl⟩, henv, _, hrp⟩
   refine ⟨?_, henv.below⟩
   cases hrp with
   | d _ _ _ hd => rw [rd_bool hd]
end
section
def D.mk (P : Program) (e : TypeId) (ds : List D) : D := match P.underlying e with | some (.struct _) => .agg ds | _ => ds.headD .nil
inductive DT (P : Program) : TypeId → List D → Prop
 | bool (t : TypeId) (b : Bool) : P.underlying t = some .bool → DT P t [.bool b]
 | int (t : TypeId) (k : IntKind) (n : Int) : P.underlying t = some (.int k) → (Lit.int k n).wf = true → DT P t [.int k n]
 | str (t : TypeId) (s : ByteArray) : P.underlying t = some .string → s.size ≤ reachBytes → DT P t [.str s]
 | nil (t e : TypeId) : P.underlying t = some (.pointer e) → DT P t [.nil]
 | ptr (t e : TypeId) (ds : List D) : P.underlying t = some (.pointer e) → DT P e ds → DT P t [.ptr (D.mk P e ds)]
 | sl (t e : TypeId) (dss : List (List D)) : P.underlying t = some (.slice e) → dss.length ≤ reachBytes → (∀ (i : Nat) ds, dss[i]? = some ds → DT P e ds) → DT P t [.sl (dss.map (D.mk P e))]
 | struct (t : TypeId) (fs : Array Field) (ds : List D) : P.underlying t = some (.struct fs) → ds.length = P.cellsOf t →
  (∀ (i : Nat) f, fs[i]? = some f → DT P f.type ((ds.drop f.offset).take (P.cellsOf f.type))) → DT P t ds
variable {P : Program} {e : TypeId}
theorem DT.cells {ds : List D} (h : DT P e ds) : (D.mk P e ds).cells = ds := by
 cases h with
 | bool _ b hu => simp [D.mk, hu, D.cells]
 | int _ k n hu => simp [D.mk, hu, D.cells]
 | str _ s hu => simp [D.mk, hu, D.cells]
 | nil _ _ hu => simp [D.mk, hu, D.cells]
 | ptr _ _ ds hu => simp [D.mk, hu, D.cells]
 | sl _ _ dss hu => simp [D.mk, hu, D.cells]
 | struct _ fs ds hu => simp [D.mk, hu, D.cells]
def layoutEnd (P : Program) : Nat → List Field → Option Nat
 | off, [] => some off
 | off, f :: r => if f.offset = off then layoutEnd P (off + P.cellsOf f.type) r else none
theorem layout_le : ∀ (fl : List Field) (off n : Nat), layoutEnd P off fl = some n → off ≤ n ∧ ∀ f ∈ fl, off ≤ f.offset ∧ f.offset + P.cellsOf f.type ≤ n
 | [], off, n, h => by simp only [layoutEnd] at h; injection h with h; exact ⟨by omega, fun f hf => by cases hf⟩
 | f :: r, off, n, h => by
  simp only [layoutEnd] at h
  split at h
  · rename_i ho
    obtain ⟨h1, h2⟩ := layout_le r _ n h
    refine ⟨by omega, fun g hg => ?_⟩
    rcases List.mem_cons.1 hg with rfl | hg
    · omega
    · have := h2 g hg; omega
  · cases h
def closedT (P : Program) (L : List TypeId) : Bool := L.all fun t => match P.underlying t with
 | some .bool | some (.int _) | some .string => true
 | some (.pointer e) => L.contains e && decide (0 < P.cellsOf e)
 | some (.slice e) => L.contains e && decide (0 < P.bytesOf e)
 | some (.struct fs) => fs.toList.all (fun f => L.contains f.type) && (layoutEnd P 0 fs.toList == some (P.cellsOf t))
 | _ => false
def Good (P : Program) (w : World) (t : TypeId) (cs : List Value) : Prop :=
 ∃ ds, DT P t ds ∧ ds.length = cs.length ∧ ∀ (i : Nat) d v, ds[i]? = some d → cs[i]? = some v → Rd w (allOf w) d v ∧ v.oneCell' = true
variable {w : World}
theorem spot_of {a : Addr} {v : Value} (h : w.cell? a = some v) : a.spot = none ∧ a.block < w.heap.size := by
 unfold World.cell? at h
 split at h
 · rename_i c _ _ hb
   refine ⟨?_, (Array.getElem?_eq_some_iff.1 hb).1⟩
   split at h
   · cases h
   · rename_i hs; cases hsp : a.spot with
     | none => rfl
     | some x => simp [hsp] at hs
 · cases h
variable {t : TypeId}
theorem one {d : D} {v : Value} (hd : DT P t [d]) (hr : Rd w (allOf w) d v) (ho : v.oneCell' = true) : Good P w t [v] :=
 ⟨[d], hd, rfl, fun i x u hx hu => by
  cases i with
  | zero => simp at hx hu; subst hx; subst hu; exact ⟨hr, ho⟩
  | succ i => simp at hx⟩
theorem fields_good : ∀ (fl : List Field) (off : Nat) (cs : List Value), layoutEnd P off fl = some (off + cs.length) →
 (∀ f ∈ fl, Good P w f.type ((cs.drop (f.offset - off)).take (P.cellsOf f.type))) →
 ∃ ds : List D, ds.length = cs.length ∧ (∀ (i : Nat) d v, ds[i]? = some d → cs[i]? = some v → Rd w (allOf w) d v ∧ v.oneCell' = true) ∧
  ∀ f ∈ fl, DT P f.type ((ds.drop (f.offset - off)).take (P.cellsOf f.type))
 | [], off, cs, h, _ => by
  simp only [layoutEnd] at h
  injection h with h
  have : cs = [] := List.eq_nil_of_length_eq_zero (by omega)
  subst this
  exact ⟨[], rfl, fun i d v hd => by simp at hd, fun f hf => by cases hf⟩
 | f :: r, off, cs, h, hg => by
  simp only [layoutEnd] at h
  split at h
  · rename_i ho
    obtain ⟨hle, hin⟩ := layout_le r _ _ h
    have hc : P.cellsOf f.type ≤ cs.length := by omega
    obtain ⟨ds1, ht1, hl1, hr1⟩ := hg f (List.mem_cons_self ..)
    rw [show f.offset - off = 0 by omega, List.drop_zero] at hl1 hr1
    rw [List.length_take, Nat.min_eq_left hc] at hl1
    have h' : layoutEnd P (off + P.cellsOf f.type) r = some (off + P.cellsOf f.type + (cs.drop (P.cellsOf f.type)).length) := by
     rw [h, List.length_drop]; congr 1; omega
    obtain ⟨ds2, hl2, hr2, ht2⟩ := fields_good r (off + P.cellsOf f.type) (cs.drop (P.cellsOf f.type)) h' (fun g hgm => by
     have := hg g (List.mem_cons_of_mem _ hgm)
     rw [List.drop_drop, show P.cellsOf f.type + (g.offset - (off + P.cellsOf f.type)) = g.offset - off by have := hin g hgm; omega]
     exact this)
    rw [List.length_drop] at hl2
    have hdt : ∀ g : Field, (off + P.cellsOf f.type ≤ g.offset) → (ds1 ++ ds2).drop (g.offset - off) = ds2.drop (g.offset - (off + P.cellsOf f.type)) := by
     intro g hgo
     rw [List.drop_append, List.drop_eq_nil_of_le (by omega), List.nil_append]
     congr 1; omega
    refine ⟨ds1 ++ ds2, by rw [List.length_append]; omega, fun i d v hd hv => ?_, fun g hgm => ?_⟩
    · by_cases hi : i < ds1.length
      · rw [List.getElem?_append_left hi] at hd
        exact hr1 i d v hd (by rw [List.getElem?_take, if_pos (by omega)]; exact hv)
      · rw [List.getElem?_append_right (by omega)] at hd
        exact hr2 (i - ds1.length) d v hd (by rw [List.getElem?_drop, ← hl1]; rw [show ds1.length + (i - ds1.length) = i by omega]; exact hv)
    · rcases List.mem_cons.1 hgm with rfl | hgm
      · rw [show g.offset - off = 0 by omega, List.drop_zero, ← hl1, List.take_left]; rw [hl1] at *; exact ht1
      · rw [hdt g (hin g hgm).1]; exact ht2 g hgm
  · cases h
variable {H : Type}
theorem weights_mem_all : ∀ {ds : List (DataW H)} {d : DataW H}, d ∈ ds → ∀ n ∈ d.weights P e, n ∈ DataW.weightsAll P e ds
 | x :: r, d, h, n, hn => by
  simp only [DataW.weightsAll, List.mem_append]
  rcases List.mem_cons.1 h with rfl | h
  · exact .inl hn
  · exact .inr (weights_mem_all h n hn)
theorem read {enc : TypeId × Value → H} {base : Nat} {sp : Nat → Bool} {held : Bool} {L : List TypeId} (hL : closedT P L = true) :
 ∀ (fuel : Nat) (t : TypeId) (cs : List Value) (x : DataW H × List MemPlace), t ∈ L → DataW.trod enc P w base sp held fuel t cs = some x → (∀ n ∈ x.1.weights P t, n ≤ reachBytes) → Good P w t cs := by
 intro fuel
 induction fuel with
 | zero => intro t cs x _ h; simp [DataW.trod] at h
 | succ fuel ih =>
  intro t cs x ht h hw
  have hc := List.all_eq_true.1 hL t ht
  cases hu : P.underlying t with
  | none => rw [hu] at hc; cases hc
  | some desc =>
   rw [hu] at hc
   cases desc with
   | bool =>
    obtain ⟨b, rfl, rfl⟩ := DataW.trod_bool hu h
    exact one (.bool t b hu) (.bool b) rfl
   | int k =>
    obtain ⟨n, rfl, rfl, hwf⟩ := DataW.trod_int hu h
    exact one (.int t k n hu hwf) (.int k n) rfl
   | string =>
    obtain ⟨s, rfl, rfl, _⟩ := DataW.trod_string hu h
    have := hw s.data.toList.length (by simp [DataW.weights])
    have hs : s.size ≤ reachBytes := by rw [Array.length_toList] at this; exact this
    exact one (.str t s hu hs) (.str s) rfl
   | pointer e =>
    simp only [Bool.and_eq_true, decide_eq_true_eq, List.contains_iff_mem] at hc
    rcases DataW.trod_pointer hu h with ⟨rfl, rfl⟩ | ⟨a, cs', y, n, hn, rfl, rfl, hcells, ht'⟩
    · exact one (.nil t e hu) .nil rfl
    · obtain rfl : fuel = n := by omega
      obtain ⟨_, hlen, hat⟩ := World.cells?_some hcells
      obtain ⟨ds, hdt, hdl, hrd⟩ := ih e cs' y hc.1 ht' (fun m hm => hw m (by simpa [DataW.weights, hu] using hm))
      have hcell : ∀ (j : Nat), j < cs'.length → ∃ v, cs'[j]? = some v ∧ w.cell? (a.add j) = some v := fun j hj =>
       ⟨_, gE hj, by rw [hat j (by omega)]; exact gE hj⟩
      obtain ⟨v0, _, hv0⟩ := hcell 0 (by omega)
      have hsp : a.spot = none := by have := (spot_of hv0).1; simpa [Addr.add] using this
      have hadd : ∀ j, a.add j = ⟨a.block, a.off + j, none⟩ := fun j => by rw [show a = ⟨a.block, a.off, none⟩ by cases a; simp_all]; exact add_at _ _ _
      refine one (.ptr t e ds hu hdt) (.ptr _ a hsp (fun j d hj => ?_) (fun j d v hj hv => ?_)) rfl
      · rw [hdt.cells] at hj
        have hjl := (lG hj)
        obtain ⟨v, hv1, hv2⟩ := hcell j (by omega)
        rw [hadd] at hv2
        exact ⟨(spot_of hv2).2, v, hv2, (hrd j d v hj hv1).2⟩
      · rw [hdt.cells] at hj
        have hjl := (lG hj)
        obtain ⟨v', hv1, hv2⟩ := hcell j (by omega)
        rw [hadd, hv] at hv2
        injection hv2 with hv2
        subst hv2
        exact (hrd j d v hj hv1).1
   | slice e =>
    simp only [Bool.and_eq_true, decide_eq_true_eq, List.contains_iff_mem] at hc
    rcases DataW.trod_slice hu h with ⟨rfl, rfl⟩ | ⟨a, len, cap, elems, rest, n, hn, rfl, rfl, _, hlc, _, hel, hall, _, _⟩
    · refine one (.sl t e [] hu (by simp [reachBytes]) (fun i ds h => by simp at h)) ?_ rfl
      exact .sl [] none 0 0 (by simp) (by simp [lim]) (by simp) (fun _ => rfl) (fun _ h => by cases h) (fun _ _ _ _ _ _ h => by cases h)
    · obtain rfl : fuel = n := by omega
      have hlen : len ≤ reachBytes := by
       have := hw ((elems.map (·.1)).length * P.bytesOf e + (rest.map (·.1)).length * P.bytesOf e) (by simp [DataW.weights, hu, Nat.add_mul])
       rw [List.length_map, hel] at this
       have h1 : len * 1 ≤ len * P.bytesOf e := Nat.mul_le_mul_left _ hc.2
       omega
      have hget : ∀ i, i < len → ∃ cs', w.cells? base (a.add (i * P.cellsOf e)) (P.cellsOf e) = some cs' ∧ Good P w e cs' := by
       intro i hi
       have hb := hall i hi
       have he : elems[i]? = some (elems[i]'(by omega)) := gE (by omega)
       rw [he] at hb
       obtain ⟨cs', h1, h2⟩ := Option.bind_eq_some_iff.1 hb
       refine ⟨cs', h1, ih e cs' _ hc.1 h2 (fun m hm => hw m ?_)⟩
       have hmem : (elems[i]'(by omega)).1 ∈ elems.map (·.1) := List.mem_map_of_mem (List.getElem_mem _)
       simp only [DataW.weights, hu, List.mem_cons, List.mem_append]
       exact .inr (.inl (weights_mem_all hmem m hm))
      have hex : ∀ i, ∃ ds : List D, i < len → ∃ cs', w.cells? base (a.add (i * P.cellsOf e)) (P.cellsOf e) = some cs' ∧ DT P e ds ∧ ds.length = cs'.length ∧
       ∀ (j : Nat) d v, ds[j]? = some d → cs'[j]? = some v → Rd w (allOf w) d v ∧ v.oneCell' = true := fun i => by
       by_cases hi : i < len
       · obtain ⟨cs', h1, ds, h2⟩ := hget i hi
         exact ⟨ds, fun _ => ⟨cs', h1, h2⟩⟩
       · exact ⟨[], fun h => absurd h hi⟩
      let F : Nat → List D := fun i => Classical.choose (hex i)
      have hF : ∀ i, i < len → ∃ cs', w.cells? base (a.add (i * P.cellsOf e)) (P.cellsOf e) = some cs' ∧ DT P e (F i) ∧ (F i).length = cs'.length ∧
       ∀ (j : Nat) d v, (F i)[j]? = some d → cs'[j]? = some v → Rd w (allOf w) d v ∧ v.oneCell' = true := fun i => Classical.choose_spec (hex i)
      have hspot : ∀ i j, i < len → j < P.cellsOf e → a.spot = none := by
       intro i j hi hj
       obtain ⟨cs', h1, _⟩ := hF 0 (by omega)
       obtain ⟨_, hl, hat⟩ := World.cells?_some h1
       have := hat 0 (by omega)
       rw [gE (by omega)] at this
       have := (spot_of this).1
       simpa [Addr.add] using this
      have hcellF : ∀ i j y, i < len → (F i)[j]? = some y → a.spot = none ∧ ∃ v, w.cell? ⟨a.block, a.off + (i * P.cellsOf e + j), none⟩ = some v ∧ Rd w (allOf w) y v ∧ v.oneCell' = true := by
       intro i j y hi hj
       obtain ⟨cs', h1, h2, h3, h4⟩ := hF i hi
       obtain ⟨_, hl, hat⟩ := World.cells?_some h1
       have hjl := (lG hj)
       have hs := hspot i j hi (by omega)
       have hadd : ∀ j, a.add j = ⟨a.block, a.off + j, none⟩ := fun j => by rw [show a = ⟨a.block, a.off, none⟩ by cases a; simp_all]; exact add_at _ _ _
       have hv : cs'[j]? = some (cs'[j]'(by omega)) := gE (by omega)
       have hc2 := hat j (by omega)
       rw [hv, hadd, add_at, Nat.add_assoc] at hc2
       exact ⟨hs, _, hc2, h4 j y _ hj hv⟩
      have hxs : ((List.range len).map F).map (D.mk P e) = (List.range len).map fun i => D.mk P e (F i) := by rw [List.map_map]; rfl
      refine one (d := .sl (((List.range len).map F).map (D.mk P e))) (.sl t e ((List.range len).map F) hu (by simpa using hlen) (fun i ds hds => ?_)) ?_ rfl
      · rw [List.getElem?_map] at hds
        cases hi : (List.range len)[i]? with
        | none => simp [hi] at hds
        | some i' =>
         obtain ⟨hlt, rfl⟩ := List.getElem?_eq_some_iff.1 hi
         simp only [hi, Option.map_some, List.getElem_range, Option.some.injEq] at hds
         subst hds
         obtain ⟨_, _, h2, _⟩ := hF i (by simpa using hlt)
         exact h2
      · rw [hxs]
        have hg : ∀ (i : Nat) z, ((List.range len).map fun i => D.mk P e (F i))[i]? = some z → i < len ∧ z.cells = F i := by
         intro i z hz
         rw [List.getElem?_map] at hz
         cases hi : (List.range len)[i]? with
         | none => simp [hi] at hz
         | some i' =>
          obtain ⟨hlt, rfl⟩ := List.getElem?_eq_some_iff.1 hi
          simp only [hi, Option.map_some, List.getElem_range, Option.some.injEq] at hz
          subst hz
          obtain ⟨_, _, h2, _⟩ := hF i (by simpa using hlt)
          exact ⟨by simpa using hlt, h2.cells⟩
        have hrl : ((List.range len).map fun i => D.mk P e (F i)).length = len := by simp
        have key := Rd.sl (w := w) (S := allOf w) ((List.range len).map fun i => D.mk P e (F i)) (some a) cap (P.cellsOf e) (by rw [hrl]; exact hlc) (by rw [hrl]; unfold reachBytes at hlen; unfold lim; omega) ?_ (fun h => by cases h) ?_ ?_
        · rw [hrl] at key; exact key
        · intro z hz
          obtain ⟨i, hi, hz'⟩ := List.mem_iff_getElem?.1 hz |>.imp fun i h => And.intro h (hg i z h)
          obtain ⟨hil, hcz⟩ := hz'
          obtain ⟨cs', h1, h2, h3, _⟩ := hF i hil
          rw [hcz, h3]
          exact (World.cells?_some h1).2.1
        · intro ad had i z j y hz hy
          injection had with had; subst had
          obtain ⟨hil, hcz⟩ := hg i z hz
          rw [hcz] at hy
          obtain ⟨hs, v, hv, _, ho⟩ := hcellF i j y hil hy
          exact ⟨hs, (spot_of hv).2, v, hv, ho⟩
        · intro ad i z j y v had hz hy hv
          injection had with had; subst had
          obtain ⟨hil, hcz⟩ := hg i z hz
          rw [hcz] at hy
          obtain ⟨_, v', hv', hr', _⟩ := hcellF i j y hil hy
          rw [hv] at hv'
          injection hv' with hv'
          subst hv'
          exact hr'
   | struct fs =>
    simp only [Bool.and_eq_true, List.all_eq_true, List.contains_iff_mem, beq_iff_eq] at hc
    obtain ⟨xs, n, hn, rfl, hlen, hxl, hf⟩ := DataW.trod_struct hu h
    obtain rfl : fuel = n := by omega
    have hgood : ∀ f ∈ fs.toList, Good P w f.type ((cs.drop (f.offset - 0)).take (P.cellsOf f.type)) := by
     intro f hfm
     obtain ⟨i, hi, hfi⟩ := List.mem_iff_getElem.1 hfm
     have hif : fs[i]? = some f := by rw [← Array.getElem?_toList, gE hi, hfi]
     have hlt : i < fs.size := (Array.getElem?_eq_some_iff.1 hif).1
     have h1 := hf i f hif
     have hx : xs[i]? = some (xs[i]'(by omega)) := gE (by omega)
     rw [hx] at h1
     rw [Nat.sub_zero]
     refine ih f.type _ _ (hc.1 f hfm) h1 (fun m hm => hw m ?_)
     simp only [DataW.weights, hu]
     exact DataW.weights_mem_each (j := i) (t := f.type) (d := (xs[i]'(by omega)).1) (by rw [List.getElem?_map, Array.getElem?_toList, hif]; rfl) (by rw [List.getElem?_map, hx]; rfl) m hm
    obtain ⟨ds, h1, h2, h3⟩ := fields_good fs.toList 0 cs (by rw [hc.2, hlen]; simp) hgood
    refine ⟨ds, .struct t fs ds hu (by rw [h1, hlen]) (fun i f hif => ?_), h1, h2⟩
    have := h3 f (by rw [← Array.getElem?_toList] at hif; exact mG hif)
    rwa [Nat.sub_zero] at this
   | float _ => cases hc
   | _ => cases hc
theorem list_of {α : Type} {f : α → D} {Q : α → Prop} (h : ∀ ds, DT P e ds → ∃ x, Q x ∧ D.mk P e ds = f x) :
 ∀ (dss : List (List D)), (∀ (i : Nat) ds, dss[i]? = some ds → DT P e ds) → ∃ xs : List α, dss.map (D.mk P e) = xs.map f ∧ (∀ x ∈ xs, Q x) ∧ xs.length = dss.length
 | [], _ => ⟨[], rfl, fun x hx => (by cases hx), rfl⟩
 | ds :: r, hd => by
  obtain ⟨x, hq, hx⟩ := h ds (hd 0 ds rfl)
  obtain ⟨xs, h1, h2, h3⟩ := list_of h r (fun i d hi => hd (i + 1) d (by simpa using hi))
  exact ⟨x :: xs, by simp [hx, h1], fun y hy => by rcases List.mem_cons.1 hy with rfl | hy; exact hq; exact h2 y hy, by simp [h3]⟩
theorem arg_sl {enc : TypeId × Value → H} {sp : Nat → Bool} {held : Bool} {L : List TypeId} (hL : closedT P L = true) {t e : TypeId} (ht : t ∈ L) (hu : P.underlying t = some (.slice e))
 {a : Option Addr} {len cap : Nat} {d : DataW H} {ps : List MemPlace} (h : DataW.Trod enc P w 0 sp held t (.slice a len cap) d ps) (hw : ∀ n ∈ d.weights P t, n ≤ reachBytes) :
 ∃ dss : List (List D), Rd w (allOf w) (.sl (dss.map (D.mk P e))) (.slice a len cap) ∧ dss.length ≤ reachBytes ∧ ∀ (i : Nat) ds, dss[i]? = some ds → DT P e ds := by
 obtain ⟨fuel, hf⟩ := h
 obtain ⟨ds, hdt, hl, hr⟩ := read hL fuel t _ _ ht hf hw
 have hc : (Value.slice a len cap).cells.toList = [Value.slice a len cap] := rfl
 rw [hc] at hr
 cases hdt with
 | bool _ _ h => rw [hu] at h; cases h
 | int _ _ _ h => rw [hu] at h; cases h
 | str _ _ h => rw [hu] at h; cases h
 | nil _ _ h => rw [hu] at h; cases h
 | ptr _ _ _ h => rw [hu] at h; cases h
 | struct _ _ _ h => rw [hu] at h; cases h
 | sl _ e' dss h hlen hall =>
  rw [hu] at h
  injection h with h
  injection h with h
  subst h
  exact ⟨dss, (hr 0 _ _ rfl rfl).1, hlen, hall⟩
theorem DT.int_of {k : IntKind} {ds : List D} (h : DT P t ds) (hu : P.underlying t = some (.int k)) : ∃ n, ds = [.int k n] ∧ (Lit.int k n).wf = true := by
 cases h with
 | int _ k' n h hwf => rw [hu] at h; injection h with h; injection h with h; subst h; exact ⟨n, rfl, hwf⟩
 | bool _ _ h => rw [hu] at h; cases h
 | str _ _ h => rw [hu] at h; cases h
 | nil _ _ h => rw [hu] at h; cases h
 | ptr _ _ _ h => rw [hu] at h; cases h
 | struct _ _ _ h => rw [hu] at h; cases h
 | sl _ _ _ h => rw [hu] at h; cases h
theorem DT.bool_of {ds : List D} (h : DT P t ds) (hu : P.underlying t = some .bool) : ∃ b, ds = [.bool b] := by
 cases h with
 | bool _ b h => exact ⟨b, rfl⟩
 | int _ _ _ h => rw [hu] at h; cases h
 | str _ _ h => rw [hu] at h; cases h
 | nil _ _ h => rw [hu] at h; cases h
 | ptr _ _ _ h => rw [hu] at h; cases h
 | struct _ _ _ h => rw [hu] at h; cases h
 | sl _ _ _ h => rw [hu] at h; cases h
theorem DT.str_of {ds : List D} (h : DT P t ds) (hu : P.underlying t = some .string) : ∃ s, ds = [.str s] ∧ s.size ≤ reachBytes := by
 cases h with
 | str _ s h hs => exact ⟨s, rfl, hs⟩
 | bool _ _ h => rw [hu] at h; cases h
 | int _ _ _ h => rw [hu] at h; cases h
 | nil _ _ h => rw [hu] at h; cases h
 | ptr _ _ _ h => rw [hu] at h; cases h
 | struct _ _ _ h => rw [hu] at h; cases h
 | sl _ _ _ h => rw [hu] at h; cases h
theorem DT.sl_of {ds : List D} (h : DT P t ds) (hu : P.underlying t = some (.slice e)) : ∃ dss : List (List D), ds = [.sl (dss.map (D.mk P e))] ∧ dss.length ≤ reachBytes ∧ ∀ (i : Nat) ds, dss[i]? = some ds → DT P e ds := by
 cases h with
 | sl _ _ dss h hl ha => rw [hu] at h; injection h with h; injection h with h; subst h; exact ⟨dss, rfl, hl, ha⟩
 | bool _ _ h => rw [hu] at h; cases h
 | int _ _ _ h => rw [hu] at h; cases h
 | str _ _ h => rw [hu] at h; cases h
 | nil _ _ h => rw [hu] at h; cases h
 | ptr _ _ _ h => rw [hu] at h; cases h
 | struct _ _ _ h => rw [hu] at h; cases h
theorem DT.struct_of {fs : Array Field} {ds : List D} (h : DT P t ds) (hu : P.underlying t = some (.struct fs)) : ds.length = P.cellsOf t ∧ ∀ (i : Nat) f, fs[i]? = some f → DT P f.type ((ds.drop f.offset).take (P.cellsOf f.type)) := by
 cases h with
 | struct _ _ _ h hl ha => rw [hu] at h; injection h with h; injection h with h; subst h; exact ⟨hl, ha⟩
 | bool _ _ h => rw [hu] at h; cases h
 | int _ _ _ h => rw [hu] at h; cases h
 | str _ _ h => rw [hu] at h; cases h
 | nil _ _ h => rw [hu] at h; cases h
 | ptr _ _ _ h => rw [hu] at h; cases h
 | sl _ _ _ h => rw [hu] at h; cases h
end
end Go.Proofs.Ytklkbfpjimeaoaa.E
namespace Go.Proofs.Ytklkbfpjimeaoaa.E
open Go
variable {w : World}
theorem Env.trans {S0 : Reg} {O0 : Owns} {w0 : World} {S : Reg} {O : Owns} {m : List Nat} {mem : List (List PV)} {S' : Reg} {O' : Owns} {m' : List Nat} {mem' : List (List PV)} {w' : World}
 (h : Env S0 O0 w0 S O m mem w) (h' : Env S O w S' O' m' mem' w') : Env S0 O0 w0 S' O' m' mem' w' where
 ext := h.ext.trans h'.ext h.s0
 old := fun b hb ho => by
  have hO : O b = none := by
   cases hq : O b with
   | none => rfl
   | some x =>
    obtain ⟨l, t⟩ := x
    rcases h.onew b l t hq with h1 | ⟨l0, t0, h1, _⟩
    · omega
    · rw [ho] at h1; cases h1
  rw [h'.old b (Nat.lt_of_lt_of_le hb h.ext.size) hO, h.old b hb ho]
 part := fun b l t o hb ho hlt => by
  have hb' := Nat.lt_of_lt_of_le hb h.ext.size
  rw [← h.part b l t o hb ho hlt]
  cases hq : O b with
  | none => exact World.cell?_of_block (w := w) (h'.old b hb' hq)
  | some x =>
   obtain ⟨l', t'⟩ := x
   rcases h.onew b l' t' hq with h1 | ⟨l0, t0, h1, h2⟩
   · omega
   · rw [ho] at h1; injection h1 with h1; injection h1 with h1 h1'; exact h'.part b l' t' o hb' hq (by omega)
 s0 := fun b o hs => h'.s0 b o (h.s0 b o hs)
 snew := fun b o hs => by
  rcases h'.snew b o hs with h1 | h1 | ⟨l, t, h1, h2⟩
  · exact h.snew b o h1
  · exact .inr (.inl (Nat.le_trans h.ext.size h1))
  · rcases h.onew b l t h1 with h3 | ⟨l0, t0, h3, h4⟩
    · exact .inr (.inl h3)
    · exact .inr (.inr ⟨l0, t0, h3, by omega⟩)
 sown := h'.sown
 slt := h'.slt
 olt := h'.olt
 onew := fun b l t ho => by
  rcases h'.onew b l t ho with h1 | ⟨l0, t0, h1, h2⟩
  · exact .inl (Nat.le_trans h.ext.size h1)
  · rcases h.onew b l0 t0 h1 with h3 | ⟨l1, t1, h3, h4⟩
    · exact .inl h3
    · exact .inr ⟨l1, t1, h3, by omega⟩
 mlen := h'.mlen
 mem := h'.mem
def Keeps (K : Ctx) : World → Prop := fun w => Ext K.S0 K.w0 w
def GA (K : Ctx) (ops : Array Oper) (Q : Exit → GS → Prop) (n : Nat) (listed : Array Bool) (s : GS) : Prop :=
 ∀ a w, At K s a w → wpAnyH K.P .any ops (endN K Q) (Keeps K) n listed a w
def GB (K : Ctx) (ops : Array Oper) (Q : Exit → GS → Prop) (n : Nat) (listed : Array Bool) (s : GS) : Prop :=
 ∀ a, Rep K K.S0 K.O0 K.m0 s a K.w0 → wpAnyH K.P .any ops (endN K Q) (Keeps K) n listed a K.w0
variable {K : Ctx} {ops : Array Oper} {Q : Exit → GS → Prop} {n : Nat} {listed : Array Bool} {s : GS}
theorem GA_done (hr : Region.ready .any ops listed = []) (h : Q .normal s) : GA K ops Q n listed s :=
 fun a w ha => wpAnyH_done hr ⟨rfl, s, h, ha⟩ n
theorem GB_go (h : GA K ops Q n listed s) : GB K ops Q n listed s :=
 fun a ha => h a K.w0 ⟨_, _, _, ha⟩
theorem Keeps.sreg (hB : ∀ i, i < K.m0.length → K.Bs.contains i = true) {w' : World} (hw' : Keeps K w') : Ext (Sreg K K.S0 K.m0) K.w0 w' := by
 refine ⟨hw'.size, hw'.shape, fun b o hbo => ?_, fun b es c hbo hm => ?_, hw'.os, hw'.tape, hw'.output⟩
 · rcases hbo with h1 | ⟨j, h1, h2⟩
   · exact hw'.cell b o h1
   · rw [hB j (lG h1)] at h2; cases h2
 · rcases hbo with h1 | ⟨j, h1, h2⟩
   · exact hw'.maps b es c h1 hm
   · rw [hB j (lG h1)] at h2; cases h2
theorem GB_take {s' : GS} {i t : Nat} {listed' : Array Bool} {o : Oper} {p : PV} (hB : ∀ i, i < K.m0.length → K.Bs.contains i = true) (ho : ops[i]? = some o) (hg : o.guard = none) (hd : o.dst = some t) (ht : t < K.n)
 (hs : Region.noSelect ops = true) (hf : Region.free .any ops listed i = true) (hr : (Region.ready .any ops listed).contains i = true) (hq : Qy K o s t p) (hs' : s.set t p = s') (hl : listed.setIfInBounds i true = listed')
 (h : GB K ops Q n listed' s') : GB K ops Q (n + 1) listed s := by
 subst hs'; subst hl
 intro a hrep
 obtain ⟨v, hrun, hrp⟩ := hq K.S0 K.O0 K.m0 a K.w0 hrep
 refine wpAnyH_take (v := v) ho hs hf hr (fun c a w hc => by cases hc.1) (.inl ⟨by simp [Region.wanted, hg], fun w' hw' => hrun w' ?_⟩) (Ext.refl _ _) ?_
 · exact Keeps.sreg hB hw'
 · have := h (a.put (some t) v) (hrep.put ht hrp)
   rw [hd]; exact this
theorem wpOp_to {P : Program} {Q Q' : Exit → Act → World → Prop} {i : Nat} {N N' : Act → World → Prop} {a : Act} (hQ : ∀ e a w, e ≠ .normal → Q e a w → Q' e a w) (hN : ∀ a w, N a w → N' a w)
 (h : wpOp P ops Q i N a w) : wpOp P ops Q' i N' a w := by
 have hL : LetsOut Q → LetsOut Q' := fun ⟨a, w, hq⟩ => ⟨a, w, hQ _ a w (by intro h; cases h) hq⟩
 unfold wpOp at *
 cases ho : ops[i]? with
 | none => rw [ho] at h; exact hN _ _ h
 | some o =>
  rw [ho] at h
  simp only at h ⊢
  split
  · rename_i hw
    rw [if_pos hw] at h
    rcases h with h | ⟨h1, h2⟩
    · refine .inl ?_
      unfold Oper.wp at *
      generalize (execOp a.eval o).run P w = r at *
      cases r with
      | ok nx w' =>
       cases nx with
       | value v => exact hN _ _ h
       | skip => exact hN _ _ h
       | defer d => exact hN _ _ h
       | enter f args =>
        refine Calls.mono h fun e w'' he => ?_
        cases e with
        | returned v => exact hN _ _ he
        | panicked ch => exact hQ _ _ _ (by intro h; cases h) he
        | outgrown => exact hL he
       | row r args => exact Rows.mono h fun v w'' he => hN _ _ he
       | _ => exact h.elim
      | halt x w' =>
       cases x with
       | panic v => exact hQ _ _ _ (by intro h; cases h) h
       | _ => exact h.elim
    · exact .inr ⟨h1, hL h2⟩
  · rename_i hw
    rw [if_neg hw] at h
    exact hN _ _ h
theorem GA_all (rs : List Nat) (hr : Region.ready .any ops listed = rs) (hne : rs ≠ [])
 (h : ∀ i ∈ rs, GOps K ops (fun e s' => e = .normal ∧ GA K ops Q n (listed.setIfInBounds i true) s') [i] s) : GA K ops Q (n + 1) listed s := by
 intro a w ha
 refine wpAnyH_all hr hne fun i hi => ?_
 have h1 := h i hi a w ha
 rw [wpOps_cons] at h1
 refine wpOp_to ?_ ?_ h1
 · rintro e a' w' hne' ⟨s', ⟨he, _⟩, _⟩
   exact absurd he hne'
 · intro a' w' h2
   obtain ⟨s', ⟨_, hga⟩, hat⟩ := (h2 : ∃ s', _ ∧ _)
   obtain ⟨S, O, m, hrep⟩ := hat
   exact ⟨hrep.env.ext, hga a' w' ⟨S, O, m, hrep⟩⟩
theorem Env.rebase {S0 : Reg} {O0 : Owns} {w0 : World} {S : Reg} {O : Owns} {m : List Nat} {mem : List (List PV)} (h : Env S0 O0 w0 S O m mem w) : Env S O w S O m mem w where
 ext := Ext.refl _ _
 old := fun _ _ _ => rfl
 part := fun _ _ _ _ _ _ _ => rfl
 s0 := fun _ _ h => h
 snew := fun _ _ h => .inl h
 sown := h.sown
 slt := h.slt
 olt := h.olt
 onew := fun _ l t h => .inr ⟨l, t, h, Nat.le_refl _⟩
 mlen := h.mlen
 mem := h.mem
theorem G_drawB {id : Nat} (n : Nat) (hn : ops.size = n) (hm : K.P.follows .mixedOrders = true)
 (h : ∀ S O w m, m.length = s.mem.length → K.m0.length ≤ m.length → GB ⟨K.P, K.n, S, O, w, m, List.range m.length, K.ds⟩ ops Q n (Array.replicate n false) s) : G K (.region id ops true) Q s := by
 rintro a w ⟨S, O, m, hr⟩
 have hd := hr.drew
 have h1 := h S O w.drew m hd.env.mlen hd.pre.length_le a ⟨hd.env.rebase, hd.defers, hd.size, List.prefix_refl _, hd.slots⟩
 refine wp_mono (Q := endN ⟨K.P, K.n, S, O, w.drew, m, List.range m.length, K.ds⟩ Q) (wp_region_held (S := Keeps ⟨K.P, K.n, S, O, w.drew, m, List.range m.length, K.ds⟩) hm ?_) ?_
 · rw [hn]; exact h1
 · rintro e a' w' ⟨rfl, s', hq, S', O', m', hr'⟩
   exact ⟨s', hq, S', O', m', hd.env.trans hr'.env, hr'.defers, hr'.size, hd.pre.trans hr'.pre, hr'.slots⟩
end Go.Proofs.Ytklkbfpjimeaoaa.E
namespace Go.Proofs.Ytklkbfpjimeaoaa.E
open Go
theorem bq (i : Nat) {K : Ctx} {ops : Array Oper} {Q : Exit → GS → Prop} {s s' : GS} {t n : Nat} {listed listed' : Array Bool} {o : Oper} {p : PV} (hB : ∀ i, i < K.m0.length → K.Bs.contains i = true) (ho : ops[i]? = some o) (hq : Qy K o s t p) (h : GB K ops Q n listed' s')
 (hg : o.guard = none := by rfl) (hd : o.dst = some t := by rfl) (ht : t < K.n := by exact oR rfl) (hs : Region.noSelect ops = true := by kernel_rfl) (hf : Region.free .any ops listed i = true := by kernel_rfl) (hr : (Region.ready .any ops listed).contains i = true := by kernel_rfl)
 (hs' : s.set t p = s' := by exact J1) (hl : listed.setIfInBounds i true = listed' := by rfl) : GB K ops Q (n + 1) listed s := GB_take hB ho hg hd ht hs hf hr hq hs' hl h
theorem ga1 {K : Ctx} {ops : Array Oper} {Q : Exit → GS → Prop} {n : Nat} {listed : Array Bool} {s : GS} (i : Nat) (h : GOps K ops (fun e s' => e = .normal ∧ GA K ops Q n (listed.setIfInBounds i true) s') [i] s)
 (hr : Region.ready .any ops listed = [i] := by kernel_rfl) : GA K ops Q (n + 1) listed s := GA_all [i] hr (by simp) (fun j hj => by rw [List.mem_singleton.1 hj]; exact h)
theorem ga2 {K : Ctx} {ops : Array Oper} {Q : Exit → GS → Prop} {n : Nat} {listed : Array Bool} {s : GS} (i k : Nat) (h : GOps K ops (fun e s' => e = .normal ∧ GA K ops Q n (listed.setIfInBounds i true) s') [i] s)
 (h' : GOps K ops (fun e s' => e = .normal ∧ GA K ops Q n (listed.setIfInBounds k true) s') [k] s) (hr : Region.ready .any ops listed = [i, k] := by kernel_rfl) : GA K ops Q (n + 1) listed s :=
 GA_all [i, k] hr (by simp) (fun j hj => by
  rcases List.mem_cons.1 hj with rfl | hj
  · exact h
  · rw [List.mem_singleton.1 hj]; exact h')
end Go.Proofs.Ytklkbfpjimeaoaa.E
namespace Go.Proofs.Ytklkbfpjimeaoaa.E
open Go
theorem Q_rowLen {K : Ctx} {s : GS} {t b off n k : Nat} {x : Operand} {ty e rt : TypeId} {pos : String} {af : Array Edge} {g : Option (Nat × Bool)}
 (hx : s.ev x = .rsl b off n k) (hu : K.P.underlying ty = some (.slice e)) (ht : t < K.n) :
 Qy K ⟨some t, .call ⟨.builtin .len, #[x], #[ty]⟩, rt, pos, af, g⟩ s t (.d (.int .i64 (n : Int))) := by
 refine fun S O m a w h => ?_
 obtain ⟨l, hr⟩ := h.ev x
 rw [hx] at hr
 generalize hv : a.eval x = v at hr
 cases hr with
 | rsl _ _ _ _ _ ad cap hc hl _ hh =>
  refine ⟨.int .i64 (n : Int), fun w _ => ?_, .d _ _ _ (.int _ _)⟩
  simp [execOp, resolve, invoke, builtin, hv, Builtin.len_, run_underlying hu, goInt]
theorem Q_field {K : Ctx} {s : GS} {t : Nat} {x : Operand} {st rt : TypeId} {f : Nat} {pos : String} {af : Array Edge} {g : Option (Nat × Bool)} {fs : Array Field} {fl : Field} {ds : List D} {d : D} {td : TypeDesc}
 (hx : s.ev x = .d (.agg ds)) (hu : K.P.underlying st = some (.struct fs)) (hf : fs[f]? = some fl) (htd : K.P.underlying fl.type = some td) (hl : leafT td = true) (hd : ds[fl.offset]? = some d) (ht : t < K.n) :
 Qy K ⟨some t, .field st x f, rt, pos, af, g⟩ s t (.d d) := by
 refine fun S O m a w h => ?_
 have hr := h.evd hx
 generalize hv : a.eval x = v at hr
 cases hr with
 | agg _ vs hsz ho hh =>
  have hlt : fl.offset < vs.size := by rw [hsz]; exact (lG hd)
  refine ⟨vs[fl.offset], fun w' _ => ?_, .d _ _ _ (hh _ _ _ hd (Array.getElem?_eq_getElem hlt))⟩
  simp only [execOp, hv]
  simp [Instr.field, run_underlying hu, hf, asAgg, part, run_isAgg htd, hl, Array.getElem?_eq_getElem hlt]
end Go.Proofs.Ytklkbfpjimeaoaa.E
namespace Go.Proofs.Ytklkbfpjimeaoaa.E
open Go
theorem g_freezeM {K : Ctx} {ops : Array Oper} {Q : Exit → GS → Prop} {l : List Nat} {s s'' : GS} (n : Nat) (keep : List (List PV)) {kvs : List (D × D)} (hmem : s.mem = keep ++ [[.mapc kvs]]) (hg : GOps K ops Q l s'') (hm : K.m0.length ≤ n := by first | (dsimp only [List.length_cons, List.length_nil]; omega) | simp_all) (hn : keep.length = n := by rfl) (hit : isIter kvs = false := by rfl)
 (hs : GS.mk (s.slots.map fun x => (x.1, PV.frz n noF noH (.d (.map kvs)) x.2)) (keep.map (PV.frzs n noF noH (.d (.map kvs)))) = s'' := by simp only [List.map_cons, List.map_nil, PV.frz, PV.frzs, noF, noH, if_true, if_false, Nat.reduceEqDiff, and_self] <;> rfl) : GOps K ops Q l s := by
 subst hs; exact GOps_le (Le_freezeM n hmem hn hm hit) hg
end Go.Proofs.Ytklkbfpjimeaoaa.E
namespace Go.Proofs.Ytklkbfpjimeaoaa.E
open Go
theorem Pf.data {P : Program} {f : FuncId} {args xs : List D} {k : Nat} (h : Pf P f args (.osl k xs)) : Pf P f args (.d (.sl xs)) :=
 ⟨h.1, fun w S O m vals h1 h2 h3 => (h.2 w S O m vals h1 h2 h3).mono fun e w' ⟨v, r, mem', S', O', m', he, hr, henv, hp, hrp⟩ => by
  obtain ⟨rfl, rfl⟩ := hr
  exact ⟨v, _, [], S', O', m', he, ⟨rfl, rfl⟩, henv, hp, hrp.wk (.inr (.inr (.inr (.inr ⟨_, _, rfl, rfl⟩))))⟩⟩
theorem g_split {K : Ctx} {ops : Array Oper} {Q : Exit → GS → Prop} {s : GS} {l : List Nat} {q : PV} {b : Bool} (u : Nat) (want : Bool) (h1 : b = true → GOps K ops Q l s) (h2 : b = false → GOps K ops Q l s)
 (hsu : s.get u = some q := by exact J0) (hgd : q.guard want = some b := by rfl) : GOps K ops Q l s := by
 cases b with
 | true => exact h1 rfl
 | false => exact h2 rfl
theorem g_callo {K : Ctx} {ops : Array Oper} {Q : Exit → GS → Prop} {s s'' : GS} {i : Nat} {rest : List Nat} {t j u : Nat} {want b : Bool} {oj : Oper} {fx : Operand} {xs : List Operand} {tys : Array TypeId} {ty : TypeId} {pos : String} {af : Array Edge} {f : FuncId} {fa fc ds args : List D} {r : PV} {q : PV}
 (ho : ops[i]? = some ⟨some t, .call ⟨.value fx, xs.toArray, tys⟩, ty, pos, af, some (j, want)⟩) (hb : b = true) (hc : Pf K.P f args r) (h : GOps K ops Q rest s'')
 (hj : ops[j]? = some oj := by rfl) (hjd : oj.dst = some u := by rfl) (hsu : s.get u = some q := by exact J0) (hgd : q.guard want = some b := by rfl) (hu : u < K.n := by exact oR rfl)
 (hfx : (s.ev fx).callee = some (f, fa, fc) := by exact J3) (hxs : PV.toDUs true (xs.map s.ev) = some ds := by exact J6)
 (ht : t < K.n := by exact oR rfl) (ha : args = fa ++ ds ++ fc := by rfl) (hs : s.set t r = s'' := by simp only [GS.set] <;> rfl) : GOps K ops Q (i :: rest) s := by
 subst hs; subst ha; subst hb
 rintro a w ⟨S, O, m, hr⟩
 have hyl := wanted_of hr hj hjd hsu hu hgd
 obtain ⟨⟨fn, hf, hbd, hn⟩, hc1⟩ := hc
 have hw : Region.wanted ⟨some t, .call ⟨.value fx, xs.toArray, tys⟩, ty, pos, af, some (j, want)⟩ (yielded ops a.tmps) = true := by simp only [Region.wanted]; rw [hyl]
 simp only [wpOps, ho, hw, if_true]
 obtain ⟨g1, g2⟩ := PV.toDUs_get _ _ _ hxs
 refine .inl (call_wp hr rfl rfl hfx (by simpa using g1) (fun i d v hi hv => ?_) hf hbd hn ht hc1 (fun a' w' hat => h a' w' hat))
 obtain ⟨p, hp, hpd⟩ := g2 i d hi
 rw [List.getElem?_map] at hp hv
 cases hx : xs[i]? with
 | none => simp [hx] at hp
 | some y =>
  simp only [hx, Option.map_some, Option.some.injEq] at hp hv
  subst hp; subst hv
  obtain ⟨l, hry⟩ := hr.ev y
  exact hry.toDU hpd
end Go.Proofs.Ytklkbfpjimeaoaa.E
namespace Go.Proofs.Ytklkbfpjimeaoaa.E
open Go Go.RowKit
theorem arg_agg {H : Type} {enc : TypeId × Value → H} {P : Program} {w : World} {sp : Nat → Bool} {held : Bool} {L : List TypeId} (hL : closedT P L = true) {t : TypeId} (ht : t ∈ L)
 {vs : Array Value} {d : DataW H} {ps : List MemPlace} (h : DataW.Trod enc P w 0 sp held t (.agg vs) d ps) (hw : ∀ n ∈ d.weights P t, n ≤ reachBytes) :
 ∃ ds : List D, DT P t ds ∧ Rd w (allOf w) (.agg ds) (.agg vs) := by
 obtain ⟨fuel, hf⟩ := h
 obtain ⟨ds, hdt, hl, hr⟩ := read hL fuel t _ _ ht hf hw
 have hc : (Value.agg vs).cells.toList = vs.toList := rfl
 rw [hc] at hl hr
 refine ⟨ds, hdt, .agg ds vs (by simpa using hl.symm) (fun i v hv => ?_) (fun i x v hx hv => (hr i x v hx (by simpa using hv)).1)⟩
 have hlt : i < ds.length := by rw [hl]; simpa using (Array.getElem?_eq_some_iff.1 hv).1
 exact (hr i _ v (gE hlt) (by simpa using hv)).2
theorem list_at {P : Program} {e : TypeId} {α : Type} {f : α → D} {Q : α → Prop} :
 ∀ (dss : List (List D)), (∀ (i : Nat) ds, dss[i]? = some ds → ∃ x, Q x ∧ D.mk P e ds = f x) → ∃ xs : List α, dss.map (D.mk P e) = xs.map f ∧ (∀ x ∈ xs, Q x) ∧ xs.length = dss.length
 | [], _ => ⟨[], rfl, fun x hx => (by cases hx), rfl⟩
 | ds :: r, hd => by
  obtain ⟨x, hq, hx⟩ := hd 0 ds rfl
  obtain ⟨xs, h1, h2, h3⟩ := list_at r (fun i d hi => hd (i + 1) d (by simpa using hi))
  exact ⟨x :: xs, by simp [hx, h1], fun y hy => by rcases List.mem_cons.1 hy with rfl | hy; exact hq; exact h2 y hy, by simp [h3]⟩
end Go.Proofs.Ytklkbfpjimeaoaa.E
