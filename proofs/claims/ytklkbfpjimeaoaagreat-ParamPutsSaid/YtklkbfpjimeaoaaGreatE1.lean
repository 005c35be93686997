/- THE ENGINE, part 1: plain data that is read out of memory (D), the values of a walk (PV), and what it means that the machine's state holds them. Conditions: none; generic in the program. -/
import Derived.Calls
import Derived.Laws.World
import Derived.Laws.Sem
import Derived.RowKit
namespace Go.Proofs.YtklkbfpjimeaoaaGreat.E
open Go
/-- Plain data, read to the bottom: no address in it. -/
inductive D where
  | int (k : IntKind) (n : Int)
  | bool (b : Bool)
  | str (s : ByteArray)
  | nil
  | ptr (d : D)
  | sl (xs : List D)
  | agg (cs : List D)
  | nilI
  | iface (t : TypeId) (d : D)
  | nilF
  | fn (f : Fn) (first caps : List D)
  | map (kvs : List (D × D))
  | nilM
  | nilS
  deriving Inhabited
def D.cells : D → List D
  | .agg cs => cs
  | d => [d]
/-- What a map's key is, as a value: a leaf, or a struct or an array of leaves. -/
def D.lit : D → Option Value
  | .int k n => some (.int k n)
  | .str s => some (.string s)
  | .bool b => some (.bool b)
  | _ => none
def D.lits : List D → Option (List Value)
  | [] => some []
  | d :: ds => match d.lit, D.lits ds with
    | some v, some vs => some (v :: vs)
    | _, _ => none
def D.keyV : D → Option Value
  | .agg cs => (D.lits cs).map fun l => .agg l.toArray
  | d => d.lit
/-- A set of cells: block, offset. -/
abbrev Reg := Nat → Nat → Prop
/-- Who owns a block from which offset on: a place, an offset. -/
abbrev Owns := Nat → Option (List Nat × Nat)
def lim : Nat := 140737488355328
/-- The value v reads as the data, in cells of S alone. -/
inductive Rd (w : World) (S : Reg) : D → Value → Prop
  | int (k : IntKind) (n : Int) : Rd w S (.int k n) (.int k n)
  | bool (b : Bool) : Rd w S (.bool b) (.bool b)
  | str (s : ByteArray) : Rd w S (.str s) (.string s)
  | nil : Rd w S .nil (.pointer none)
  | nilI : Rd w S .nilI .nilIface
  | nilF : Rd w S .nilF .nilFunc
  | nilM : Rd w S .nilM (.map none)
  | nilS : Rd w S .nilS (.slice none 0 0)
  | iface (t : TypeId) (d : D) (v : Value) : Rd w S d v → Rd w S (.iface t d) (.iface t v)
  | fn (f : Fn) (first caps : List D) (vf vc : Array Value) (h1 : vf.size = first.length) (h2 : vc.size = caps.length)
      (g1 : ∀ (i : Nat) d v, first[i]? = some d → vf[i]? = some v → Rd w S d v) (g2 : ∀ (i : Nat) d v, caps[i]? = some d → vc[i]? = some v → Rd w S d v) :
      Rd w S (.fn f first caps) (.func f vf vc)
  | agg (cs : List D) (vs : Array Value) (hl : vs.size = cs.length) (ho : ∀ (i : Nat) v, vs[i]? = some v → v.oneCell' = true)
      (h : ∀ (i : Nat) d v, cs[i]? = some d → vs[i]? = some v → Rd w S d v) : Rd w S (.agg cs) (.agg vs)
  | map (kvs : List (D × D)) (r : Nat) (es : Array MapEntry) (c : Nat) (hS : S r 0) (hh : w.heap[r]? = some (.map es c))
      (h1 : ∀ (i : Nat) e, es[i]? = some e → ∃ x ∈ kvs, x.1.keyV = some e.key) (h2 : ∀ x ∈ kvs, ∃ (i : Nat) (e : MapEntry), es[i]? = some e ∧ x.1.keyV = some e.key)
      (hv : ∀ (i : Nat) e x, es[i]? = some e → x ∈ kvs → x.1.keyV = some e.key → Rd w S x.2 e.val) : Rd w S (.map kvs) (.map (some r))
  | ptr (d : D) (a : Addr) (hs : a.spot = none)
      (hc : ∀ (j : Nat) x, d.cells[j]? = some x → S a.block (a.off + j) ∧ ∃ v, w.cell? ⟨a.block, a.off + j, none⟩ = some v ∧ v.oneCell' = true)
      (h : ∀ (j : Nat) x v, d.cells[j]? = some x → w.cell? ⟨a.block, a.off + j, none⟩ = some v → Rd w S x v) : Rd w S (.ptr d) (.pointer (some a))
  | sl (xs : List D) (a : Option Addr) (cap k : Nat) (hcap : xs.length ≤ cap) (hlim : xs.length ≤ lim) (hk : ∀ x ∈ xs, x.cells.length = k) (hn : a = none → xs = [])
      (hc : ∀ ad, a = some ad → ∀ (i : Nat) x (j : Nat) y, xs[i]? = some x → x.cells[j]? = some y → ad.spot = none ∧
        S ad.block (ad.off + (i * k + j)) ∧ ∃ v, w.cell? ⟨ad.block, ad.off + (i * k + j), none⟩ = some v ∧ v.oneCell' = true)
      (h : ∀ ad (i : Nat) x (j : Nat) y v, a = some ad → xs[i]? = some x → x.cells[j]? = some y → w.cell? ⟨ad.block, ad.off + (i * k + j), none⟩ = some v → Rd w S y v) :
      Rd w S (.sl xs) (.slice a xs.length cap)
/-- What a step leaves as it was: each block's make, the cells of S. -/
structure Ext (S : Reg) (w w' : World) : Prop where
  size : w.heap.size ≤ w'.heap.size
  shape : ∀ (b : Nat) vs el fz, w.heap[b]? = some (.cells vs el fz) → ∃ vs', w'.heap[b]? = some (.cells vs' el fz) ∧ vs'.size = vs.size
  cell : ∀ b o, S b o → w'.cell? ⟨b, o, none⟩ = w.cell? ⟨b, o, none⟩
  maps : ∀ (b : Nat) es c, S b 0 → w.heap[b]? = some (.map es c) → w'.heap[b]? = some (.map es c)
  os : w'.os = w.os := by rfl
  tape : w'.tape = w.tape := by rfl
  output : w'.output = w.output := by rfl
theorem Ext.refl (S : Reg) (w : World) : Ext S w w := ⟨Nat.le_refl _, fun _ vs _ _ h => ⟨vs, h, rfl⟩, fun _ _ _ => rfl, fun _ _ _ _ h => h, rfl, rfl, rfl⟩
theorem Ext.trans {S S' : Reg} {w w1 w2 : World} (h : Ext S w w1) (h' : Ext S' w1 w2) (hs : ∀ b o, S b o → S' b o) : Ext S w w2 where
  size := Nat.le_trans h.size h'.size
  shape := fun b vs el fz hb => by
    obtain ⟨v1, h1, e1⟩ := h.shape b vs el fz hb
    obtain ⟨v2, h2, e2⟩ := h'.shape b v1 el fz h1
    exact ⟨v2, h2, e2.trans e1⟩
  cell := fun b o hb => (h'.cell b o (hs b o hb)).trans (h.cell b o hb)
  maps := fun b es c hb hh => h'.maps b es c (hs b 0 hb) (h.maps b es c hb hh)
  os := h'.os.trans h.os
  tape := h'.tape.trans h.tape
  output := h'.output.trans h.output
theorem Rd.frame {w w' : World} {S S' : Reg} {d : D} {v : Value} (h : Rd w S d v)
    (hc : ∀ b o, S b o → w'.cell? ⟨b, o, none⟩ = w.cell? ⟨b, o, none⟩) (hm : ∀ (b : Nat) es c, S b 0 → w.heap[b]? = some (.map es c) → w'.heap[b]? = some (.map es c)) (hs : ∀ b o, S b o → S' b o) : Rd w' S' d v := by
  induction h with
  | int => exact .int ..
  | bool => exact .bool ..
  | str => exact .str ..
  | nil => exact .nil
  | nilI => exact .nilI
  | nilF => exact .nilF
  | nilM => exact .nilM
  | nilS => exact .nilS
  | map kvs r es c hS hh h1 h2 _ ih => exact .map kvs r es c (hs _ _ hS) (hm _ _ _ hS hh) h1 h2 (fun i e x hi hx hk => ih i e x hi hx hk)
  | iface t d v _ ih => exact .iface t d v ih
  | fn f first caps vf vc h1 h2 _ _ g1 g2 => exact .fn f first caps vf vc h1 h2 g1 g2
  | agg cs vs hl ho _ ih => exact .agg cs vs hl ho ih
  | ptr d a hsp hcell _ ih =>
    refine .ptr d a hsp (fun j x hj => ?_) (fun j x v hj hv => ?_)
    · obtain ⟨h1, v, h2, h3⟩ := hcell j x hj
      exact ⟨hs _ _ h1, v, (hc _ _ h1).trans h2, h3⟩
    · exact ih j x v hj ((hc _ _ (hcell j x hj).1).symm.trans hv)
  | sl xs a cap k h1 h2 h3 h4 hcell _ ih =>
    refine .sl xs a cap k h1 h2 h3 h4 (fun ad ha i x j y hi hj => ?_) (fun ad i x j y v ha hi hj hv => ?_)
    · obtain ⟨g0, g1, v, g2, g3⟩ := hcell ad ha i x j y hi hj
      exact ⟨g0, hs _ _ g1, v, (hc _ _ g1).trans g2, g3⟩
    · exact ih ad i x j y v ha hi hj ((hc _ _ (hcell ad ha i x j y hi hj).2.1).symm.trans hv)
theorem Rd.ext {w w' : World} {S S' : Reg} {d : D} {v : Value} (h : Rd w S d v) (e : Ext S w w') (hs : ∀ b o, S b o → S' b o) : Rd w' S' d v :=
  h.frame e.cell e.maps hs
/-- The values of a walk. -/
inductive PV where
  | d (x : D)
  | nils
  | osl (k : Nat) (xs : List D)
  | ref (b off : Nat)
  | rsl (b off n k : Nat)
  | mref (b : Nat)
  | mapc (kvs : List (D × D))
  | fn (f : Fn) (first caps : List PV)
  | agg (cs : List PV)
  | tup (vs : List PV)
  | when (b : Bool) (p : PV)
  | undef
  deriving Inhabited
/-- At the place l the machine's value stands for the walk's. -/
inductive RP (w : World) (S : Reg) (O : Owns) (m : List Nat) : List Nat → PV → Value → Prop
  | d (l : List Nat) (x : D) (v : Value) : Rd w S x v → RP w S O m l (.d x) v
  | nils (l : List Nat) : RP w S O m l .nils (.slice none 0 0)
  | osl (l : List Nat) (k : Nat) (xs : List D) (a : Option Addr) (cap : Nat) (hr : Rd w S (.sl xs) (.slice a xs.length cap)) (hk : ∀ x ∈ xs, x.cells.length = k)
      (hn : a = none → cap = 0)
      (ht : ∀ ad, a = some ad → ad.spot = none ∧ O ad.block = some (l, ad.off + xs.length * k) ∧ ∃ vs el, w.heap[ad.block]? = some (.cells vs el (0, 0)) ∧ ad.off + cap * k ≤ vs.size) :
      RP w S O m l (.osl k xs) (.slice a xs.length cap)
  | ref (l : List Nat) (b off r : Nat) : m[b]? = some r → RP w S O m l (.ref b off) (.pointer (some ⟨r, off, none⟩))
  | rsl (l : List Nat) (b off n k : Nat) (a : Option Addr) (cap : Nat) (hc : n ≤ cap) (hl : n ≤ lim) (h0 : n = 0 → cap = 0) (h : n ≠ 0 → ∃ r, m[b]? = some r ∧ a = some ⟨r, off, none⟩) :
      RP w S O m l (.rsl b off n k) (.slice a n cap)
  | mref (l : List Nat) (b r : Nat) : m[b]? = some r → RP w S O m l (.mref b) (.map (some r))
  | fn (l : List Nat) (f : Fn) (first caps : List PV) (vf vc : Array Value) (h1 : vf.size = first.length) (h2 : vc.size = caps.length)
      (g1 : ∀ (i : Nat) p v, first[i]? = some p → vf[i]? = some v → RP w S O m (i :: 0 :: l) p v) (g2 : ∀ (i : Nat) p v, caps[i]? = some p → vc[i]? = some v → RP w S O m (i :: 1 :: l) p v) :
      RP w S O m l (.fn f first caps) (.func f vf vc)
  | agg (l : List Nat) (cs : List PV) (vs : Array Value) (hl : vs.size = cs.length) (ho : ∀ (i : Nat) v, vs[i]? = some v → v.oneCell' = true)
      (h : ∀ (i : Nat) p v, cs[i]? = some p → vs[i]? = some v → RP w S O m (i :: l) p v) : RP w S O m l (.agg cs) (.agg vs)
  | tup (l : List Nat) (cs : List PV) (vs : Array Value) (hl : vs.size = cs.length)
      (h : ∀ (i : Nat) p v, cs[i]? = some p → vs[i]? = some v → RP w S O m (i :: l) p v) : RP w S O m l (.tup cs) (.tuple vs)
  | whenT (l : List Nat) (b : Bool) (p : PV) (v : Value) (hb : b = true) : RP w S O m l p v → RP w S O m l (.when b p) v
  | whenF (l : List Nat) (b : Bool) (p : PV) (hb : b = false) : RP w S O m l (.when b p) Go.undef
  | undef (l : List Nat) (v : Value) : RP w S O m l .undef v
theorem RP.frame {w w' : World} {S S' : Reg} {O O' : Owns} {m m' : List Nat} {l : List Nat} {p : PV} {v : Value} (h : RP w S O m l p v) :
    ∀ (l' : List Nat), Ext S w w' → (∀ b o, S b o → S' b o) → (∀ b t q, O b = some (q ++ l, t) → O' b = some (q ++ l', t)) → (∀ (b r : Nat), m[b]? = some r → m'[b]? = some r) →
    RP w' S' O' m' l' p v := by
  induction h with
  | d l x v h => exact fun l' e hs _ _ => .d l' x v (h.ext e hs)
  | nils l => exact fun l' _ _ _ _ => .nils l'
  | osl l k xs a cap hr hk hn ht =>
    intro l' e hs hO _
    refine .osl l' k xs a cap (hr.ext e hs) hk hn (fun ad ha => ?_)
    obtain ⟨h1, h2, vs, el, h3, h4⟩ := ht ad ha
    obtain ⟨vs', h5, h6⟩ := e.shape _ _ _ _ h3
    exact ⟨h1, hO _ _ [] h2, vs', el, h5, by omega⟩
  | ref l b off r h => exact fun l' _ _ _ hm => .ref l' b off r (hm b r h)
  | rsl l b off n k a cap hc hl h0 h => exact fun l' _ _ _ hm => .rsl l' b off n k a cap hc hl h0 (fun hn => by obtain ⟨r, h1, h2⟩ := h hn; exact ⟨r, hm b r h1, h2⟩)
  | mref l b r h => exact fun l' _ _ _ hm => .mref l' b r (hm b r h)
  | fn l f first caps vf vc h1 h2 _ _ g1 g2 =>
    intro l' e hs hO hm
    refine .fn l' f first caps vf vc h1 h2 (fun i p v hi hv => g1 i p v hi hv _ e hs (fun b t q hb => ?_) hm) (fun i p v hi hv => g2 i p v hi hv _ e hs (fun b t q hb => ?_) hm)
    · have := hO b t (q ++ [i, 0]) (by simpa using hb); simpa using this
    · have := hO b t (q ++ [i, 1]) (by simpa using hb); simpa using this
  | agg l cs vs hl ho _ ih =>
    intro l' e hs hO hm
    refine .agg l' cs vs hl ho (fun i p v hi hv => ih i p v hi hv _ e hs (fun b t q hb => ?_) hm)
    have := hO b t (q ++ [i]) (by simpa using hb); simpa using this
  | tup l cs vs hl _ ih =>
    intro l' e hs hO hm
    refine .tup l' cs vs hl (fun i p v hi hv => ih i p v hi hv _ e hs (fun b t q hb => ?_) hm)
    have := hO b t (q ++ [i]) (by simpa using hb); simpa using this
  | whenT l b p v hb _ ih => exact fun l' e hs hO hm => .whenT l' b p v hb (ih l' e hs hO hm)
  | whenF l b p hb => exact fun l' _ _ _ _ => .whenF l' b p hb
  | undef l v => exact fun l' _ _ _ _ => .undef l' v
/-- The same place, and nobody's right turned there. -/
theorem RP.ext {w w' : World} {S S' : Reg} {O O' : Owns} {m m' : List Nat} {l : List Nat} {p : PV} {v : Value} (h : RP w S O m l p v)
    (e : Ext S w w') (hs : ∀ b o, S b o → S' b o) (hO : ∀ b t q, O b = some (q ++ l, t) → O' b = some (q ++ l, t)) (hm : ∀ (b r : Nat), m[b]? = some r → m'[b]? = some r) :
    RP w' S' O' m' l p v := h.frame l e hs hO hm
mutual
def PV.copy : PV → PV
  | .d x => .d x
  | .nils => .nils
  | .osl _ xs => .d (.sl xs)
  | .ref b o => .ref b o
  | .rsl b o n k => .rsl b o n k
  | .mref b => .mref b
  | .mapc kvs => .mapc kvs
  | .fn f a c => .fn f (PV.copies a) (PV.copies c)
  | .agg cs => .agg (PV.copies cs)
  | .tup cs => .tup (PV.copies cs)
  | .when b p => .when b p.copy
  | .undef => .undef
def PV.copies : List PV → List PV
  | [] => []
  | p :: ps => p.copy :: PV.copies ps
end
theorem PV.copies_map (ps : List PV) : PV.copies ps = ps.map PV.copy := by
  induction ps with
  | nil => simp [PV.copies]
  | cons p ps ih => simp [PV.copies, ih]
theorem PV.copies_getElem? (ps : List PV) (i : Nat) (q : PV) (h : (PV.copies ps)[i]? = some q) : ∃ p, ps[i]? = some p ∧ q = p.copy := by
  rw [PV.copies_map, List.getElem?_map] at h
  cases hp : ps[i]? with
  | none => simp [hp] at h
  | some p => exact ⟨p, rfl, by simpa [hp] using h.symm⟩
theorem RP.copy {w : World} {S : Reg} {O : Owns} {m : List Nat} {l : List Nat} {p : PV} {v : Value} (h : RP w S O m l p v) :
    ∀ (O' : Owns) (l' : List Nat), RP w S O' m l' p.copy v := by
  induction h with
  | d l x v h => exact fun _ l' => by simp only [PV.copy]; exact .d l' x v h
  | nils l => exact fun _ l' => by simp only [PV.copy]; exact .nils l'
  | osl l k xs a cap hr hk hn ht => exact fun _ l' => by simp only [PV.copy]; exact .d l' _ _ hr
  | ref l b off r h => exact fun _ l' => by simp only [PV.copy]; exact .ref l' b off r h
  | rsl l b off n k a cap hc hl h0 h => exact fun _ l' => by simp only [PV.copy]; exact .rsl l' b off n k a cap hc hl h0 h
  | mref l b r h => exact fun _ l' => by simp only [PV.copy]; exact .mref l' b r h
  | fn l f first caps vf vc h1 h2 _ _ g1 g2 =>
    intro O' l'
    simp only [PV.copy]
    refine .fn l' f _ _ vf vc (by simp [PV.copies_map, h1]) (by simp [PV.copies_map, h2]) (fun i p v hi hv => ?_) (fun i p v hi hv => ?_)
    · obtain ⟨p, hp, rfl⟩ := PV.copies_getElem? _ _ _ hi; exact g1 i p v hp hv _ _
    · obtain ⟨p, hp, rfl⟩ := PV.copies_getElem? _ _ _ hi; exact g2 i p v hp hv _ _
  | agg l cs vs hl ho _ ih =>
    intro O' l'
    simp only [PV.copy]
    refine .agg l' _ vs (by simp [PV.copies_map, hl]) ho (fun i p v hi hv => ?_)
    obtain ⟨p, hp, rfl⟩ := PV.copies_getElem? _ _ _ hi; exact ih i p v hp hv _ _
  | tup l cs vs hl _ ih =>
    intro O' l'
    simp only [PV.copy]
    refine .tup l' _ vs (by simp [PV.copies_map, hl]) (fun i p v hi hv => ?_)
    obtain ⟨p, hp, rfl⟩ := PV.copies_getElem? _ _ _ hi; exact ih i p v hp hv _ _
  | whenT l b p v hb _ ih => exact fun O' l' => by simp only [PV.copy]; exact .whenT l' b _ v hb (ih O' l')
  | whenF l b p hb => exact fun _ l' => by simp only [PV.copy]; exact .whenF l' b _ hb
  | undef l v => exact fun _ l' => by simp only [PV.copy]; exact .undef l' v
/-- The state of a walk: what the temporaries hold, and the blocks of its own. -/
structure GS where
  slots : List (Nat × PV)
  mem : List (List PV)
def GS.get (s : GS) (i : Nat) : Option PV := s.slots.lookup i
def GS.set (s : GS) (i : Nat) (p : PV) : GS := { s with slots := (i, p) :: s.slots }
/-- How a map stands for what is known of it. -/
def MapRel (w : World) (S : Reg) (kvs : List (D × D)) (es : Array MapEntry) : Prop :=
  (∀ (i : Nat) e, es[i]? = some e → ∃ x ∈ kvs, x.1.keyV = some e.key) ∧ (∀ x ∈ kvs, ∃ (i : Nat) (e : MapEntry), es[i]? = some e ∧ x.1.keyV = some e.key) ∧
  ∀ (i : Nat) e x, es[i]? = some e → x ∈ kvs → x.1.keyV = some e.key → Rd w S x.2 e.val
/-- How an iterator over a text is written down. -/
def iterK (b : ByteArray) (pos : Nat) : List (D × D) := [(.nilF, .str b), (.nilF, .int .i64 pos)]
def isIter : List (D × D) → Bool
  | (.nilF, _) :: _ => true
  | _ => false
/-- What a block of one's own holds: cells, a map, an iterator; or nothing is known of it. -/
def Blk (w : World) (S : Reg) (O : Owns) (m : List Nat) (i : Nat) (cs : List PV) (r : Nat) : Prop :=
  (∃ vs el, w.heap[r]? = some (.cells vs el (0, 0)) ∧ cs.length ≤ vs.size ∧ (∀ (j : Nat) v, vs[j]? = some v → v.oneCell' = true) ∧ ∀ (j : Nat) p v, cs[j]? = some p → vs[j]? = some v → RP w S O m [j, i, 1] p v) ∨
  (∃ kvs es c, cs = [.mapc kvs] ∧ w.heap[r]? = some (.map es c) ∧ MapRel w S kvs es) ∨ cs = [.undef] ∨ ∃ b pos, cs = [.mapc (iterK b pos)] ∧ w.heap[r]? = some (.stringIter b pos)
theorem Blk.frame {w w' : World} {S S' : Reg} {O O' : Owns} {m m' : List Nat} {i i' : Nat} {cs : List PV} {r : Nat} (h : Blk w S O m i cs r) (hh : w'.heap[r]? = w.heap[r]?) (hE : Ext S w w') (hs : ∀ b o, S b o → S' b o)
    (hO : ∀ j b t q, O b = some (q ++ [j, i, 1], t) → O' b = some (q ++ [j, i', 1], t)) (hm : ∀ (b r : Nat), m[b]? = some r → m'[b]? = some r) : Blk w' S' O' m' i' cs r := by
  rcases h with ⟨vs, el, h1, h2, h3, h4⟩ | ⟨kvs, es, c, rfl, h1, h2, h3, h4⟩ | rfl | ⟨b, pos, rfl, h1⟩
  · exact .inl ⟨vs, el, hh.trans h1, h2, h3, fun j p v hp hv => (h4 j p v hp hv).frame _ hE hs (fun b t q => hO j b t q) hm⟩
  · exact .inr (.inl ⟨kvs, es, c, rfl, hh.trans h1, h2, h3, fun i e x hi hx hk => (h4 i e x hi hx hk).ext hE hs⟩)
  · exact .inr (.inr (.inl rfl))
  · exact .inr (.inr (.inr ⟨b, pos, rfl, hh.trans h1⟩))
theorem Blk.to {w w' : World} {S S' : Reg} {O O' : Owns} {m m' : List Nat} {i i' : Nat} {cs cs' : List PV} {r : Nat} (h : Blk w S O m i cs r) (hh : w'.heap[r]? = w.heap[r]?) (hE : Ext S w w') (hs : ∀ b o, S b o → S' b o)
    (hl : cs'.length ≤ cs.length) (hp : ∀ (j : Nat) p', cs'[j]? = some p' → ∃ p, cs[j]? = some p ∧ ∀ v, RP w S O m [j, i, 1] p v → RP w' S' O' m' [j, i', 1] p' v)
    (hmc : ∀ kvs, cs = [.mapc kvs] → cs' = [.mapc kvs] ∨ cs' = [.undef]) (hun : cs = [.undef] → cs' = [.undef]) : Blk w' S' O' m' i' cs' r := by
  rcases h with ⟨vs, el, h1, h2, h3, h4⟩ | ⟨kvs, es, c, hc, h1, h2, h3, h4⟩ | hc | ⟨b, pos, hc, h1⟩
  · exact .inl ⟨vs, el, hh.trans h1, by omega, h3, fun j p' v hp' hv => by obtain ⟨p, hpp, hr⟩ := hp j p' hp'; exact hr v (h4 j p v hpp hv)⟩
  · rcases hmc kvs hc with hc' | hc'
    · exact .inr (.inl ⟨kvs, es, c, hc', hh.trans h1, h2, h3, fun i e x hi hx hk => (h4 i e x hi hx hk).ext hE hs⟩)
    · exact .inr (.inr (.inl hc'))
  · exact .inr (.inr (.inl (hun hc)))
  · rcases hmc _ hc with hc' | hc'
    · exact .inr (.inr (.inr ⟨b, pos, hc', hh.trans h1⟩))
    · exact .inr (.inr (.inl hc'))
/-- What the machine's memory owes to a call that began at w0 with S0 settled and O0 handed to it. -/
structure Env (S0 : Reg) (O0 : Owns) (w0 : World) (S : Reg) (O : Owns) (m : List Nat) (mem : List (List PV)) (w : World) : Prop where
  ext : Ext S0 w0 w
  old : ∀ b : Nat, b < w0.heap.size → O0 b = none → w.heap[b]? = w0.heap[b]?
  part : ∀ (b : Nat) l t o, b < w0.heap.size → O0 b = some (l, t) → o < t → w.cell? ⟨b, o, none⟩ = w0.cell? ⟨b, o, none⟩
  s0 : ∀ b o, S0 b o → S b o
  snew : ∀ b o, S b o → S0 b o ∨ w0.heap.size ≤ b ∨ ∃ l t, O0 b = some (l, t) ∧ t ≤ o
  sown : ∀ b o l t, S b o → O b = some (l, t) → o < t
  slt : ∀ b o, S b o → b < w.heap.size
  olt : ∀ b l t, O b = some (l, t) → b < w.heap.size
  onew : ∀ b l t, O b = some (l, t) → w0.heap.size ≤ b ∨ ∃ l0 t0, O0 b = some (l0, t0) ∧ t0 ≤ t
  mlen : m.length = mem.length
  mem : ∀ (i : Nat) cs r, mem[i]? = some cs → m[i]? = some r → cs ≠ [] → O r = some ([i, 1], 0) ∧ Blk w S O m i cs r
/-- What a walk is over: the program, the number of temporaries, and how the call began. -/
structure Ctx where
  P : Program
  n : Nat
  S0 : Reg
  O0 : Owns
  w0 : World
  m0 : List Nat
  Bs : List Nat := []
/-- The machine stands where the walk's state says. -/
structure Rep (K : Ctx) (S : Reg) (O : Owns) (m : List Nat) (s : GS) (a : Act) (w : World) : Prop where
  env : Env K.S0 K.O0 K.w0 S O m s.mem w
  defers : a.defers = []
  size : a.tmps.size = K.n
  pre : K.m0 <+: m
  slots : ∀ i p, s.get i = some p → RP w S O m [i, 0] p (a.tmps.getD i undef)
def At (K : Ctx) (s : GS) (a : Act) (w : World) : Prop := ∃ S O m, Rep K S O m s a w
/-- The walk's own precondition of a piece of code. -/
def G (K : Ctx) (c : Code) (Q : Exit → GS → Prop) (s : GS) : Prop :=
  ∀ a w, At K s a w → c.wp K.P (fun e a' w' => ∃ s', Q e s' ∧ At K s' a' w') a w
theorem G.mono {K : Ctx} {c : Code} {Q Q' : Exit → GS → Prop} {s : GS} (h : G K c Q s) (hq : ∀ e s, Q e s → Q' e s) : G K c Q' s :=
  fun a w ha => wp_mono (h a w ha) fun _ _ _ ⟨s', q, r⟩ => ⟨s', hq _ _ q, r⟩
theorem G_skip {K : Ctx} {Q : Exit → GS → Prop} {s : GS} (h : Q .normal s) : G K .skip Q s := fun _ _ ha => wp_skip ⟨s, h, ha⟩
theorem G_exit {K : Ctx} {id : Nat} {Q : Exit → GS → Prop} {s : GS} (h : Q (.exit id) s) : G K (.exit id) Q s := fun _ _ ha => wp_exit ⟨s, h, ha⟩
theorem G_ret {K : Ctx} {Q : Exit → GS → Prop} {s : GS} (h : Q .ret s) : G K .ret Q s := fun _ _ ha => wp_ret ⟨s, h, ha⟩
/-- On with y behind x. -/
def thn (K : Ctx) (y : Code) (Q : Exit → GS → Prop) : Exit → GS → Prop
  | .normal, s => G K y Q s
  | e, s => Q e s
theorem G_seq {K : Ctx} {x y : Code} {Q : Exit → GS → Prop} {s : GS} (h : G K x (thn K y Q) s) : G K (.seq x y) Q s := by
  intro a w ha
  refine wp_seq (wp_mono (h a w ha) ?_)
  rintro e a' w' ⟨s', q, r⟩
  cases e with
  | normal => exact q a' w' r
  | exit id => exact ⟨s', q, r⟩
  | goto l => exact ⟨s', q, r⟩
  | ret => exact ⟨s', q, r⟩
  | panic ch => exact ⟨s', q, r⟩
  | outgrown => exact ⟨s', q, r⟩
/-- Out of a block. -/
def inBlk (id : Nat) (Q : Exit → GS → Prop) : Exit → GS → Prop
  | .exit id', s => if id' = id then Q .normal s else Q (.exit id') s
  | e, s => Q e s
theorem G_block {K : Ctx} {id : Nat} {c : Code} {Q : Exit → GS → Prop} {s : GS} (h : G K c (inBlk id Q) s) : G K (.block id c) Q s := by
  intro a w ha
  refine wp_block (wp_mono (h a w ha) ?_)
  rintro e a' w' ⟨s', q, r⟩
  cases e with
  | normal => exact ⟨s', q, r⟩
  | exit id' =>
    simp only [inBlk] at q
    simp only [Exit.inBlock]
    split
    · rename_i hid; rw [if_pos hid] at q; exact ⟨s', q, r⟩
    · rename_i hid; rw [if_neg hid] at q; exact ⟨s', q, r⟩
  | goto l => exact ⟨s', q, r⟩
  | ret => exact ⟨s', q, r⟩
  | panic ch => exact ⟨s', q, r⟩
  | outgrown => exact ⟨s', q, r⟩
/-- A loop: states by a letter of any kind, a measure; each round comes to a state of a lesser one, or out. -/
theorem G_loop {K : Ctx} {c : Code} {Q : Exit → GS → Prop} {s : GS} {α : Type} (St : α → GS) (mu : α → Nat) (I : α → Prop) (x0 : α) (h0 : I x0)
    (hs : ∀ a w, At K s a w → At K (St x0) a w)
    (hr : ∀ x, I x → G K c (fun e s' => match e with
      | .normal => ∃ x', I x' ∧ mu x' < mu x ∧ ∀ a w, At K s' a w → At K (St x') a w
      | e => Q e s') (St x)) : G K (.loop c) Q s := by
  intro a w ha b k cs
  have key : ∀ n, ∀ x a w, mu x = n → I x → At K (St x) a w →
      ∃ e a' w', (∃ s', Q e s' ∧ At K s' a' w') ∧ Arrives K.P (lone (b.at a (.code c :: .inLoop c :: k)) cs w) b k cs e a' w' := by
    intro n
    induction n using Nat.strongRecOn with
    | _ n ih =>
      intro x a w hn hI hat
      obtain ⟨e, a₁, w₁, ⟨s', hq, hat'⟩, harr⟩ := hr x hI a w hat b (.inLoop c :: k) cs
      cases e with
      | normal =>
        obtain ⟨x', hI', hlt, hle⟩ := hq
        obtain ⟨e₂, a₂, w₂, hq₂, harr₂⟩ := ih (mu x') (hn ▸ hlt) x' a₁ w₁ rfl hI' (hle _ _ hat')
        exact ⟨e₂, a₂, w₂, hq₂, .of_steps (Steps.trans harr (.one step_inLoop)) harr₂⟩
      | exit id => exact ⟨_, a₁, w₁, ⟨s', hq, hat'⟩, .pass (x := .inLoop c) rfl (fun _ _ => .inl (by simp)) harr⟩
      | goto l => exact ⟨_, a₁, w₁, ⟨s', hq, hat'⟩, .pass (x := .inLoop c) rfl (fun _ _ => .inl (by simp)) harr⟩
      | ret => exact ⟨_, a₁, w₁, ⟨s', hq, hat'⟩, .pass (x := .inLoop c) rfl (fun _ _ => .inl (by simp)) harr⟩
      | panic ch => exact ⟨_, a₁, w₁, ⟨s', hq, hat'⟩, .pass (x := .inLoop c) rfl (fun _ _ => .inl (by simp)) harr⟩
      | outgrown => exact ⟨_, a₁, w₁, ⟨s', hq, hat'⟩, .pass (x := .inLoop c) rfl (fun _ _ => .inl (by simp)) harr⟩
  obtain ⟨e, a', w', hq, harr⟩ := key _ x0 a w rfl h0 (hs a w ha)
  exact ⟨e, a', w', hq, .of_steps (.one step_loop) harr⟩
end Go.Proofs.YtklkbfpjimeaoaaGreat.E
