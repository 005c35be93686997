import Derived.Test.YtklkbfpjimeaoaaGreatM15
import Derived.Test.YtklkbfpjimeaoaaGreatM12
/- Contracts of functions. Conditions: none. -/
set_option linter.unusedSimpArgs false
set_option linter.unusedVariables false
namespace Go.Proofs.YtklkbfpjimeaoaaGreat.E
open Go
section
structure KC (P : Program) (kt : TypeId) (kb : D → Bool) : Prop where
 law : WideMaps.KeyLaw P kt
 ok : ∀ k, kb k = true → KG P kt k ∧ k ≠ .nilF
def strB : D → Bool
 | .str s => Nat.ble s.size 140737488355328
 | _ => false
variable {kt : TypeId}
theorem strKC {P : Program} (hu : P.underlying kt = some .string) : KC P kt strB where
 law := Go.WideMaps.string_law hu
 ok k hk := by
  cases k with
  | str s =>
   have hs : s.size ≤ 140737488355328 := Nat.le_of_ble_eq_true hk
   exact ⟨⟨.string s, _, rfl, Go.WideMaps.keyOf_string_mk hu (Nat.le_trans hs (by decide))⟩, by intro h; cases h⟩
  | _ => cases hk
def repKK {β : Sort _} (k : D) (p : PV) : List D → List PV → (List PV → Option β) → Option β
 | x :: r, v :: vs, c => match x.keyQ k with
  | true => repKK k p r vs fun l => c (p :: l)
  | false => repKK k p r vs fun l => c (v :: l)
 | _, vs, c => c vs
variable {β : Sort _}
theorem repKK_eq (k : D) (p : PV) : ∀ (ks : List D) (vs : List PV) (c : List PV → Option β), repKK k p ks vs c = c (repK k p ks vs)
 | [], vs, c => by cases vs <;> rfl
 | x :: r, [], c => by rw [repKK, repK] <;> simp
 | x :: r, v :: vs, c => by
  rw [repKK, repK]
  cases x.keyQ k with
  | true => exact repKK_eq k p r vs _
  | false => exact repKK_eq k p r vs _
def putMK (mem : List (List PV)) (b : Nat) (ks : List D) (vs : List PV) (k : D) (p : PV) : Option (List (List PV)) := match hasK k ks with
 | true => repKK k p ks vs fun vs' => setK mem b (mpc ks vs') some
 | false => snocK ks k fun ks' => snocK vs p fun vs' => setK mem b (mpc ks' vs') some
variable {mem : List (List PV)} {b : Nat} {vs : List PV}
theorem putMK_of {mem' : List (List PV)} {ks : List D} {k : D} {p : PV} (h : putMK mem b ks vs k p = some mem') : mem.set b (mpc (putKs ks k) (putVs ks k vs p)) = mem' := by
 unfold putMK at h
 unfold putKs putVs
 split at h
 · rename_i hh
   rw [repKK_eq, setK_eq] at h
   injection h with h
   rw [hh]; exact h
 · rename_i hh
   rw [snocK_eq, snocK_eq, setK_eq] at h
   injection h with h
   rw [hh]; exact h
def lkK (ok : Bool) (k : D) (zp : PV) (ks : List D) (vs : List PV) : Option PV := match ok with
 | true => frc (lookP k zp ks vs) fun p => match hasK k ks with
  | true => some (.tup [p, .d (.bool true)])
  | false => some (.tup [p, .d (.bool false)])
 | false => frc (lookP k zp ks vs) some
theorem lkK_of {ok : Bool} {k : D} {zp r : PV} {ks : List D} (h : lkK ok k zp ks vs = some r) : lkR ok (lookP k zp ks vs) (hasK k ks) = r := by
 unfold lkK at h
 split at h
 · rw [frc_eq] at h
   split at h
   · rename_i hh; injection h with h; rw [hh]; exact h
   · rename_i hh; injection h with h; rw [hh]; exact h
 · rw [frc_eq] at h; injection h
variable {K : Ctx} {fr : List Fr} {Q : Exit → GS → Prop}
theorem gMuC {T : List (Nat × TI)} {ops : Array Oper} {i : Nat} {l : List Nat} {sl : List (Nat × PV)} {mem' : List (List PV)} {ks : List D} {k : D} {p : PV} {kb : D → Bool} (hT : tabB K.P T = true)
 (h : mus T ops.toList i sl = some (b, kt, k, p)) (hm : nth mem b = some (mpc ks vs)) (C : KC K.P kt kb) (hl : vs.length = ks.length) (hks : ks.all kb = true) (hk : kb k = true) (hno : p.noown = true)
 (hmem : putMK mem b ks vs k p = some mem') (hg : GF K fr (.ops ops l) Q ⟨sl, mem'⟩) : GF K fr (.ops ops (i :: l)) Q ⟨sl, mem⟩ :=
 gMu hT h hm C.law hl (fun k hk => (C.ok k (List.all_eq_true.1 hks k hk)).2) (fun k hk => (C.ok k (List.all_eq_true.1 hks k hk)).1) (C.ok k hk).1 hno (putMK_of hmem) hg
theorem gLkC {T : List (Nat × TI)} {ops : Array Oper} {i t : Nat} {l : List Nat} {sl : List (Nat × PV)} {ok : Bool} {et : TypeId} {k : D} {ks : List D} {zp r : PV} {kb : D → Bool} (hT : tabB K.P T = true)
 (h : lks T ops.toList K.n i sl = some (t, ok, .mref b, kt, et, k)) (hz : zvT T et = some zp) (hm : nth mem b = some (mpc ks vs)) (C : KC K.P kt kb) (hl : vs.length = ks.length) (hks : ks.all kb = true) (hk : kb k = true) (hno : PV.noowns vs = true)
 (hr : lkK ok k zp ks vs = some r) (hg : GF K fr (.ops ops l) Q ⟨(t, r) :: sl, mem⟩) : GF K fr (.ops ops (i :: l)) Q ⟨sl, mem⟩ :=
 gLk hT h hz hm C.law hl (fun k hk => (C.ok k (List.all_eq_true.1 hks k hk)).2) (fun k hk => (C.ok k (List.all_eq_true.1 hks k hk)).1) (C.ok k hk).1 hno (lkK_of hr) hg
theorem gct {c : Operand} {x y : Code} {s : GS} {b : Bool} (hc : evl s.slots c = .d (.bool b)) (hb : b = true) (hx : GF K fr (.code x) Q s) : GF K fr (.code (.cond c x y)) Q s := gcd hc (fun _ => hx) (fun h => by rw [h] at hb; cases hb)
theorem gcf {c : Operand} {x y : Code} {s : GS} {b : Bool} (hc : evl s.slots c = .d (.bool b)) (hb : b = false) (hy : GF K fr (.code y) Q s) : GF K fr (.code (.cond c x y)) Q s := gcd hc (fun h => by rw [h] at hb; cases hb) (fun _ => hy)
def frvK {β : Sort _} (n : Nat) (X : PV) : List PV → (List PV → Option β) → Option β
 | [], k => k []
 | p :: r, k => match p with
  | .mref b => match Nat.beq b n with
   | true => frvK n X r fun l => k (X :: l)
   | false => frvK n X r fun l => k (.mref b :: l)
  | .d x => frvK n X r fun l => k (.d x :: l)
  | .mapc kvs => frvK n X r fun l => k (.mapc kvs :: l)
  | p => frvK n X r fun l => k (PV.frz n noF noH X p :: l)
theorem frvK_eq (n : Nat) (X : PV) : ∀ (l : List PV) (k : List PV → Option β), frvK n X l k = k (PV.frzs n noF noH X l)
 | [], _ => rfl
 | p :: r, k => by
  cases p with
  | mref b =>
   rw [frvK, PV.frzs, PV.frz]
   cases hb : Nat.beq b n with
   | true => dsimp only; rw [frvK_eq n X r, if_pos (Nat.eq_of_beq_eq_true hb)]
   | false => dsimp only; rw [frvK_eq n X r, if_neg (Nat.ne_of_beq_eq_false hb)]
  | d x => rw [frvK, frvK_eq n X r, PV.frzs, PV.frz]
  | mapc kvs => rw [frvK, frvK_eq n X r, PV.frzs, PV.frz]
  | _ => unfold frvK; dsimp only; rw [frvK_eq n X r, PV.frzs]
def frmK {β : Sort _} (n : Nat) (X : PV) : List (List PV) → (List (List PV) → Option β) → Option β
 | [], k => k []
 | c :: r, k => frvK n X c fun c' => frmK n X r fun l => k (c' :: l)
theorem frmK_eq (n : Nat) (X : PV) : ∀ (l : List (List PV)) (k : List (List PV) → Option β), frmK n X l k = k (l.map (PV.frzs n noF noH X))
 | [], _ => rfl
 | c :: r, k => by rw [frmK, frvK_eq, frmK_eq n X r]; rfl
def frlK {β : Sort _} (n : Nat) (X : PV) : List (Nat × PV) → (List (Nat × PV) → Option β) → Option β
 | [], k => k []
 | (i, p) :: r, k => match p with
  | .mref b => match Nat.beq b n with
   | true => frlK n X r fun l => k ((i, X) :: l)
   | false => frlK n X r fun l => k ((i, .mref b) :: l)
  | .d x => frlK n X r fun l => k ((i, .d x) :: l)
  | .ref b o => match Nat.beq b n with
   | true => frlK n X r fun l => k ((i, .undef) :: l)
   | false => frlK n X r fun l => k ((i, .ref b o) :: l)
  | p => frc (PV.frz n noF noH X p) fun q => frlK n X r fun l => k ((i, q) :: l)
theorem frlK_eq (n : Nat) (X : PV) : ∀ (l : List (Nat × PV)) (k : List (Nat × PV) → Option β), frlK n X l k = k (l.map fun x => (x.1, PV.frz n noF noH X x.2))
 | [], _ => rfl
 | (i, p) :: r, k => by
  cases p with
  | mref b =>
   rw [frlK, List.map_cons, PV.frz]
   cases hb : Nat.beq b n with
   | true => dsimp only; rw [frlK_eq n X r, if_pos (Nat.eq_of_beq_eq_true hb)]
   | false => dsimp only; rw [frlK_eq n X r, if_neg (Nat.ne_of_beq_eq_false hb)]
  | ref b o =>
   rw [frlK, List.map_cons, PV.frz]
   cases hb : Nat.beq b n with
   | true => dsimp only; rw [frlK_eq n X r, if_pos (Nat.eq_of_beq_eq_true hb)]; rfl
   | false => dsimp only; rw [frlK_eq n X r, if_neg (Nat.ne_of_beq_eq_false hb)]
  | d x => rw [frlK, frlK_eq n X r, List.map_cons, PV.frz]
  | _ => unfold frlK; dsimp only; rw [frc_eq, frlK_eq n X r, List.map_cons]
def zipK {β : Sort _} : List D → List D → (List (D × D) → Option β) → Option β
 | a :: as, b :: bs, k => zipK as bs fun l => k ((a, b) :: l)
 | _, _, k => k []
theorem zipK_eq : ∀ (as bs : List D) (k : List (D × D) → Option β), zipK as bs k = k (as.zip bs)
 | [], _, _ => by unfold zipK; rfl
 | _ :: _, [], _ => by unfold zipK; rfl
 | a :: as, b :: bs, k => by rw [zipK, zipK_eq as bs]; rfl
def fmS (s : GS) (keep : List (List PV)) (ks : List D) (vs : List PV) : Option (Nat × GS) := lenK keep fun n => match PV.toDs vs with
 | some ds => zipK ks ds fun kvs => frlK n (.d (.map kvs)) s.slots fun sl => frmK n (.d (.map kvs)) keep fun mem => some (n, ⟨sl, mem⟩)
 | none => none
theorem gFmC {c : Cf} {sl : List (Nat × PV)} {keep : List (List PV)} {s' : GS} {ks : List D} {n : Nat} {kb : D → Bool} (hp : popK mem (fun a b => some (a, b)) = some (keep, mpc ks vs)) (hf : fmS ⟨sl, mem⟩ keep ks vs = some (n, s')) (hl : vs.length = ks.length) (hks : ks.all kb = true) (hkb : ∀ k, kb k = true → k ≠ .nilF) (hm : K.m0.length ≤ n)
 (hc : goes c = true) (hg : GF K fr c Q s') : GF K fr c Q ⟨sl, mem⟩ := by
 obtain ⟨l', z, h1, h2⟩ := popK_of hp
 injection h2 with h2; injection h2 with e1 e2
 subst e1; subst e2
 unfold fmS at hf
 rw [lenK_eq] at hf
 split at hf
 · rename_i ds hds
   rw [zipK_eq, frlK_eq, frmK_eq] at hf
   injection hf with hf; injection hf with e1 e2
   subst e1; subst e2
   exact gFm (s := ⟨sl, mem⟩) h1 rfl hds hl (fun k hk => hkb k (List.all_eq_true.1 hks k hk)) hm rfl hc hg
 · cases hf
end
section
def fgS (s : GS) : Option (Nat × GS) := popK s.mem fun keep _ => lenK keep fun n => frzK n noF s.slots fun sl => some (n, ⟨sl, keep⟩)
theorem gFg {K : Ctx} {fr : List Fr} {c : Cf} {Q : Exit → GS → Prop} {s s' : GS} {n : Nat} (h : fgS s = some (n, s')) (hk : K.m0.length ≤ n) (hrf : s'.mem.all (PV.refsBs n) = true) (hc : goes c = true) (hg : GF K fr c Q s') : GF K fr c Q s := by
 obtain ⟨keep, cs, hm, h⟩ := popK_of h
 rw [lenK_eq, frzK_eq] at h
 injection h with h; injection h with e1 e2
 subst e1; subst e2
 exact gLe (Le_forget keep.length hm rfl hk hrf) hg hc
def gsk (ops : List Oper) (n i : Nat) (sl : List (Nat × PV)) : Option (Nat × Bool) := opK ops i fun o => dstK n o fun t => gdK ops n o sl fun g => match g with
 | some g => some (t, g)
 | none => none
theorem gSk (p : PV) {K : Ctx} {fr : List Fr} {ops : Array Oper} {Q : Exit → GS → Prop} {i t : Nat} {l : List Nat} {sl : List (Nat × PV)} {mem : List (List PV)} {g : Bool} (h : gsk ops.toList K.n i sl = some (t, g)) (hgf : g = false) (hg : GF K fr (.ops ops l) Q ⟨(t, .when g p) :: sl, mem⟩) : GF K fr (.ops ops (i :: l)) Q ⟨sl, mem⟩ := by
 obtain ⟨o, ho1, h⟩ := opK_of h
 obtain ⟨t', hdt, ht, h⟩ := dstK_of h
 obtain ⟨g', h, hq⟩ := quiet_of (mem := mem) ho1 hdt ht h
 split at h
 · injection h with h; injection h with e1 e2
   subst e1; subst e2
   exact hq p _ _ (fun h => absurd (show _ = true from h) (by rw [hgf]; decide)) hg
 · cases h
end
section
def lsK (ok : Bool) (k zd : D) (kvs : List (D × D)) : Option PV := match ok with
 | true => match mhasQ k kvs with
  | true => some (.tup [.d (mgetQ k zd kvs), .d (.bool true)])
  | false => some (.tup [.d zd, .d (.bool false)])
 | false => match mgetQ k zd kvs with
  | .map l => some (.d (.map l))
  | .str l => some (.d (.str l))
  | d => some (.d d)
theorem mget_nohas {k zd : D} : ∀ {kvs : List (D × D)}, mhasQ k kvs = false → mgetQ k zd kvs = zd
 | [], _ => rfl
 | x :: r, h => by
  rw [mhasQ] at h
  rw [mgetQ]
  cases hx : x.1.keyQ k with
  | true => rw [hx] at h; cases h
  | false => rw [hx] at h; exact mget_nohas h
theorem lsK_of {ok : Bool} {k zd : D} {kvs : List (D × D)} {r : PV} (h : lsK ok k zd kvs = some r) : lkR ok (.d (mgetQ k zd kvs)) (mhasQ k kvs) = r := by
 unfold lsK at h
 split at h
 · split at h
   · rename_i hh; injection h with h; rw [hh]; exact h
   · rename_i hh; injection h with h; rw [hh, mget_nohas hh]; exact h
 · split at h
   all_goals exact Option.some.inj (by simp_all [lkR])
variable {K : Ctx} {mem : List (List PV)}
theorem gLsC {T : List (Nat × TI)} {fr : List Fr} {ops : Array Oper} {Q : Exit → GS → Prop} {i t : Nat} {l : List Nat} {sl : List (Nat × PV)} {ok : Bool} {kt et : TypeId} {k zd : D} {kvs : List (D × D)} {zp r : PV} {kb : D → Bool} (hT : tabB K.P T = true)
 (h : lks T ops.toList K.n i sl = some (t, ok, .d (.map kvs), kt, et, k)) (hz : zvT T et = some zp) (hzd : zp.toD = some zd) (C : KC K.P kt kb) (hks : kvs.all (fun x => kb x.1) = true) (hk : kb k = true)
 (hr : lsK ok k zd kvs = some r) (hg : GF K fr (.ops ops l) Q ⟨(t, r) :: sl, mem⟩) : GF K fr (.ops ops (i :: l)) Q ⟨sl, mem⟩ :=
 gLs hT h hz hzd C.law (fun x hx => (C.ok x.1 (List.all_eq_true.1 hks x hx)).1) (C.ok k hk).1 (lsK_of hr) hg
variable {P : Program} {mem' : List (List PV)} {out : PV ⊕ Value} {rvs : List ResultVar}
theorem xmB {f : FuncId} {fn : Func} {c : Code} {args : List PV} {n : Nat} {slots : List (Nat × PV)} (k : Nat) (hf : P.funcs[f]? = some fn) (hn : fn.ntmps = n) (hres : fn.results = rvs.toArray)
 (h : ∀ S0 O0 w0 m0, m0.length = k → GF ⟨P, n, S0, O0, w0, m0, [], []⟩ [] (.code c) (FinX P rvs k (fun q m => out = .inl q ∧ m = mem') (fun v m => out = .inr v ∧ m = mem')) ⟨slots, mem⟩)
 (hb : fn.body = some c := by rfl) (hnm : (fn.name == "runtime.NumGoroutine") = false := by rfl) (hal : args.length ≤ n := by exact oR rfl) (hsl : (List.range args.length).zip args = slots := by rfl) (hk : mem.length = k := by rfl) : Xm P f args mem out mem' :=
 ⟨⟨fn, hf, by rw [hb]; rfl, hnm⟩, gx_body n rvs slots k hf hb hn hal hres hsl hk h⟩
theorem gEndXM {T : List (Nat × TI)} {sl : List (Nat × PV)} {e : Exit} {k : Nat} {q : PV} {RX : Value → List (List PV) → Prop} (hT : tabB P T = true) (h : endK T sl mem rvs e = some q) (hr : out = .inl q) (hm : MSub mem'.length mem mem') (hb : PV.refsB mem'.length q = true) (hn : k ≤ mem'.length) :
 GF K [] (.leave e) (FinX P rvs k (fun q m => out = .inl q ∧ m = mem') RX) ⟨sl, mem⟩ := by
 have he : endE e = true := by
  unfold endK at h
  split at h
  · assumption
  · cases h
 refine toL (finX_of he ?_)
 exact gEndM (K := K) (R := fun q m => out = .inl q ∧ m = mem') hT h hb hn hm ⟨hr, rfl⟩
theorem gPanM {sl : List (Nat × PV)} {k : Nat} {v : Value} {R : PV → List (List PV) → Prop} (hr : out = .inr v) (hm : MSub mem'.length mem mem') (hn : k ≤ mem'.length) :
 GF K [] (.leave (.panic (chain1 v))) (FinX P rvs k R (fun v m => out = .inr v ∧ m = mem')) ⟨sl, mem⟩ := toL ⟨v, mem', rfl, hn, hm, hr, rfl⟩
end
section
mutual
/-- Data without an address. -/
def flatB : D → Bool
 | .int _ _ => true
 | .bool _ => true
 | .str _ => true
 | .agg cs => flatsB cs
 | .sl [] => true
 | _ => false
def flatsB : List D → Bool
 | [] => true
 | d :: r => flatB d && flatsB r
end
theorem flatsB_get : ∀ {cs : List D}, flatsB cs = true → ∀ {i : Nat} {d : D}, cs[i]? = some d → flatB d = true
 | [], _, i, d, hd => by simp at hd
 | c :: r, h, i, d, hd => by
  rw [flatsB, Bool.and_eq_true] at h
  cases i with
  | zero => simp at hd; subst hd; exact h.1
  | succ i => exact flatsB_get h.2 (by simpa using hd)
theorem Rd.flat {w w' : World} {S S' : Reg} {d : D} {v : Value} (h : Rd w S d v) : flatB d = true → Rd w' S' d v := by
 induction h with
 | int k n => exact fun _ => .int k n
 | bool b => exact fun _ => .bool b
 | str s => exact fun _ => .str s
 | agg cs vs hl ho h ih => intro hf; rw [flatB] at hf; exact .agg cs vs hl ho fun i d v hd hv => ih i d v hd hv (flatsB_get hf hd)
 | sl xs a cap k hcap hlim hk hn _ _ _ =>
  intro hf
  cases xs with
  | nil => exact .sl [] a cap k hcap hlim hk hn (fun _ _ i x j y hx => by simp at hx) (fun _ i x j y v _ hx => by simp at hx)
  | cons x r => simp [flatB] at hf
 | _ => intro hf; simp [flatB] at hf
def swp (n b : Nat) : Nat := if b = 0 then n else if b = n then 0 else b
theorem swp_swp (n b : Nat) : swp n (swp n b) = b := by
 unfold swp
 split <;> split <;> simp_all
theorem swp_lt {n L b : Nat} (hn : n < L) (hb : b < L) : swp n b < L := by
 unfold swp
 split
 · exact hn
 · split <;> omega
def lab (n : Nat) : List Nat → List Nat
 | [i, 1] => [swp n i, 1]
 | l => l
theorem lab_len {n : Nat} {l : List Nat} (h : l.length ≠ 2) : lab n l = l := by
 unfold lab
 split
 · simp at h
 · rfl
theorem lab_slot (n i : Nat) : ∀ q : List Nat, lab n (q ++ [i, 0]) = q ++ [i, 0]
 | [] => rfl
 | [a] => lab_len (by simp)
 | a :: b :: q => lab_len (by simp)
theorem Le_swap {K : Ctx} {s : GS} (n : Nat) {mem' : List (List PV)} (hk : K.m0.length = 0) (hn : n < s.mem.length) (hl : mem'.length = s.mem.length) (hno : s.mem.all PV.noowns = true)
 (hmm : ∀ i cs, mem'[i]? = some cs → ∃ cs0, s.mem[swp n i]? = some cs0 ∧ cs = PV.rens (swp n) cs0) : Le K s ⟨s.slots.map fun x => (x.1, x.2.ren (swp n)), mem'⟩ := by
 rintro a w ⟨S, O, m, h⟩
 have he := h.env
 have hml := he.mlen
 have hm1 : ∀ b r : Nat, m[b]? = some r → ((List.range m.length).map fun k => m.getD (swp n k) 0)[swp n b]? = some r := fun b r hb => by
  have hlt := (lG hb)
  have h2 : swp n b < m.length := swp_lt (by omega) hlt
  rw [List.getElem?_map, List.getElem?_range h2, Option.map_some, swp_swp, List.getD_eq_getElem?_getD, hb]; rfl
 have hm2 : ∀ b r : Nat, ((List.range m.length).map fun k => m.getD (swp n k) 0)[b]? = some r → m[swp n b]? = some r := fun b r hb => by
  have hlt : b < m.length := by have := (lG hb); simpa using this
  have h2 : swp n b < m.length := swp_lt (by omega) hlt
  rw [List.getElem?_map, List.getElem?_range hlt, Option.map_some, List.getD_eq_getElem?_getD, gE h2] at hb
  rw [gE h2]; exact hb
 refine ⟨S, reo O (lab n), (List.range m.length).map fun k => m.getD (swp n k) 0, ⟨⟨he.ext, he.old, he.part, he.s0, he.snew, fun k o l t hS hO => ?_, he.slt, fun k l t hO => ?_, fun k l t hO => ?_, by simp [hl, hml], fun i cs r hi hr hne' => ?_⟩, h.defers, h.size, ?_, fun i p hp => ?_⟩⟩
 · obtain ⟨l0, h1, _⟩ := reo_some hO; exact he.sown k o l0 t hS h1
 · obtain ⟨l0, h1, _⟩ := reo_some hO; exact he.olt k l0 t h1
 · obtain ⟨l0, h1, _⟩ := reo_some hO; exact he.onew k l0 t h1
 · obtain ⟨cs0, hc0, rfl⟩ := hmm i cs hi
   obtain ⟨g1, g2⟩ := he.mem (swp n i) cs0 r hc0 (hm2 i r hr) (by rintro rfl; exact hne' rfl)
   refine ⟨by rw [reo_of g1]; show some ([swp n (swp n i), 1], 0) = _; rw [swp_swp], g2.to rfl (Ext.refl S w) (fun _ _ h => h) (by rw [PV.rens_map, List.length_map]) (fun j p' hp => ?_) (fun p p' h0 h1 hs => ?_)⟩
   · rw [PV.rens_get] at hp
     cases hq : cs0[j]? with
     | none => simp [hq] at hp
     | some q =>
      simp only [hq, Option.map_some, Option.some.injEq] at hp
      subst hp
      exact ⟨q, rfl, fun v hv => (hv.any (PV.noowns_get (List.all_eq_true.1 hno cs0 (mG hc0)) hq) _ _).ren (swp n) hm1⟩
   · rw [PV.rens_get, h0] at h1
     simp only [Option.map_some, Option.some.injEq] at h1
     subst h1
     exact .inl (by cases p <;> first | (simp only [PV.ren]; done) | cases hs)
 · rw [List.eq_nil_of_length_eq_zero hk]; exact List.nil_prefix
 · have hp' : (s.slots.lookup i).map (PV.ren (swp n)) = some p := by rw [← lookup_map]; exact hp
   cases hq : s.slots.lookup i with
   | none => simp [hq] at hp'
   | some q =>
    simp only [hq, Option.map_some, Option.some.injEq] at hp'
    subst hp'
    exact ((h.slots i q hq).frame [i, 0] (Ext.refl S w) (fun _ _ h => h) (fun b t q' hO => by rw [reo_of hO, lab_slot]) (fun _ _ h => h)).ren (swp n) hm1
theorem lookup_all {sl : List (Nat × PV)} {f : PV → Bool} (h : sl.all (fun x => f x.2) = true) {i : Nat} {p : PV} (hp : sl.lookup i = some p) : f p = true := by
 induction sl with
 | nil => cases hp
 | cons x r ih =>
  rw [List.all_cons, Bool.and_eq_true] at h
  rw [List.lookup_cons] at hp
  split at hp
  · injection hp with hp; subst hp; exact h.1
  · exact ih h.2 hp
theorem wp_put {P : Program} {o : Oper} {a : Act} {w : World} {next next' : Act → World → Prop} {Q Q' : Exit → Act → World → Prop} (h : o.wp P a w next Q) (hQ : ∀ e a' w', e ≠ .normal → ¬ Q e a' w') (hL : ¬ LetsOut Q)
 (hn : ∀ v w', next (a.put o.dst v) w' → next' (a.put o.dst v) w') (hd : ∀ d w', ¬ next ({ a with defers := d :: a.defers }.put o.dst undef) w') : o.wp P a w next' Q' := by
 unfold Oper.wp at *
 generalize (execOp a.eval o).run P w = r at *
 cases r with
 | ok n w' =>
  cases n <;> simp only [Oper.upon] at h ⊢ <;>
   first
    | exact hn _ _ h
    | exact absurd h (hd _ _)
    | exact Calls.mono h (fun e w'' he => by cases e <;> first | exact hn _ _ he | exact absurd he (hQ _ _ _ (by intro h; cases h)) | exact absurd he hL)
    | exact Rows.mono h (fun _ _ he => hn _ _ he)
 | halt x w' => cases x <;> simp only [Oper.upon] at h ⊢ <;> first | exact absurd h (hQ _ _ _ (by intro h; cases h)) | exact absurd h hL | exact h
theorem gBor {K : Ctx} {fr : List Fr} {ops : Array Oper} {Q : Exit → GS → Prop} {i t : Nat} {l : List Nat} {sl sl1 : List (Nat × PV)} {mem : List (List PV)} {f : FuncId} {args : List PV} {b b' r : D} (x k : Nat)
 (hle : Le K ⟨sl, mem⟩ ⟨sl1, [[.d b]]⟩) (hno : sl1.all (fun x => x.2.noown) = true) (hx1 : (GS.mk sl1 [[.d b]]).get x = some (.ref 0 0)) (hx : (GS.mk sl mem).get x = some (.ref k 0)) (hk : mem[k]? = some [.d b])
 (hfr : flatB r = true) (hfb : flatB b' = true) (h : cms ops.toList K.n i sl1 = some (t, f, args)) (hc : Gm K.P f args [[.d b]] (.d r) [[.d b']]) (hra : PV.refsBs 1 args = true)
 (hg : GF K fr (.ops ops l) Q ⟨(t, .d r) :: sl, mem.set k [.d b']⟩) : GF K fr (.ops ops (i :: l)) Q ⟨sl, mem⟩ := by
 refine toO ?_
 have hg := ofO hg
 rintro a w hat
 obtain ⟨S1, O1, m1, hr1⟩ := hle a w hat
 obtain ⟨S, O, m, hr⟩ := hat
 obtain ⟨r0, hm10, hm0⟩ : ∃ r0, m1[0]? = some r0 ∧ m[k]? = some r0 := by
  have hv1 := hr1.slots x _ hx1
  have hv := hr.slots x _ hx
  generalize a.tmps.getD x undef = v at hv1 hv
  cases hv1 with | ref _ _ _ r0 h10 =>
  cases hv with | ref _ _ _ _ hk0 => exact ⟨r0, h10, hk0⟩
 have hO1 := (hr1.env.mem 0 [.d b] r0 rfl hm10 (by simp)).1
 have hB1 := (hr1.env.mem 0 [.d b] r0 rfl hm10 (by simp)).2
 have hO := (hr.env.mem k [.d b] r0 hk hm0 (by simp)).1
 have hRep : Rep ⟨K.P, K.n, S1, fun b => if b = r0 then some ([0, 1], 0) else none, w, m1, K.Bs, K.ds⟩ S1 (fun b => if b = r0 then some ([0, 1], 0) else none) m1 ⟨sl1, [[.d b]]⟩ a w := by
  refine ⟨⟨Ext.refl S1 w, fun _ _ _ => rfl, fun _ _ _ _ _ _ _ => rfl, fun _ _ h => h, fun _ _ h => .inl h, fun b o l t hS hO => ?_, hr1.env.slt, fun b l t hO => ?_, fun b l t hO => .inr ⟨l, t, hO, Nat.le_refl _⟩, hr1.env.mlen, fun i cs r hi hr hne => ?_⟩, hr1.defers, hr1.size, List.prefix_refl _, fun i p hp => (hr1.slots i p hp).any (lookup_all hno hp) _ _⟩
  · split at hO
    · rename_i hb; injection hO with hO; injection hO with e1 e2; subst e1; subst e2; subst hb; exact hr1.env.sown _ o _ _ hS hO1
    · cases hO
  · split at hO
    · rename_i hb; subst hb; exact hr1.env.olt _ _ _ hO1
    · cases hO
  · have hi0 : i = 0 := by have := (lG hi); simpa using this
    subst hi0
    rw [hm10] at hr
    injection hr with hr
    subst hr
    injection hi with hi
    subst hi
    refine ⟨if_pos rfl, ?_⟩
    obtain ⟨vs, el, h1, h2, h3, h4⟩ := hB1.cells rfl
    exact .inl ⟨vs, el, h1, h2, h3, fun j p v hp hv => (h4 j p v hp hv).any (by
     have hj : j = 0 := by have := (lG hp); simpa using this
     subst hj; injection hp with hp; subst hp; rfl) _ _⟩
 have hstep : GOps ⟨K.P, K.n, S1, fun b => if b = r0 then some ([0, 1], 0) else none, w, m1, K.Bs, K.ds⟩ ops (fun e s' => e = .normal ∧ s' = ⟨(t, .d r) :: sl1, [[.d b']]⟩) [i] ⟨sl1, [[.d b]]⟩ :=
  ofO (fr := []) (gM (fr := []) h hc hra (by rfl) (Nat.le_refl _) (toO (fr := []) (gN ⟨rfl, rfl⟩)))
 have h2 := hstep a w ⟨S1, _, m1, hRep⟩
 obtain ⟨o, ho1, h3⟩ := opK_of h
 obtain ⟨t', hdt, ht, h3⟩ := dstK_of h3
 have hoi : ops[i]? = some o := by rw [nth_eq] at ho1; rw [← ho1]; simp
 have hgd : o.guard = none ∧ t' = t := by
  split at h3
  · cases h3
  · rename_i hgd
    refine ⟨hgd, ?_⟩
    split at h3
    · split at h3
      · rw [evsK_eq] at h3
        split at h3
        · rw [appK_eq, appK_eq, copiesK_eq] at h3; injection h3 with h3; injection h3 with h3 _
        · rw [appK_eq, appK_eq, copiesK_eq] at h3; injection h3 with h3; injection h3 with h3 _
        · cases h3
      · cases h3
    · cases h3
 obtain ⟨hgd, rfl⟩ := hgd
 simp only [wpOps, hoi, Region.wanted, hgd, if_true] at h2 ⊢
 rcases h2 with h2 | ⟨_, h2⟩
 · refine .inl (wp_put h2 (fun e a' w' he hq => ?_) (fun hq => ?_) (fun v w' hq => ?_) (fun d w' hq => ?_))
   · obtain ⟨_, ⟨h5, _⟩, _⟩ := hq; exact he h5
   · obtain ⟨_, _, _, ⟨h5, _⟩, _⟩ := hq; cases h5
   · obtain ⟨_, ⟨_, rfl⟩, S', O', m', hR⟩ := hq
     refine hg _ _ ⟨S, O, m, ?_⟩
     have he := hR.env
     have hm' : m'[0]? = some r0 := by
      obtain ⟨z, hz⟩ := hR.pre
      rw [← hz]
      exact (List.getElem?_append_left (lG hm10)).trans hm10
     have hold : ∀ b, b < w.heap.size → b ≠ r0 → w'.heap[b]? = w.heap[b]? := fun b hb hne => he.old b hb (if_neg hne)
     have hnS : ∀ o, ¬ S r0 o := fun o hS => absurd (hr.env.sown r0 o _ _ hS hO) (Nat.not_lt_zero _)
     have hE : Ext S w w' := ⟨he.ext.size, he.ext.shape, fun b o hS => by
      have hne : b ≠ r0 := by rintro rfl; exact hnS o hS
      simp only [World.cell?, hold b (hr.env.slt b o hS) hne], fun b es c hS hh => by
      have hne : b ≠ r0 := by rintro rfl; exact hnS 0 hS
      rw [hold b (hr.env.slt b 0 hS) hne]; exact hh, he.ext.os, he.ext.tape, he.ext.output⟩
     have hsz0 := hr.env.ext.size
     refine ⟨⟨hr.env.ext.trans hE hr.env.s0, fun b hb h0 => ?_, fun b l t o hb h0 hot => ?_, hr.env.s0, hr.env.snew, hr.env.sown, fun b o hS => Nat.lt_of_lt_of_le (hr.env.slt b o hS) hE.size, fun b l t h0 => Nat.lt_of_lt_of_le (hr.env.olt b l t h0) hE.size, hr.env.onew, by rw [List.length_set]; exact hr.env.mlen, fun j cs r' hj hr' hne' => ?_⟩, hR.defers, hR.size, hr.pre, fun j p hp => ?_⟩
     · have hne : b ≠ r0 := by
        rintro rfl
        rcases hr.env.onew _ _ _ hO with h6 | ⟨l0, t0, h6, _⟩
        · omega
        · rw [h6] at h0; cases h0
       exact (hold b (by omega) hne).trans (hr.env.old b hb h0)
     · have hne : b ≠ r0 := by
        rintro rfl
        rcases hr.env.onew _ _ _ hO with h6 | ⟨l0, t0, h6, h7⟩
        · omega
        · rw [h6] at h0; injection h0 with h0; injection h0 with _ h0; omega
       have h8 := hr.env.part b l t o hb h0 hot
       simp only [World.cell?, hold b (by omega) hne] at h8 ⊢
       exact h8
     · by_cases hjk : j = k
       · subst hjk
         have hlt := (lG hk)
         rw [List.getElem?_set_self hlt] at hj
         injection hj with hj; subst hj
         rw [hm0] at hr'; injection hr' with hr'; subst hr'
         refine ⟨hO, ?_⟩
         obtain ⟨vs, el, g1, g2, g3, g4⟩ := ((he.mem 0 [.d b'] _ rfl hm' (by simp)).2).cells rfl
         refine .inl ⟨vs, el, g1, g2, g3, fun z p v hp hv => ?_⟩
         have hz : z = 0 := by have := (lG hp); simpa using this
         subst hz
         have hv := g4 0 p v hp hv
         injection hp with hp; subst hp
         cases hv with | d _ _ _ hv => exact .d _ _ _ (hv.flat hfb)
       · rw [List.getElem?_set_ne (Ne.symm hjk)] at hj
         obtain ⟨g1, g2⟩ := hr.env.mem j cs r' hj hr' hne'
         have hne : r' ≠ r0 := by
          rintro rfl
          rw [hO] at g1
          injection g1 with g1; injection g1 with g1 _; injection g1 with g1 _
          exact hjk g1.symm
         exact ⟨g1, g2.frame (hold r' (hr.env.olt _ _ _ g1) hne) hE (fun _ _ h => h) (fun _ _ _ _ h => h) (fun _ _ h => h)⟩
     · have hp0 : List.lookup j ((t', PV.d r) :: sl) = some p := hp
       rw [List.lookup_cons] at hp0
       have hta : t' < a.tmps.size := by rw [hr.size]; exact ht
       split at hp0
       · rename_i hjt
         injection hp0 with hp0; subst hp0
         obtain rfl : j = t' := by simpa using hjt
         have h9 := hR.slots j (.d r) (by simp [GS.get, List.lookup_cons])
         cases h9 with | d _ _ _ h9 => exact .d _ _ _ (h9.flat hfr)
       · rename_i hjt
         have hjt' : t' ≠ j := by rintro rfl; simp at hjt
         have h9 := (hr.slots j p hp0).ext hE (fun _ _ h => h) (fun _ _ _ h => h) (fun _ _ h => h)
         have h10 : (a.put o.dst v).tmps.getD j undef = a.tmps.getD j undef := by
          rw [hdt]
          simp only [Act.put, Array.getD_eq_getD_getElem?]
          rw [Array.getElem?_setIfInBounds_ne hjt']
         rw [h10]; exact h9
   · obtain ⟨_, ⟨_, rfl⟩, S', O', m', hR⟩ := hq
     have h5 := hR.defers
     have h6 := hr.defers
     rw [hdt] at h5
     simp only [Act.put] at h5
     rw [← h6] at h5
     have h7 := congrArg List.length h5
     simp at h7
 · obtain ⟨_, _, _, ⟨h5, _⟩, _⟩ := h2; cases h5
end
section
def ixv (ops : List Oper) (n i : Nat) (sl : List (Nat × PV)) : Option (Nat × TypeId × List D × Int) := opK ops i fun o => dstK n o fun t => match o.guard with
 | some _ => none
 | none => match o.op with
  | .index ty x ix => match evl sl x with
   | .d (.agg ds) => match evl sl ix with
    | .d (.int _ j) => some (t, ty, ds, j)
    | _ => none
   | _ => none
  | _ => none
theorem gIx {K : Ctx} {fr : List Fr} {ops : Array Oper} {Q : Exit → GS → Prop} {i t len : Nat} {ty e : TypeId} {td : TypeDesc} {l : List Nat} {sl : List (Nat × PV)} {mem : List (List PV)} {ds : List D} {j : Int} {d : D}
 (h : ixv ops.toList K.n i sl = some (t, ty, ds, j)) (hu : K.P.underlying ty = some (.array len e)) (hz : (K.P.info? e).map (·.size) = some 1) (he : K.P.underlying e = some td) (hl : leafT td = true) (h0 : 0 ≤ j) (h1 : j < len) (hd : ds[j.toNat]? = some d)
 (hg : GF K fr (.ops ops l) Q ⟨(t, .d d) :: sl, mem⟩) : GF K fr (.ops ops (i :: l)) Q ⟨sl, mem⟩ := by
 obtain ⟨o, ho1, h⟩ := opK_of h
 obtain ⟨t', hdt, ht, h⟩ := dstK_of h
 have hoi : ops[i]? = some o := by rw [nth_eq] at ho1; rw [← ho1]; simp
 split at h
 · cases h
 · rename_i hgd
   split at h
   · rename_i ty' x ix hop
     split at h
     · rename_i ds' hx
       split at h
       · rename_i k j' hj
         injection h with h; injection h with e1 h; injection h with e2 h; injection h with e3 e4
         subst e1; subst e2; subst e3; subst e4
         have hx' : (GS.mk sl mem).ev x = .d (.agg ds') := by rw [← hx]; exact (evl_eq' sl mem x).symm
         have hj' : (GS.mk sl mem).ev ix = .d (.int k j') := by rw [← hj]; exact (evl_eq' sl mem ix).symm
         refine toO (GOps_val hoi hgd (Yld_now hdt ht (p := .d d) fun S O m a w hr => ?_) (ofO hg))
         have hri := rd_int (hr.evd hj')
         have hrx := hr.evd hx'
         generalize hv : a.eval x = v at hrx
         cases hrx with
         | agg _ vs hsz ho hh =>
          have hlt : j'.toNat < vs.size := by rw [hsz]; exact (lG hd)
          refine ⟨vs[j'.toNat], ?_, .d _ _ _ (hh _ _ _ hd (Array.getElem?_eq_getElem hlt))⟩
          obtain ⟨ti, hti, hts⟩ : ∃ ti, K.P.info? e = some ti ∧ ti.size = 1 := by
           cases hq : K.P.info? e with
           | none => simp [hq] at hz
           | some ti => exact ⟨ti, rfl, by simpa [hq] using hz⟩
          simp only [execOp, hop, hv, hri]
          simp [Instr.index, asIntOf, run_underlying hu, h0, h1, sizeOf, typeInfo, hti, hts, part, run_isAgg he, hl, Array.getElem?_eq_getElem hlt]
       · cases h
     · cases h
   · cases h
end
section
def memM (iA iS : Nat) (mem mem1 mem2 : List (List PV)) (b : Nat → Bool) : List (List PV) := cond (b iA) (cond (b iS) mem2 mem1) mem
def COm (K : Ctx) (fr : List Fr) (ops : Array Oper) (base : List (Nat × PV)) (iA iS : Nat) (mem mem1 mem2 : List (List PV)) (i : Nat) (es : List (Nat × Nat × PV)) (Q : Exit → GS → Prop) : Prop := CGk [] K ops (memM iA iS mem mem1 mem2) base (unf K Q fr) i es
section
variable {K : Ctx} {fr : List Fr} {ops : Array Oper} {base pre : List (Nat × PV)} {iA iS : Nat} {mem mem1 mem2 : List (List PV)} {i j t : Nat} {es es' : List (Nat × Nat × PV)} {Q : Exit → GS → Prop} {p : PV}
theorem beq_sw {a b : Nat} (h : Nat.beq a b = false) : Nat.beq b a = false := by
 cases h' : Nat.beq b a with
 | false => rfl
 | true => rw [Nat.eq_of_beq_eq_true h', Nat.beq_refl] at h; cases h
theorem numj (hj : nth nums (i + 1) = some j) : i + 1 = j := by
 rw [nth_eq, nums_eq] at hj
 obtain ⟨_, h⟩ := List.getElem?_eq_some_iff.1 hj
 simpa using h
theorem see_ds {ds : List Nat} : (ds.all fun d => ds.contains d && (match ([] : List (Nat × Nat)).lookup d with | none => true | some m => Nat.beq m i)) = true := by
 rw [List.all_eq_true]
 intro d hd
 rw [Bool.and_eq_true]
 exact ⟨by simpa using hd, rfl⟩
theorem oStepM (hs : see ops.toList i es base = some pre) (hj : nth nums (i + 1) = some j) (hes : snocK es (i, t, p) some = some es') (hiA : Nat.beq i iA = false) (hiS : Nat.beq i iS = false)
 (hc : COm K fr ops base iA iS mem mem1 mem2 j es' Q) (hstep : ∀ (rest : List (Nat × PV)) (mm : List (List PV)) (Q' : Exit → GS → Prop), GF K [] (.ops ops []) Q' ⟨(t, p) :: (pre ++ rest), mm⟩ → GF K [] (.ops ops [i]) Q' ⟨pre ++ rest, mm⟩) : COm K fr ops base iA iS mem mem1 mem2 i es Q := by
 obtain ⟨o, ho, rfl⟩ := see_of hs
 have hj := numj hj
 rw [snocK_eq] at hes
 injection hes with hes
 subst hj; subst hes
 have hM : ∀ b, memM iA iS mem mem1 mem2 (upd b i) = memM iA iS mem mem1 mem2 b := fun b => by
  unfold memM upd
  rw [beq_sw hiA, beq_sw hiS]
  rfl
 have hck : CFk [] K ops (memM iA iS mem mem1 mem2) base (unf K Q fr) i es (fun rest => pick es (depsOf ops i) ++ base ++ rest) :=
  ck_st (i + 1) (fun b rest _ _ _ => by rw [hM]; exact ofO (fr := []) (hstep rest _ (fun e s' => e = .normal ∧ s' = ⟨(t, p) :: (pick es (depsOf ops i) ++ base ++ rest), memM iA iS mem mem1 mem2 b⟩) (toO (fr := []) (gN ⟨rfl, rfl⟩)))) hc rfl rfl
 exact hck (depsOf ops i) (fun _ => rfl) (see_ds (i := i))
theorem oMake (hs : see ops.toList iA es base = some pre) (hj : nth nums (iA + 1) = some j) (hes : snocK es (iA, t, p) some = some es') (hdep : memN iA (depsOf ops iS) = true)
 (hne : Nat.beq iS iA = false) (hc : COm K fr ops base iA iS mem mem1 mem2 j es' Q) (hstep : ∀ (rest : List (Nat × PV)) (Q' : Exit → GS → Prop), GF K [] (.ops ops []) Q' ⟨(t, p) :: (pre ++ rest), mem1⟩ → GF K [] (.ops ops [iA]) Q' ⟨pre ++ rest, mem⟩) : COm K fr ops base iA iS mem mem1 mem2 iA es Q := by
 obtain ⟨o, ho, rfl⟩ := see_of hs
 have hj := numj hj
 rw [snocK_eq] at hes
 injection hes with hes
 subst hj; subst hes
 rw [memN_eq] at hdep
 have hck : CFk [] K ops (memM iA iS mem mem1 mem2) base (unf K Q fr) iA es (fun rest => pick es (depsOf ops iA) ++ base ++ rest) :=
  ck_st (iA + 1) (fun b rest hb _ hv => by
   have hbS : b iS = false := by
    cases h : b iS with
    | false => rfl
    | true => rw [hv iS h iA (by simpa using hdep)] at hb; cases hb
   have h1 : memM iA iS mem mem1 mem2 b = mem := by unfold memM; rw [hb]; rfl
   have h2 : memM iA iS mem mem1 mem2 (upd b iA) = mem1 := by unfold memM upd; rw [Nat.beq_refl, hne, hbS]; rfl
   rw [h1, h2]
   exact ofO (fr := []) (hstep rest (fun e s' => e = .normal ∧ s' = ⟨(t, p) :: (pick es (depsOf ops iA) ++ base ++ rest), mem1⟩) (toO (fr := []) (gN ⟨rfl, rfl⟩)))) hc rfl rfl
 exact hck (depsOf ops iA) (fun _ => rfl) (see_ds (i := iA))
theorem oFill (hs : see ops.toList iS es base = some pre) (hj : nth nums (iS + 1) = some j) (hdep : memN iA (depsOf ops iS) = true) (hne : Nat.beq iA iS = false)
 (hc : COm K fr ops base iA iS mem mem1 mem2 j es Q) (hstep : ∀ (rest : List (Nat × PV)) (Q' : Exit → GS → Prop), GF K [] (.ops ops []) Q' ⟨pre ++ rest, mem2⟩ → GF K [] (.ops ops [iS]) Q' ⟨pre ++ rest, mem1⟩) : COm K fr ops base iA iS mem mem1 mem2 iS es Q := by
 obtain ⟨o, ho, rfl⟩ := see_of hs
 have hj := numj hj
 subst hj
 rw [memN_eq] at hdep
 have hck : CFk [] K ops (memM iA iS mem mem1 mem2) base (unf K Q fr) iS es (fun rest => pick es (depsOf ops iS) ++ base ++ rest) :=
  ck_act (iS + 1) (fun b rest hb hd _ => by
   have hbA : b iA = true := hd iA (by simpa using hdep)
   have h1 : memM iA iS mem mem1 mem2 b = mem1 := by unfold memM; rw [hbA, hb]; rfl
   have h2 : memM iA iS mem mem1 mem2 (upd b iS) = mem2 := by unfold memM upd; rw [Nat.beq_refl, hne, hbA]; rfl
   rw [h1, h2]
   exact ofO (fr := []) (hstep rest (fun e s' => e = .normal ∧ s' = ⟨pick es (depsOf ops iS) ++ base ++ rest, mem2⟩) (toO (fr := []) (gN ⟨rfl, rfl⟩)))) hc rfl
 exact hck (depsOf ops iS) (fun _ => rfl) (see_ds (i := iS))
theorem oEndM {sl : List (Nat × PV)} (hi : sizeIs ops.toList i = true) (hp : putK es base some = some sl) (hA : Nat.blt iA ops.size = true) (hS : Nat.blt iS ops.size = true) (h : GF K fr (.leave .normal) Q ⟨sl, mem2⟩)
 (hn : nodupB (es.map (·.2.1)) = true) (hb : base.all (fun x => !(es.map (·.2.1)).contains x.1) = true) (hf : es.all (fun x => Nat.blt x.1 ops.size) = true) : COm K fr ops base iA iS mem mem1 mem2 i es Q := by
 have hi := sizeIs_of _ _ hi
 have hp := putK_of hp
 injection hp with hp
 subst hp
 refine ⟨es, .done hi.symm, nodupB_iff hn, fun x hx hm => ?_, fun x hx => blt_of (List.all_eq_true.1 hf x hx), ?_⟩
 · have := List.all_eq_true.1 hb x hx
   simp only [Bool.not_eq_true', List.contains_eq_mem, decide_eq_false_iff_not] at this
   exact this hm
 · have h1 : (es.filter fun x => (List.lookup x.1 ([] : List (Nat × Nat))).isNone) = es := List.filter_eq_self.2 (fun x _ => rfl)
   have h2 : memM iA iS mem mem1 mem2 (allB ops.size) = mem2 := by unfold memM allB; rw [hA, hS]; rfl
   rw [h1, h2]
   exact h
end
theorem gOpenM (iA iS : Nat) {K : Ctx} {fr : List Fr} {id : Nat} {ops : Array Oper} {sl base : List (Nat × PV)} {mem mem1 mem2 : List (List PV)} {ds : List Nat} {Q : Exit → GS → Prop} (hb : baseK ops.toList sl = some (ds, base)) (hm : K.P.follows .mixedOrders = true)
 (hdep : ((List.range ops.size).all fun i => (depsOf ops i).all fun d => Nat.blt d i) = true) (h : COm K fr ops base iA iS mem mem1 mem2 0 [] Q) : GF K fr (.code (.region id ops true)) Q ⟨sl, mem⟩ := by
 obtain ⟨ds', h1⟩ := dstsK_any hb
 have h2 := fltK_of ds' h1
 injection h2 with h2; injection h2 with h3 h4
 subst h3
 exact g_ck [] ds' (memM iA iS mem mem1 mem2) rfl h h4 hm hdep
end
section
inductive ConfP (p0 : Nat) (kl : List (Nat × Nat)) (K : Ctx) (ops : Array Oper) (M : (Nat → Bool) → List (List PV)) (base : List (Nat × PV)) : Nat → List (Nat × Nat × PV) → List (Nat × Nat × PV) → Prop
 | done {i : Nat} {es : List (Nat × Nat × PV)} : i = p0 → ConfP p0 kl K ops M base i es es
 | step {i : Nat} {es fs : List (Nat × Nat × PV)} {sl r xt : List (Nat × PV)} (hs : StpK K ops M base i sl r xt) (hsl : ∀ x ∈ sl, ∃ d ∈ depsOf ops i, (d, x) ∈ es ∧ (kl.lookup d = none ∨ kl.lookup d = some i)) (hx : ∀ x ∈ xt, ∃ d q, (d, x.1, q) ∈ es ∧ kl.lookup d = some i) (hc : ConfP p0 kl K ops M base (i + 1) (es ++ r.map fun x => (i, x)) fs) : ConfP p0 kl K ops M base i es fs
variable {p0 : Nat} {kl : List (Nat × Nat)} {K : Ctx} {ops : Array Oper} {base : List (Nat × PV)} {fs : List (Nat × Nat × PV)}
theorem ConfP.le {M : (Nat → Bool) → List (List PV)} {i : Nat} {es : List (Nat × Nat × PV)} (h : ConfP p0 kl K ops M base i es fs) : ∃ later, fs = es ++ later := by
 induction h with
 | done _ => exact ⟨[], by simp⟩
 | step _ _ _ _ ih => obtain ⟨l, h⟩ := ih; exact ⟨_, by rw [h, List.append_assoc]⟩
theorem ConfP.idx {M : (Nat → Bool) → List (List PV)} {i0 : Nat} {es : List (Nat × Nat × PV)} (h : ConfP p0 kl K ops M base i0 es fs) : ∀ x ∈ fs, x ∈ es ∨ i0 ≤ x.1 := by
 induction h with
 | done _ => exact fun x hx => .inl hx
 | @step j es fs sl r xt hs hsl hx hc ih =>
  intro x hx
  rcases ih x hx with h | h
  · rcases List.mem_append.1 h with h | h
    · exact .inl h
    · obtain ⟨y, _, rfl⟩ := List.mem_map.1 h; exact .inr (Nat.le_refl _)
  · exact .inr (by omega)
theorem ConfP.at {M : (Nat → Bool) → List (List PV)} {i0 : Nat} {es : List (Nat × Nat × PV)} (h : ConfP p0 kl K ops M base i0 es fs) (hes : ∀ x ∈ es, x.1 < i0) :
 ∀ i, i0 ≤ i → i < p0 → ∃ sl r xt, StpK K ops M base i sl r xt ∧ (∀ x ∈ r, (i, x) ∈ fs) ∧ (∀ x, (i, x) ∈ fs → x ∈ r) ∧ (∀ x ∈ sl, ∃ d ∈ depsOf ops i, (d, x) ∈ fs ∧ (kl.lookup d = none ∨ kl.lookup d = some i)) ∧ ∀ x ∈ xt, ∃ d q, (d, x.1, q) ∈ fs ∧ kl.lookup d = some i := by
 induction h with
 | done h => intro i h1 h2; omega
 | @step j es fs sl r xt hs hsl hx hc ih =>
  intro i h1 h2
  have hes' : ∀ x ∈ es ++ r.map (fun x => (j, x)), x.1 < j + 1 := fun x hx => by
   rcases List.mem_append.1 hx with hx | hx
   · have := hes x hx; omega
   · obtain ⟨y, _, rfl⟩ := List.mem_map.1 hx; exact Nat.lt_succ_self _
  by_cases hij : i = j
  · subst hij
    obtain ⟨l, hl⟩ := hc.le
    refine ⟨sl, r, xt, hs, fun x hx => ?_, fun x hx => ?_, fun x hx => ?_, fun x hx' => ?_⟩
    · rw [hl]; simp only [List.mem_append, List.mem_map]; exact .inl (.inr ⟨x, hx, rfl⟩)
    · rcases hc.idx _ hx with h | h
      · rcases List.mem_append.1 h with h | h
        · have := hes _ h; simp at this
        · obtain ⟨y, hy, he⟩ := List.mem_map.1 h
          injection he with _ he
          exact he ▸ hy
      · simp at h; omega
    · obtain ⟨d, hd, hm, hk⟩ := hsl x hx
      exact ⟨d, hd, by rw [hl]; simp only [List.mem_append]; exact .inl (.inl hm), hk⟩
    · obtain ⟨d, q, hm, hk⟩ := hx x hx'
      exact ⟨d, q, by rw [hl]; simp only [List.mem_append]; exact .inl (.inl hm), hk⟩
  · exact ih hes' i (by omega) h2
theorem G_confP {id : Nat} {Q : Exit → GS → Prop} {s : GS} {M : (Nat → Bool) → List (List PV)} {slp : List (Nat × PV)} (p0 : Nat) (n : Nat) (hn : ops.size = n) (hm : K.P.follows .mixedOrders = true)
 (hs : Le K s ⟨base, M noB⟩) (hc : ConfP p0 kl K ops M base 0 [] fs) (hp0 : p0 < ops.size) (hlater : ∀ j, p0 < j → j < ops.size → p0 ∈ depsOf ops j) (hpan : ∀ (b : Nat → Bool) (rest : List (Nat × PV)), (∀ j ∈ depsOf ops p0, b j = true) → GOps K ops (fun e s' => e ≠ .normal ∧ Q e s') [p0] ⟨slp ++ base ++ rest, M b⟩) (hslp : ∀ x ∈ slp, ∃ d ∈ depsOf ops p0, (d, x) ∈ fs ∧ (kl.lookup d = none ∨ kl.lookup d = some p0)) (hnd : (fs.map (·.2.1)).Nodup) (hdis : ∀ x ∈ base, x.1 ∉ fs.map (·.2.1)) (hdep : ∀ i, i < n → ∀ d ∈ depsOf ops i, d < i)
 (hfi : ∀ x ∈ fs, x.1 < n) : G K (.region id ops true) Q s := by
 subst hn
 rintro a w ha
 obtain ⟨S, O, m, hr⟩ := hs a w ha
 have hd := hr.drew
 refine wp_region_any hm ?_
 have hbl : ∀ {t p}, (base.lookup t) = some p → t ∉ fs.map (·.2.1) := fun h => hdis _ (lookup_mem' _ _ _ h)
 have key : ∀ fuel (listed : Array Bool) a w, listed.size = ops.size → open_ listed = fuel → Valid ops (bOf listed) → bOf listed p0 = false → At K ⟨mkK kl (bOf listed) fs ++ base, M (bOf listed)⟩ a w → wpAny K.P .any ops (fun e a' w' => ∃ s', Q e s' ∧ At K s' a' w') fuel listed a w := by
  intro fuel
  induction fuel with
  | zero =>
   intro listed a w hsz ho _ hbp hat
   exfalso
   have hall := open_zero ho p0 (by omega)
   unfold bOf at hbp
   rw [Array.getD_eq_getD_getElem?, Array.getElem?_eq_getElem (by omega)] at hall hbp
   simp at hall hbp
   rw [hall] at hbp
   cases hbp
  | succ fuel ih =>
   intro listed a w hsz ho hv hbp hat
   refine ⟨fun hr0 => ?_, fun i hi => ?_⟩
   · exfalso
     -- the least one that is open is ready
     have hex : ∃ i, i < ops.size ∧ listed.getD i true = false := by
      refine Classical.byContradiction fun hne => ?_
      have : open_ listed = 0 := by
       unfold open_
       rw [List.length_eq_zero_iff, List.filter_eq_nil_iff]
       intro x hx
       obtain ⟨i, hi, rfl⟩ := List.mem_iff_getElem.1 hx
       have hi' : i < listed.size := by simpa using hi
       have h1 : ¬ (listed.getD i true = false) := fun h => hne ⟨i, by omega, h⟩
       rw [Array.getD_eq_getD_getElem?, Array.getElem?_eq_getElem hi'] at h1
       simpa using h1
      omega
     have hmin : ∀ k i, i ≤ k → i < ops.size → listed.getD i true = false → ∃ j, j < ops.size ∧ listed.getD j true = false ∧ ∀ d, d < j → listed.getD d true = true := by
      intro k
      induction k with
      | zero => intro i h1 h2 h3; exact ⟨i, h2, h3, fun d hd => by omega⟩
      | succ k ihk =>
       intro i h1 h2 h3
       by_cases hd : ∃ d, d < i ∧ listed.getD d true = false
       · obtain ⟨d, h4, h5⟩ := hd; exact ihk d (by omega) (by omega) h5
       · exact ⟨i, h2, h3, fun d hd' => by
          cases h : listed.getD d true with
          | true => rfl
          | false => exact absurd ⟨d, hd', h⟩ hd⟩
     obtain ⟨i, h2, h3⟩ := hex
     obtain ⟨j, hj1, hj2, hj3⟩ := hmin i i (Nat.le_refl _) h2 h3
     have : j ∈ Region.ready .any ops listed := mem_ready.2 ⟨hj2, ops[j], Array.getElem?_eq_getElem hj1, fun e he hb => by
      have hlt := hdep j hj1 _ (depsOf_mem (Array.getElem?_eq_getElem hj1) he hb)
      have := hj3 _ hlt
      rw [Array.getD_eq_getD_getElem?, Array.getElem?_eq_getElem (by omega)] at this ⊢
      simpa using this⟩
     rw [hr0] at this; cases this
   · obtain ⟨hi1, o, hoi, hi2⟩ := mem_ready.1 hi
     have hilt : i < ops.size := (Array.getElem?_eq_some_iff.1 hoi).1
     have hbi : bOf listed i = false := by
      unfold bOf
      rw [Array.getD_eq_getD_getElem?, Array.getElem?_eq_getElem (by omega)] at hi1 ⊢
      simpa using hi1
     have hbd : ∀ j ∈ depsOf ops i, bOf listed j = true := fun j hj => by
      unfold depsOf at hj
      rw [hoi] at hj
      obtain ⟨e, he, rfl⟩ := List.mem_map.1 hj
      obtain ⟨he1, he2⟩ := List.mem_filter.1 he
      exact hi2 e (by simpa using he1) he2
     have hle : ∀ sl : List (Nat × PV), (∀ x ∈ sl, ∃ d ∈ depsOf ops i, (d, x) ∈ fs ∧ (kl.lookup d = none ∨ kl.lookup d = some i)) → Le K ⟨mkK kl (bOf listed) fs ++ base, M (bOf listed)⟩ ⟨sl ++ base ++ (mkK kl (bOf listed) fs), M (bOf listed)⟩ := fun sl hsl => Le_slots rfl fun t p hp => by
      simp only [GS.get, lookup_append] at hp ⊢
      cases h1 : sl.lookup t with
      | some q =>
       rw [h1] at hp
       have hqp : q = p := by simpa using hp
       subst hqp
       obtain ⟨d, hd, hmem, hk⟩ := hsl _ (lookup_mem' _ _ _ h1)
       left
       rw [mkK_lookup hnd hmem, alive_of (hbd d hd) hbi hk]; rfl
      | none =>
       rw [h1] at hp
       cases h2 : base.lookup t with
       | some q =>
        rw [h2] at hp
        left
        rw [mkK_none (hbl h2)]; simpa using hp
       | none =>
        rw [h2] at hp
        left
        have h3 : (mkK kl (bOf listed) fs).lookup t = some p := by simpa using hp
        rw [h3]; rfl
     by_cases hip : i = p0
     · subst hip
       have h1 := hpan (bOf listed) (mkK kl (bOf listed) fs) hbd a w (hle slp hslp a w hat)
       rw [wpOps_cons] at h1
       refine wpOp_to (fun e a w hne hx => ?_) (fun a w hx => ?_) h1
       · obtain ⟨s', ⟨_, hq⟩, hat'⟩ := hx
         exact ⟨s', hq, hat'⟩
       · obtain ⟨s', ⟨hx, _⟩, _⟩ := (hx : ∃ s', _ ∧ _)
         exact absurd rfl hx
     have hilp : i < p0 := by
      rcases Nat.lt_trichotomy i p0 with h | h | h
      · exact h
      · exact absurd h hip
      · have := hbd p0 (hlater i h hilt)
        rw [hbp] at this; cases this
     obtain ⟨sl, r, xt, hst, hr1, hr2, hsl, hxt⟩ := hc.at (fun x hx => by cases hx) i (Nat.zero_le _) hilp
     have h1 := hst (bOf listed) (mkK kl (bOf listed) fs) hbi hbd hv a w (hle sl hsl a w hat)
     rw [wpOps_cons] at h1
     refine wpOp_to ?_ ?_ h1
     · rintro e a' w' hne' ⟨s', ⟨he, _⟩, _⟩
       exact absurd he hne'
     · intro a' w' h2
       obtain ⟨s', ⟨_, rfl⟩, hat'⟩ := (h2 : ∃ s', _ ∧ _)
       have hset := bOf_set (listed := listed) (i := i) (by omega)
       refine ih (listed.setIfInBounds i true) a' w' (by simpa using hsz) (by have := open_set (listed := listed) (i := i) (by omega) hi1; omega) ?_ ?_ ?_
       · rw [hset]
         intro j hj d hdj
         unfold upd at hj ⊢
         cases hdi : Nat.beq d i with
         | true => rfl
         | false =>
          simp only [cond_false]
          cases hji : Nat.beq j i with
          | true =>
           have : j = i := Nat.eq_of_beq_eq_true hji
           subst this; exact hbd d hdj
          | false => rw [hji] at hj; exact hv j (by simpa using hj) d hdj
       · rw [hset]
         unfold upd
         rw [beq_no (fun h => hip h.symm)]
         exact hbp
       · rw [hset]
         refine Le_slots (s := ⟨r ++ (xt ++ (sl ++ base ++ mkK kl (bOf listed) fs)), M (upd (bOf listed) i)⟩) (s' := ⟨mkK kl (upd (bOf listed) i) fs ++ base, M (upd (bOf listed) i)⟩) rfl (fun t p hp => ?_) a' w' hat'
         simp only [GS.get, lookup_append] at hp ⊢
         have hui : upd (bOf listed) i i = true := by
          unfold upd
          rw [beq_yes]; rfl
         have hun : ∀ j, ¬ j = i → upd (bOf listed) i j = bOf listed j := fun j hj => by
          unfold upd
          rw [beq_no hj]; rfl
         by_cases ht : t ∈ fs.map (·.2.1)
         · obtain ⟨⟨j, t', p'⟩, hx, rfl⟩ := List.mem_map.1 ht
           rw [mkK_lookup hnd hx] at hp
           have hp' : cond (alive kl (upd (bOf listed) i) j) p' PV.undef = p := by simpa using hp
           cases hal : alive kl (upd (bOf listed) i) j with
           | false =>
            rw [hal] at hp'
            exact .inr hp'.symm
           | true =>
            rw [hal] at hp'
            have hpp : p' = p := hp'
            subst hpp
            left
            unfold alive at hal
            rw [Bool.and_eq_true] at hal
            obtain ⟨hal1, hal2⟩ := hal
            have hnk : ¬ kl.lookup j = some i := fun h => by rw [h] at hal2; simp only [hui] at hal2; cases hal2
            have hxn : xt.lookup t' = none := by
             cases hxl : xt.lookup t' with
             | none => rfl
             | some q =>
              exfalso
              obtain ⟨d, q', hm, hk⟩ := hxt _ (lookup_mem' _ _ _ hxl)
              have := key_uniq hnd hm hx rfl
              injection this with h1 _
              subst h1
              exact hnk hk
            by_cases hji : j = i
            · subst hji
              obtain ⟨q, hq⟩ := lookup_isSome (hr2 _ hx)
              have := key_uniq hnd (hr1 _ (lookup_mem' _ _ _ hq)) hx rfl
              injection this with _ this
              injection this with _ this
              subst this
              show (r.lookup t').or _ = _
              rw [show r.lookup t' = some q from hq]; rfl
            · have hbj : bOf listed j = true := by rw [← hun j hji]; exact hal1
              have halj : alive kl (bOf listed) j = true := by
               unfold alive
               rw [hbj]
               cases hk : kl.lookup j with
               | none => rfl
               | some m =>
                rw [hk] at hal2
                have hmi : ¬ m = i := fun h => hnk (h ▸ hk)
                simp only [hun m hmi] at hal2
                simpa using hal2
              have hrn : r.lookup t' = none := by
               cases hrl : r.lookup t' with
               | none => rfl
               | some q =>
                exfalso
                have := key_uniq hnd (hr1 _ (lookup_mem' _ _ _ hrl)) hx rfl
                injection this with this _
                exact hji this.symm
              have hbn : base.lookup t' = none := by
               cases hb : base.lookup t' with
               | none => rfl
               | some q => exact absurd ht (hbl hb)
              show (r.lookup t').or _ = _
              rw [hrn, hxn, hbn, mkK_lookup hnd hx, halj]
              cases hsll : sl.lookup t' with
              | some q =>
               obtain ⟨d, hd, hmem, _⟩ := hsl _ (lookup_mem' _ _ _ hsll)
               have := key_uniq hnd hmem hx rfl
               injection this with h1 h2
               injection h2 with _ h2
               subst h1; subst h2
               rfl
              | none => rfl
         · rw [mkK_none ht] at hp
           have hp' : base.lookup t = some p := by simpa using hp
           have hrn : r.lookup t = none := by
            cases hrl : r.lookup t with
            | none => rfl
            | some q => exact absurd (List.mem_map.2 ⟨_, hr1 _ (lookup_mem' _ _ _ hrl), rfl⟩) ht
           have hxn : xt.lookup t = none := by
            cases hrl : xt.lookup t with
            | none => rfl
            | some q =>
             obtain ⟨d, q', hmem, _⟩ := hxt _ (lookup_mem' _ _ _ hrl)
             exact absurd (List.mem_map.2 ⟨_, hmem, rfl⟩) ht
           have hsn : sl.lookup t = none := by
            cases hrl : sl.lookup t with
            | none => rfl
            | some q =>
             obtain ⟨d, _, hmem, _⟩ := hsl _ (lookup_mem' _ _ _ hrl)
             exact absurd (List.mem_map.2 ⟨_, hmem, rfl⟩) ht
           left
           rw [hrn, hxn, hsn, hp']; rfl
 have hb0 : bOf (Array.replicate ops.size false) = noB := by
  funext j
  unfold bOf noB
  rw [Array.getD_eq_getD_getElem?, Array.getElem?_replicate]
  split <;> rfl
 refine key ops.size (Array.replicate ops.size false) a w.drew (by simp) (by simp [open_]) ?_ ?_ ?_
 · rw [hb0]; intro j hj; cases hj
 · rw [hb0]; rfl
 · rw [hb0]
   refine Le_slots (s := ⟨base, M noB⟩) (s' := ⟨mkK kl noB fs ++ base, M noB⟩) rfl (fun t p hp => ?_) a w.drew ⟨S, O, m, hd⟩
   simp only [GS.get, lookup_append] at hp ⊢
   by_cases ht : t ∈ fs.map (·.2.1)
   · obtain ⟨⟨j, t', p'⟩, hx, rfl⟩ := List.mem_map.1 ht
     rw [mkK_lookup hnd hx] at hp
     right
     have : PV.undef = p := by simpa [alive, noB] using hp
     exact this.symm
   · rw [mkK_none ht] at hp
     left; simpa using hp
end
end Go.Proofs.YtklkbfpjimeaoaaGreat.E
