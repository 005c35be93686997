import Derived.Test.YtklkbfpjimeaoaaM12
/- Contracts of functions. Conditions: none. -/
set_option linter.unusedSimpArgs false
set_option linter.unusedVariables false
namespace Go.Proofs.Ytklkbfpjimeaoaa.E
open Go
section
def nz : Int → Bool
 | .ofNat 0 => false
 | .ofNat (_ + 1) => true
 | .negSucc _ => true
theorem nz_of : ∀ {b : Int}, nz b = true → b ≠ 0
 | .ofNat 0, h => by cases h
 | .ofNat (n + 1), _ => by intro h; injection h with h; cases h
 | .negSucc n, _ => by intro h; cases h
def ibin (op : BinOp) (k : IntKind) (a b : Int) : Option PV := match op with
 | .eql => some (.d (.bool (a == b)))
 | .neq => some (.d (.bool (a != b)))
 | .lss => some (.d (.bool (decide (a < b))))
 | .leq => some (.d (.bool (decide (a ≤ b))))
 | .gtr => some (.d (.bool (decide (a > b))))
 | .geq => some (.d (.bool (decide (a ≥ b))))
 | .add => some (.d (.int k (k.wrap (a + b))))
 | .sub => some (.d (.int k (k.wrap (a - b))))
 | .mul => some (.d (.int k (k.wrap (a * b))))
 | .and => match k with
  | .i64 => some (.d (.int .i64 (andI a b)))
  | k => some (.d (.int k (k.wrap (BitVec.ofInt k.bits a &&& BitVec.ofInt k.bits b).toNat)))
 | .or => match k with
  | .i64 => some (.d (.int .i64 (orI a b)))
  | k => some (.d (.int k (k.wrap (BitVec.ofInt k.bits a ||| BitVec.ofInt k.bits b).toNat)))
 | .quo => match nz b with
  | true => some (.d (.int k (k.wrap (a.tdiv b))))
  | false => none
 | .rem => match nz b with
  | true => some (.d (.int k (a.tmod b)))
  | false => none
 | _ => none
def sbin (op : BinOp) (a b : ByteArray) : Option PV := match op with
 | .eql => some (.d (.bool (decide (a = b))))
 | .neq => some (.d (.bool (!decide (a = b))))
 | _ => none
def bbin (op : BinOp) (a b : Bool) : Option PV := match op with
 | .eql => some (.d (.bool (a == b)))
 | .neq => some (.d (.bool (a != b)))
 | _ => none
def ishift (op : BinOp) (k : IntKind) (a b : Int) : Option PV := match b with
 | .ofNat m => match op with
  | .shl => some (.d (.int k (k.wrap (a * 2 ^ (min m k.bits)))))
  | .shr => some (.d (.int k (a.fdiv (2 ^ (min m k.bits)))))
  | _ => none
 | _ => none
def isShift : BinOp → Bool
 | .shl => true
 | .shr => true
 | _ => false
def qbin (T : List (Nat × TI)) (op : BinOp) (ty : TypeId) (x y : PV) : Option PV := match x with
 | .d (.int k a) => match y with
  | .d (.int k' b) => match isShift op with
   | true => ishift op k a b
   | false => match decide (k = k') with
    | true => ibin op k a b
    | false => none
  | _ => none
 | .d (.str a) => match y with
  | .d (.str b) => sbin op a b
  | _ => none
 | .d (.bool a) => match y with
  | .d (.bool b) => match look T ty with
   | some i => match i.kind with
    | .bool => bbin op a b
    | _ => none
   | none => none
  | _ => none
 | _ => none
def isLeaf : D → Bool
 | .agg _ => false
 | _ => true
theorem isLeaf_of {d : D} (h : isLeaf d = true) : d.cells = [d] := by cases d <;> first | rfl | cases h
def qload (T : List (Nat × TI)) (own : Bool) (mem : List (List PV)) (ty : TypeId) (x : PV) : Option PV := match look T ty with
 | none => none
 | some i => match x with
  | .ref b off => match own with
   | false => none
   | true => match nth mem b with
    | none => none
    | some cs => match plainB cs with
     | false => none
     | true => match i.leaf with
      | true => match nth cs off with
       | some p => cpy p some
       | none => none
      | false => match fits (off + i.size) cs with
       | true => drp off cs fun r => takK i.size r fun r => match PV.toDs r with
        | some ds => some (.d (.agg ds))
        | none => copiesK r fun ps => some (.agg ps)
       | false => none
  | .d (.ptr d) => match i.leaf with
   | true => match isLeaf d with
    | true => some (.d d)
    | false => none
   | false => match d with
    | .agg ds => match sizeIs ds i.size with
     | true => some (.d (.agg ds))
     | false => none
    | _ => none
  | _ => none
def qfadr (T : List (Nat × TI)) (st : TypeId) (f : Nat) (x : PV) : Option PV := match look T st with
 | none => none
 | some i => match i.kind with
  | .struct fs => match nth fs f with
   | some (o, n + 1, l) => match x with
    | .ref b off => some (.ref b (off + o))
    | .d (.ptr (.agg ds)) => match l with
     | true => match nth ds o with
      | some d => match isLeaf d with
       | true => some (.d (.ptr d))
       | false => none
      | none => none
     | false => drp o ds fun r => takK (n + 1) r fun r => some (.d (.ptr (.agg r)))
    | _ => none
   | _ => none
  | _ => none
def qfld (T : List (Nat × TI)) (st : TypeId) (f : Nat) (x : PV) : Option PV := match look T st with
 | none => none
 | some i => match i.kind with
  | .struct fs => match nth fs f with
   | some (o, _, l) => match l with
    | true => match x with
     | .d (.agg ds) => match nth ds o with
      | some d => some (.d d)
      | none => none
     | _ => none
    | false => none
   | none => none
  | _ => none
def qlen (T : List (Nat × TI)) (ty : TypeId) (x : PV) : Option PV := match look T ty with
 | none => none
 | some i => match i.kind with
  | .slice _ _ _ _ => match x with
   | .d (.sl xs) => some (.d (.int .i64 (xs.length : Int)))
   | .osl _ xs => some (.d (.int .i64 (xs.length : Int)))
   | .nils => some (.d (.int .i64 0))
   | .rsl _ _ n _ => some (.d (.int .i64 (n : Int)))
   | _ => none
  | .str => match x with
   | .d (.str b) => some (.d (.int .i64 (b.size : Int)))
   | _ => none
  | _ => none
def qconv (T : List (Nat × TI)) (src dst : TypeId) (x : PV) : Option PV := match look T src with
 | none => none
 | some _ => match look T dst with
  | none => none
  | some i => match i.kind with
   | .int k' => match x with
    | .d (.int _ n) => some (.d (.int k' (k'.wrap n)))
    | _ => none
   | _ => none
def bfillK (pl : List (Nat × Nat × Bool)) : List PV → List (Nat × PV) → Option (List PV)
 | cs, [] => some cs
 | cs, (i, p) :: rest => match nth pl i with
  | some (off, size, _) => match p.whole with
   | true => match sizeIs p.cellsOf size with
    | true => match fits (off + size) cs with
     | true => copiesK p.cellsOf fun ps => splK cs off ps size fun cs' => bfillK pl cs' rest
     | false => none
    | false => none
   | false => none
  | none => none
def prtK {β : Sort _} (l : List (Nat × PV)) : List (Nat × Operand) → (List (Nat × PV) → β) → β
 | [], k => k []
 | (i, x) :: r, k => frc (evl l x) fun p => prtK l r fun ps => k ((i, p) :: ps)
theorem prtK_eq {β : Sort _} (l : List (Nat × PV)) : ∀ (xs : List (Nat × Operand)) (k : List (Nat × PV) → β), prtK l xs k = k (xs.map fun x => (x.1, evl l x.2))
 | [], _ => rfl
 | (i, x) :: r, k => by rw [prtK, frc_eq, prtK_eq l r]; rfl
def zpvK {β : Sort _} : List ZK → (List PV → β) → β
 | [], k => k []
 | z :: r, k => frc z.pv fun p => zpvK r fun ps => k (p :: ps)
theorem zpvK_eq {β : Sort _} : ∀ (zs : List ZK) (k : List PV → β), zpvK zs k = k (zs.map ZK.pv)
 | [], _ => rfl
 | z :: r, k => by rw [zpvK, frc_eq, zpvK_eq r]; rfl
def qbuild (T : List (Nat × TI)) (sl : List (Nat × PV)) (ty : TypeId) (parts : List (Nat × Operand)) : Option PV := match look T ty with
 | none => none
 | some i => match i.kind with
  | .struct fs => zpvK i.zs fun zs => prtK sl parts fun ps => match bfillK fs zs ps with
   | some cs => match PV.toDs cs with
    | some ds => some (.d (.agg ds))
    | none => copiesK cs fun qs => some (.agg qs)
   | none => none
  | _ => none
def bfillA (m : Nat) : List PV → List (Nat × PV) → Option (List PV)
 | cs, [] => some cs
 | cs, (i, p) :: rest => match p.whole with
  | true => match sizeIs p.cellsOf m with
   | true => match fits (i * m + m) cs with
    | true => copiesK p.cellsOf fun ps => splK cs (i * m) ps m fun cs' => bfillA m cs' rest
    | false => none
   | false => none
  | false => none
theorem bfillA_of (m : Nat) : ∀ (parts : List (Nat × PV)) (cs cs' : List PV), bfillA m cs parts = some cs' → bfill (fun i => some (i * m, m)) cs parts = some cs'
 | [], _, _, h => h
 | (i, p) :: rest, cs, cs', h => by
  rw [bfillA] at h
  split at h
  · rename_i hw
    split at h
    · rename_i hs
      split at h
      · rename_i hf
        have hs := sizeIs_of _ _ hs
        rw [copiesK_eq, splK_eq _ _ _ _ _ (by rw [PV.copies_map, List.length_map]; exact hs)] at h
        rw [bfill]
        dsimp only
        rw [if_pos ⟨hw, hs, fits_of _ _ hf⟩]
        exact bfillA_of m rest _ _ h
      · cases h
    · cases h
  · cases h
def qpeq (T : List (Nat × TI)) (op : BinOp) (ty : TypeId) (x : PV) : Option PV := match look T ty with
 | none => none
 | some i => match i.kind with
  | .ptr => match x with
   | .d d => match d.isNil with
    | some b => match op with
     | .eql => some (.d (.bool b))
     | .neq => some (.d (.bool (!b)))
     | _ => none
    | none => none
   | _ => none
  | _ => none
def imm (f : Int → Int → Int) (x y : PV) : Option PV := match x with
 | .d (.int k a) => match y with
  | .d (.int k' b) => match decide (k = k') with
   | true => some (.d (.int k (f a b)))
   | false => none
  | _ => none
 | _ => none
theorem imm_of {f : Int → Int → Int} {x y p : PV} (h : imm f x y = some p) : ∃ k a b, x = .d (.int k a) ∧ y = .d (.int k b) ∧ p = .d (.int k (f a b)) := by
 unfold imm at h
 split at h
 · split at h
   · split at h
     · rename_i hk
       rw [decide_eq_true_eq] at hk
       subst hk
       injection h with h
       exact ⟨_, _, _, rfl, rfl, h.symm⟩
     · cases h
   · cases h
 · cases h
def qv (T : List (Nat × TI)) (own : Bool) (sl : List (Nat × PV)) (mem : List (List PV)) (op : Op) : Option PV := match op with
 | .move x => cpy (evl sl x) some
 | .assign x => cpy (evl sl x) some
 | .binOp op ty x y _ => match y with
  | .const (.pointer none) => qpeq T op ty (evl sl x)
  | y => qbin T op ty (evl sl x) (evl sl y)
 | .unOp op _ x => match op with
  | .not => match evl sl x with
   | .d (.bool a) => some (.d (.bool (!a)))
   | _ => none
  | .neg => match evl sl x with
   | .d (.int k a) => some (.d (.int k (k.wrap (0 - a))))
   | _ => none
  | _ => none
 | .load ty x => qload T own mem ty (evl sl x)
 | .fieldAddr st x f => qfadr T st f (evl sl x)
 | .field st x f => qfld T st f (evl sl x)
 | .extract x ix => match x with
  | .tmp u => match lk sl u with
   | .tup ps => match nth ps ix with
    | some p => cpy p some
    | none => none
   | _ => none
  | _ => none
 | .nilCheck x => match evl sl x with
  | .d (.ptr d) => some (.d (.ptr d))
  | .ref b o => some (.ref b o)
  | _ => none
 | .convert src dst x => qconv T src dst (evl sl x)
 | .makeFunc f xs ys => evsK sl xs.toList fun as => evsK sl ys.toList fun bs => copiesK as fun as => copiesK bs fun bs => some (.fn f as bs)
 | .build ty parts => qbuild T sl ty parts.toList
 | .call c => match c.callee with
  | .builtin .len => match c.args.toList with
   | [x] => match c.argTypes.toList with
    | [ty] => qlen T ty (evl sl x)
    | _ => none
   | _ => none
  | .builtin .max => match c.args.toList with
   | [x, y] => match c.argTypes.toList with
    | [_, _] => imm (fun a b => if b > a then b else a) (evl sl x) (evl sl y)
    | _ => none
   | _ => none
  | .builtin .min => match c.args.toList with
   | [x, y] => match c.argTypes.toList with
    | [_, _] => imm (fun a b => if b < a then b else a) (evl sl x) (evl sl y)
    | _ => none
   | _ => none
  | _ => none
 | _ => none
variable {K : Ctx} {T : List (Nat × TI)} {s : GS} {t : Nat} {rt : TypeId} {pos : String} {af : Array Edge} {g : Option (Nat × Bool)}
theorem ibin_of {op : BinOp} {ty yt : TypeId} {x y : Operand} {k : IntKind} {a b : Int} {p : PV} (hx : s.ev x = .d (.int k a)) (hy : s.ev y = .d (.int k b)) (ht : t < K.n) (h : ibin op k a b = some p) : Qy K ⟨some t, .binOp op ty x y yt, rt, pos, af, g⟩ s t p := by
 cases op with
 | eql => injection h with h; subst h; exact Q_eql hx hy ht
 | neq => injection h with h; subst h; exact Q_neq hx hy ht
 | lss => injection h with h; subst h; exact Q_lss hx hy ht
 | leq => injection h with h; subst h; exact Q_leq hx hy ht
 | gtr => injection h with h; subst h; exact Q_gtr hx hy ht
 | geq => injection h with h; subst h; exact Q_geq hx hy ht
 | add => injection h with h; subst h; exact Q_add hx hy rfl ht
 | sub => injection h with h; subst h; exact Q_sub hx hy rfl ht
 | mul => injection h with h; subst h; exact Q_mul hx hy rfl ht
 | and => cases k <;> (injection h with h; subst h; exact Q_bits hx hy rfl (.inl rfl) ht)
 | or => cases k <;> (injection h with h; subst h; exact Q_bits hx hy rfl (.inr (.inl rfl)) ht)
 | quo =>
  unfold ibin at h
  cases hz : nz b with
  | true => rw [hz] at h; injection h with h; subst h; exact Q_quo hx hy (nz_of hz) rfl ht
  | false => rw [hz] at h; cases h
 | rem =>
  unfold ibin at h
  cases hz : nz b with
  | true => rw [hz] at h; injection h with h; subst h; exact Q_rem hx hy (nz_of hz) rfl ht
  | false => rw [hz] at h; cases h
 | _ => cases h
theorem qbin_of {op : BinOp} {ty yt : TypeId} {x y : Operand} {p : PV} (hT : tabB K.P T = true) (ht : t < K.n) (h : qbin T op ty (s.ev x) (s.ev y) = some p) : Qy K ⟨some t, .binOp op ty x y yt, rt, pos, af, g⟩ s t p := by
 unfold qbin at h
 split at h
 · rename_i k a hx
   split at h
   · rename_i k' b hy
     split at h
     · rename_i hs
       unfold ishift at h
       split at h
       · rename_i m
         split at h
         · injection h with h; subst h; exact Q_shift hx hy (Int.natCast_nonneg m) (by rw [if_pos rfl]; rfl) (.inl rfl) ht
         · injection h with h; subst h; exact Q_shift hx hy (Int.natCast_nonneg m) (by rw [if_neg (by decide)]; rfl) (.inr rfl) ht
         · cases h
       · cases h
     · split at h
       · rename_i hk
         rw [decide_eq_true_eq] at hk
         subst hk
         exact ibin_of hx hy ht h
       · cases h
   · cases h
 · rename_i a hx
   split at h
   · rename_i b hy
     cases op <;> first | (injection h with h; subst h; first | exact Q_streq hx hy ht | exact Q_strne hx hy ht) | cases h
   · cases h
 · rename_i a hx
   split at h
   · rename_i b hy
     split at h
     · rename_i i hl
       split at h
       · rename_i hk
         obtain ⟨d, hd, _, hd2⟩ := (tabB_look hT hl).und
         rw [hk] at hd2
         have hu : K.P.underlying ty = some .bool := by cases d <;> first | exact hd | cases hd2
         cases op <;> first | (injection h with h; subst h; first | exact Q_booleq hx hy hu ht | exact Q_boolne hx hy hu) | cases h
       · cases h
     · cases h
   · cases h
 · cases h
theorem qload_of {own : Bool} {ty : TypeId} {x : Operand} {p : PV} (hT : tabB K.P T = true) (ht : t < K.n) (hB : own = true → K.Bs = []) (h : qload T own s.mem ty (s.ev x) = some p) : Qy K ⟨some t, .load ty x, rt, pos, af, g⟩ s t p := by
 unfold qload at h
 split at h
 · cases h
 · rename_i i hl
   have hi := tabB_look hT hl
   obtain ⟨d, hd, hle, _⟩ := hi.und
   split at h
   · rename_i b off hx
     split at h
     · cases h
     · have hBs : K.Bs.contains b = false := by rw [hB rfl]; rfl
       split at h
       · cases h
       · rename_i cs hm
         rw [nth_eq] at hm
         split at h
         · cases h
         · rename_i hpl
           split at h
           · rename_i hlf
             split at h
             · rename_i q hq
               rw [nth_eq] at hq
               rw [cpy_eq] at h
               injection h with h
               subst h
               exact Q_load_leaf hx hm hq hd (hle.trans hlf) hBs hpl ht
             · cases h
           · rename_i hlf
             split at h
             · rename_i hf
               rw [drp_eq, takK_eq] at h
               have hq : mkAgg ((cs.drop off).take i.size) = p := by
                unfold mkAgg
                split at h
                · rename_i ds hds; rw [hds]; injection h
                · rename_i hds; rw [hds]; rw [copiesK_eq] at h; injection h
               rw [← hq]
               exact Q_load_agg hx hm hi.size hd (hle.trans hlf) (fits_of _ _ hf) hBs hpl ht
             · cases h
   · rename_i d' hx
     split at h
     · rename_i hlf
       split at h
       · rename_i hlf'
         injection h with h
         subst h
         exact Q_loadp_leaf hx (isLeaf_of hlf') hd (hle.trans hlf) ht
       · cases h
     · rename_i hlf
       split at h
       · rename_i ds
         split at h
         · rename_i hsz
           injection h with h
           subst h
           exact Q_loadp_agg hx (by rw [sizeIs_of _ _ hsz]; exact hi.size) hd (hle.trans hlf) ht
         · cases h
       · cases h
   · cases h
theorem struct_of {P : Program} {ty : TypeId} {i : TI} (hi : TOk P ty i) {l : List (Nat × Nat × Bool)} (hk : i.kind = .struct l) : ∃ fs, P.underlying ty = some (.struct fs) ∧ fldB P fs.toList l = true := by
 obtain ⟨d, hd, _, hd2⟩ := hi.und
 rw [hk] at hd2
 cases d <;> first | exact ⟨_, hd, hd2⟩ | cases hd2
theorem qfadr_of {st : TypeId} {x : Operand} {f : Nat} {p : PV} (hT : tabB K.P T = true) (ht : t < K.n) (h : qfadr T st f (s.ev x) = some p) : Qy K ⟨some t, .fieldAddr st x f, rt, pos, af, g⟩ s t p := by
 unfold qfadr at h
 split at h
 · cases h
 · rename_i i hl
   split at h
   · rename_i fs hk
     obtain ⟨fa, hu, hfb⟩ := struct_of (tabB_look hT hl) hk
     split at h
     · rename_i o n l hn
       rw [nth_eq] at hn
       obtain ⟨fl, hf, rfl, hz, td, htd, hlf⟩ := fldB_get hfb hn
       have hf : fa[f]? = some fl := by rw [← hf]; simp
       split at h
       · rename_i b off hx
         injection h with h
         subst h
         exact Q_fieldAddr hx hu hf hz ht
       · rename_i ds hx
         split at h
         · split at h
           · rename_i d hd
             rw [nth_eq] at hd
             split at h
             · rename_i hld
               injection h with h
               subst h
               exact Q_fieldp_leaf hx hu hf hz hd (isLeaf_of hld) ht
             · cases h
           · cases h
         · rw [drp_eq, takK_eq] at h
           injection h with h
           subst h
           exact Q_fieldp_agg hx hu hf hz ht
       · cases h
     · cases h
   · cases h
theorem qfld_of {st : TypeId} {x : Operand} {f : Nat} {p : PV} (hT : tabB K.P T = true) (ht : t < K.n) (h : qfld T st f (s.ev x) = some p) : Qy K ⟨some t, .field st x f, rt, pos, af, g⟩ s t p := by
 unfold qfld at h
 split at h
 · cases h
 · rename_i i hl
   split at h
   · rename_i fs hk
     obtain ⟨fa, hu, hfb⟩ := struct_of (tabB_look hT hl) hk
     split at h
     · rename_i o n l hn
       rw [nth_eq] at hn
       obtain ⟨fl, hf, rfl, hz, td, htd, hlf⟩ := fldB_get hfb hn
       have hf : fa[f]? = some fl := by rw [← hf]; simp
       split at h
       · split at h
         · rename_i ds hx
           split at h
           · rename_i d hd
             rw [nth_eq] at hd
             injection h with h
             subst h
             exact Q_field hx hu hf htd hlf hd ht
           · cases h
         · cases h
       · cases h
     · cases h
   · cases h
theorem qlen_of {ty : TypeId} {x : Operand} {p : PV} (hT : tabB K.P T = true) (ht : t < K.n) (h : qlen T ty (s.ev x) = some p) : Qy K ⟨some t, .call ⟨.builtin .len, #[x], #[ty]⟩, rt, pos, af, g⟩ s t p := by
 unfold qlen at h
 split at h
 · cases h
 · rename_i i hl
   obtain ⟨d, hd, _, hd2⟩ := (tabB_look hT hl).und
   split at h
   · rename_i e n b zs hk
     rw [hk] at hd2
     have hu : ∃ e, K.P.underlying ty = some (.slice e) := by cases d <;> first | exact ⟨_, hd⟩ | cases hd2
     obtain ⟨e, hu⟩ := hu
     split at h
     · rename_i xs hx; injection h with h; subst h; exact Q_len (by rw [hx]; rfl) hu ht
     · rename_i xs hx; injection h with h; subst h; exact Q_len (by rw [hx]; rfl) hu ht
     · rename_i hx; injection h with h; subst h; exact Q_len (xs := []) (by rw [hx]; rfl) hu ht
     · rename_i hx; injection h with h; subst h; exact Q_rowLen hx hu ht
     · cases h
   · rename_i hk
     rw [hk] at hd2
     have hu : K.P.underlying ty = some .string := by cases d <;> first | exact hd | cases hd2
     split at h
     · rename_i b hx; injection h with h; subst h; exact Q_lenstr hx hu ht
     · cases h
   · cases h
theorem qconv_of {src dst : TypeId} {x : Operand} {p : PV} (hT : tabB K.P T = true) (ht : t < K.n) (h : qconv T src dst (s.ev x) = some p) : Qy K ⟨some t, .convert src dst x, rt, pos, af, g⟩ s t p := by
 unfold qconv at h
 split at h
 · cases h
 · rename_i i1 hl1
   obtain ⟨d1, hd1, _⟩ := (tabB_look hT hl1).und
   split at h
   · cases h
   · rename_i i hl
     obtain ⟨d, hd, _, hd2⟩ := (tabB_look hT hl).und
     split at h
     · rename_i k' hk
       rw [hk] at hd2
       have hu : K.P.underlying dst = some (.int k') := by
        cases d with
        | int k => rw [kndB, decide_eq_true_eq] at hd2; rw [← hd2]; exact hd
        | _ => cases hd2
       split at h
       · rename_i k n hx; injection h with h; subst h; exact Q_convert hx hd1 hu rfl ht
       · cases h
     · cases h
theorem bfillK_of (pl : List (Nat × Nat × Bool)) : ∀ (parts : List (Nat × PV)) (cs cs' : List PV), bfillK pl cs parts = some cs' → bfill ((pl.map fun x => (x.1, x.2.1))[·]?) cs parts = some cs'
 | [], _, _, h => h
 | (i, p) :: rest, cs, cs', h => by
  rw [bfillK] at h
  split at h
  · rename_i off size b hn
    rw [nth_eq] at hn
    split at h
    · rename_i hw
      split at h
      · rename_i hs
        split at h
        · rename_i hf
          have hs := sizeIs_of _ _ hs
          rw [copiesK_eq, splK_eq _ _ _ _ _ (by rw [PV.copies_map, List.length_map]; exact hs)] at h
          have hn' : (pl.map fun x => (x.1, x.2.1))[i]? = some (off, size) := by rw [List.getElem?_map, hn]; rfl
          rw [bfill]
          rw [hn']
          dsimp only
          rw [if_pos ⟨hw, hs, fits_of _ _ hf⟩]
          exact bfillK_of pl rest _ _ h
        · cases h
      · cases h
    · cases h
  · cases h
theorem qbuild_of {ty : TypeId} {parts : Array (Nat × Operand)} {p : PV} (hT : tabB K.P T = true) (ht : t < K.n) (h : qbuild T s.slots ty parts.toList = some p) : Qy K ⟨some t, .build ty parts, rt, pos, af, g⟩ s t p := by
 unfold qbuild at h
 split at h
 · cases h
 · rename_i i hl
   have hi := tabB_look hT hl
   split at h
   · rename_i fs hk
     obtain ⟨fa, hu, hfb⟩ := struct_of hi hk
     obtain ⟨z, hz, h1, hzs, _⟩ := hi.zero
     rw [zpvK_eq, prtK_eq] at h
     split at h
     · rename_i cs hb
       have hb := bfillK_of _ _ _ _ hb
       refine Q_buildS (structPl_of hu hfb) hz h1 hzs (ps := parts.toList.map fun x => (x.1, s.ev x.2)) rfl (cs' := cs) ?_ ?_ ht
       · rw [← hb]; congr 1; exact List.map_congr_left fun x _ => by rw [evl_eq]
       · unfold mkAgg
         split at h
         · rename_i ds hds; rw [hds]; injection h
         · rename_i hds; rw [hds]; rw [copiesK_eq] at h; injection h
     · cases h
   · cases h
theorem qpeq_of {op : BinOp} {ty yt : TypeId} {x : Operand} {p : PV} (hT : tabB K.P T = true) (h : qpeq T op ty (s.ev x) = some p) : Qy K ⟨some t, .binOp op ty x (.const (.pointer none)) yt, rt, pos, af, g⟩ s t p := by
 unfold qpeq at h
 split at h
 · cases h
 · rename_i i hl
   obtain ⟨d, hd, _, hd2⟩ := (tabB_look hT hl).und
   split at h
   · rename_i hk
     rw [hk] at hd2
     have hu : ∃ e, K.P.underlying ty = some (.pointer e) := by cases d <;> first | exact ⟨_, hd⟩ | cases hd2
     obtain ⟨e, hu⟩ := hu
     split at h
     · rename_i d' hx
       split at h
       · rename_i b hb
         cases op <;> first | (injection h with h; subst h; first | exact Q_ptreql hx hb hu | exact Q_ptrneq hx hb hu) | cases h
       · cases h
     · cases h
   · cases h
theorem qv_of {own : Bool} {op : Op} {p : PV} (hT : tabB K.P T = true) (ht : t < K.n) (hB : own = true → K.Bs = []) (h : qv T own s.slots s.mem op = some p) : Qy K ⟨some t, op, rt, pos, af, g⟩ s t p := by
 unfold qv at h
 split at h
 · rw [evl_eq, cpy_eq] at h; injection h with h; subst h; exact Q_move rfl ht
 · rw [evl_eq, cpy_eq] at h; injection h with h; subst h; exact Q_assign rfl ht
 · split at h
   · rw [evl_eq] at h; exact qpeq_of hT h
   · rw [evl_eq, evl_eq] at h; exact qbin_of hT ht h
 · split at h
   · split at h
     · rename_i a hx; injection h with h; subst h; rw [evl_eq] at hx; exact Q_not hx ht
     · cases h
   · split at h
     · rename_i k a hx; injection h with h; subst h; rw [evl_eq] at hx; exact Q_neg hx rfl
     · cases h
   · cases h
 · rw [evl_eq] at h; exact qload_of hT ht hB h
 · rw [evl_eq] at h; exact qfadr_of hT ht h
 · rw [evl_eq] at h; exact qfld_of hT ht h
 · split at h
   · split at h
     · rename_i ps hx
       split at h
       · rename_i q hq
         rw [nth_eq] at hq
         rw [cpy_eq] at h; injection h with h; subst h
         exact Q_extract (lk_some hx (by intro h; cases h)) hq ht
       · cases h
     · cases h
   · cases h
 · split at h
   · rename_i d hx; injection h with h; subst h; rw [evl_eq] at hx; exact Q_nilCheck hx ht
   · rename_i b o hx; injection h with h; subst h; rw [evl_eq] at hx; exact q_nilCheckR hx
   · cases h
 · rw [evl_eq] at h; exact qconv_of hT ht h
 · rename_i f xs ys
   rw [evsK_eq, evsK_eq, copiesK_eq, copiesK_eq] at h
   injection h with h
   subst h
   have h1 : ∀ l : List Operand, l.map (evl s.slots) = l.map s.ev := fun l => List.map_congr_left fun x _ => evl_eq s x
   rw [h1, h1]
   exact Q_makeFunc (xs := xs.toList) (ys := ys.toList) ht
 · exact qbuild_of hT ht h
 · rename_i c
   obtain ⟨ca, ar, at'⟩ := c
   dsimp only at h
   split at h
   · split at h
     · rename_i x hxs
       split at h
       · rename_i ty htys
         rw [evl_eq] at h
         have e1 : ar = #[x] := by apply Array.toList_inj.1; exact hxs
         have e2 : at' = #[ty] := by apply Array.toList_inj.1; exact htys
         subst e1; subst e2
         exact qlen_of hT ht h
       · cases h
     · cases h
   · split at h
     · rename_i x y hxs
       split at h
       · rename_i ty ty' htys
         rw [evl_eq, evl_eq] at h
         have e1 : ar = #[x, y] := by apply Array.toList_inj.1; exact hxs
         have e2 : at' = #[ty, ty'] := by apply Array.toList_inj.1; exact htys
         subst e1; subst e2
         obtain ⟨k, a, b, h1, h2, rfl⟩ := imm_of h
         exact Q_max h1 h2
       · cases h
     · cases h
   · split at h
     · rename_i x y hxs
       split at h
       · rename_i ty ty' htys
         rw [evl_eq, evl_eq] at h
         have e1 : ar = #[x, y] := by apply Array.toList_inj.1; exact hxs
         have e2 : at' = #[ty, ty'] := by apply Array.toList_inj.1; exact htys
         subst e1; subst e2
         obtain ⟨k, a, b, h1, h2, rfl⟩ := imm_of h
         exact Q_min h1 h2
       · cases h
     · cases h
   · cases h
 · cases h
end
section
inductive Obl : List (Bool × Bool) → Prop
 | nil : Obl []
 | same {b : Bool} {r : List (Bool × Bool)} : Obl r → Obl ((b, b) :: r)
 | imp {b c : Bool} {r : List (Bool × Bool)} : (b = true → c = true) → Obl r → Obl ((b, c) :: r)
theorem Obl.get {l : List (Bool × Bool)} (h : Obl l) : ∀ x ∈ l, x.1 = true → x.2 = true := by
 induction h with
 | nil => intro x hx; cases hx
 | same _ ih =>
  intro x hx h
  rcases List.mem_cons.1 hx with rfl | hx
  · exact h
  · exact ih x hx h
 | imp hi _ ih =>
  intro x hx h
  rcases List.mem_cons.1 hx with rfl | hx
  · exact hi h
  · exact ih x hx h
def taken (t : Nat) : List Oper → Bool
 | [] => false
 | o :: r => match o.op with
  | .call c => match c.callee with
   | .builtin .append => match c.args.toList with
    | .tmp u :: _ => match Nat.beq u t with
     | true => true
     | false => taken t r
    | _ => taken t r
   | _ => taken t r
  | _ => taken t r
def gdOf : PV → Bool → Option Bool
 | .d (.bool b), true => some b
 | .d (.bool b), false => some (!b)
 | .when c p, w => match gdOf p w with
  | some g => some (c && g)
  | none => none
 | _, _ => none
theorem gdOf_eq : ∀ (p : PV) (w g : Bool), gdOf p w = some g → p.guard w = some g
 | .d (.bool b), true, g, h => by injection h with h; subst h; rw [PV.guard]; cases b <;> rfl
 | .d (.bool b), false, g, h => by injection h with h; subst h; rw [PV.guard]; cases b <;> rfl
 | .when c p, w, g, h => by
  rw [gdOf] at h
  split at h
  · rename_i g' hg
    injection h with h; subst h
    rw [PV.guard, gdOf_eq p w g' hg]
  · cases h
def stripK {β : Sort _} (g : Bool) : List Operand → List (Nat × PV) → List (Bool × Bool) → (List (Nat × PV) → List (Bool × Bool) → β) → β
 | [], sl, ob, k => k sl ob
 | x :: r, sl, ob, k => match x with
  | .tmp u => match lk sl u with
   | .when c p => stripK g r ((u, p) :: sl) ((g, c) :: ob) k
   | _ => stripK g r sl ob k
  | _ => stripK g r sl ob k
theorem stripK_of {β : Sort _} (g : Bool) (mem : List (List PV)) : ∀ (xs : List Operand) (sl : List (Nat × PV)) (ob : List (Bool × Bool)) (k : List (Nat × PV) → List (Bool × Bool) → β),
 ∃ sl' ob', stripK g xs sl ob k = k sl' ob' ∧ (g = true → (∀ x ∈ ob', x.1 = true → x.2 = true) → (∀ x ∈ ob, x.1 = true → x.2 = true) ∧ ∀ (K : Ctx) (o : Oper) (t : Nat) (q : PV), Qy K o ⟨sl', mem⟩ t q → Qy K o ⟨sl, mem⟩ t q)
 | [], sl, ob, k => ⟨sl, ob, rfl, fun _ h => ⟨h, fun _ _ _ _ h => h⟩⟩
 | x :: r, sl, ob, k => by
  unfold stripK
  split
  · rename_i u
    split
    · rename_i c p hl
      obtain ⟨sl', ob', h1, h2⟩ := stripK_of g mem r ((u, p) :: sl) ((g, c) :: ob) k
      refine ⟨sl', ob', h1, fun hgt h => ?_⟩
      obtain ⟨h3, h4⟩ := h2 hgt h
      refine ⟨fun x hx => h3 x (.tail _ hx), fun K o t q hq => ?_⟩
      exact sP u (lk_some hl (by intro h; cases h)) (h3 _ (.head _) hgt) (h4 K o t q hq)
    · exact stripK_of g mem r sl ob k
  · exact stripK_of g mem r sl ob k
def boolU : PV → Option (Bool × Option Bool)
 | .d (.bool u) => some (u, none)
 | .when c (.d (.bool u)) => some (u, some c)
 | _ => none
def addO (f : Bool → Bool) (b : Bool) : Option Bool → List (Bool × Bool) → List (Bool × Bool)
 | none, r => r
 | some c, r => (f b, c) :: r
def pickV (c x y : Operand) (b : Bool) (u v : Bool) : PV := match y with
 | .const (.bool false) => .d (.bool (b && u))
 | _ => match x with
  | .const (.bool true) => .d (.bool (b || v))
  | _ => .d (.bool (bif b then u else v))
def pstep {α : Type} (f : Bool → Bool) (sl : List (Nat × PV)) (c x y : Operand) (k : PV → List (Bool × Bool) → Option α) : Option α := match evl sl c with
 | .d (.bool b) => match boolU (evl sl x) with
  | some (u, cu) => match boolU (evl sl y) with
   | some (v, cv) => frc (pickV c x y b u v) fun p => k p (addO f b cu (addO f (!b) cv []))
   | none => none
  | none => none
 | _ => none
theorem boolU_of {p : PV} {u : Bool} {c : Option Bool} (h : boolU p = some (u, c)) (B : Prop) (hc : ∀ c', c = some c' → B → c' = true) : Under B p (.bool u) := by
 unfold boolU at h
 split at h
 · injection h with h; injection h with h1 h2; subst h1; exact under_d _ _
 · rename_i c' u'
   injection h with h; injection h with h1 h2; subst h1; subst h2; exact under_when _ _ (hc c' rfl)
 · cases h
theorem addO_of {f : Bool → Bool} {b : Bool} {c : Option Bool} {r : List (Bool × Bool)} (h : ∀ x ∈ addO f b c r, x.1 = true → x.2 = true) : (∀ c', c = some c' → f b = true → c' = true) ∧ ∀ x ∈ r, x.1 = true → x.2 = true := by
 cases c with
 | none => exact ⟨fun _ h => (by cases h), h⟩
 | some c => exact ⟨fun c' hc hf => by injection hc with hc; subst hc; exact h _ (.head _) hf, fun x hx => h x (.tail _ hx)⟩
theorem pickV_of {K : Ctx} {s : GS} {t : Nat} {c x y : Operand} {ty : TypeId} {pos : String} {af : Array Edge} {g : Option (Nat × Bool)} {b u v : Bool} (hc : s.ev c = .d (.bool b)) (hx : Under (b = true) (s.ev x) (.bool u)) (hy : Under (b = false) (s.ev y) (.bool v)) (hxu : ∀ z, x = .const (.bool z) → u = z) (hyv : ∀ z, y = .const (.bool z) → v = z) (ht : t < K.n) : Qy K ⟨some t, .pick c x y, ty, pos, af, g⟩ s t (pickV c x y b u v) := by
 unfold pickV
 split
 · exact Q_and hc hx ht
 · split
   · exact Q_or hc hy ht
   · exact Q_pickb hc hx hy ht rfl
theorem boolU_const {sl : List (Nat × PV)} {x : Operand} {u : Bool} {c : Option Bool} (h : boolU (evl sl x) = some (u, c)) : ∀ z, x = .const (.bool z) → u = z := by
 rintro z rfl
 injection h with h; injection h with h _; exact h.symm
theorem pstep_of {α : Type} {K : Ctx} {s : GS} {f : Bool → Bool} {c x y : Operand} {k : PV → List (Bool × Bool) → Option α} {r : α} (h : pstep f s.slots c x y k = some r) :
 ∃ p ob, k p ob = some r ∧ ∀ (t : Nat) (ty : TypeId) (pos : String) (af : Array Edge) (g : Option (Nat × Bool)), t < K.n → (∀ b : Bool, b = true → f b = true) → (∀ x ∈ ob, x.1 = true → x.2 = true) → Qy K ⟨some t, .pick c x y, ty, pos, af, g⟩ s t p := by
 unfold pstep at h
 split at h
 · rename_i b hc
   split at h
   · rename_i u cu hu
     split at h
     · rename_i v cv hv
       rw [frc_eq] at h
       refine ⟨_, _, h, fun t ty pos af g ht hf ho => ?_⟩
       obtain ⟨h1, h2⟩ := addO_of ho
       obtain ⟨h3, _⟩ := addO_of h2
       rw [evl_eq] at hc
       refine pickV_of hc ?_ ?_ (boolU_const hu) (boolU_const hv) ht
       · rw [evl_eq] at hu; exact boolU_of hu _ fun c' hc' hb => h1 c' hc' (hf b hb)
       · rw [evl_eq] at hv; exact boolU_of hv _ fun c' hc' hb => h3 c' hc' (hf (!b) (by rw [hb]; rfl))
     · cases h
   · cases h
 · cases h
def takeV (sl : List (Nat × PV)) (mem : List (List PV)) (t u : Nat) (k : Option GS) : Option GS := match lk sl u with
 | .osl n xs => match Nat.beq t u with
  | true => none
  | false => some ⟨(t, .osl n xs) :: (u, .d (.sl xs)) :: sl, mem⟩
 | _ => k
def loadT (T : List (Nat × TI)) (sl : List (Nat × PV)) (mem : List (List PV)) (t : Nat) (ty : TypeId) (x : Operand) (k : Option GS) : Option GS := match evl sl x with
 | .ref b off => match nth mem b with
  | some cs => match nth cs off with
   | some (.osl n xs) => match plainB cs with
    | true => match look T ty with
     | some i => match i.leaf with
      | true => setK cs off (.d (.sl xs)) fun cs' => setK mem b cs' fun mem' => some ⟨(t, .osl n xs) :: sl, mem'⟩
      | false => none
     | none => none
    | false => none
   | _ => k
  | none => k
 | _ => k
def storeV (T : List (Nat × TI)) (sl : List (Nat × PV)) (mem : List (List PV)) (ty : TypeId) (ad y : Operand) : Option GS := match look T ty with
 | none => none
 | some i => match evl sl ad with
  | .ref b off => match nth mem b with
   | none => none
   | some cs => match plainB cs with
    | false => none
    | true => match fits (off + i.size) cs with
     | false => none
     | true => frc (evl sl y) fun p => match sizeIs p.cellsOf i.size with
      | false => none
      | true => match p.noown with
       | true => match p.whole with
        | true => splK cs off p.cellsOf i.size fun cs' => setK mem b cs' fun mem' => some ⟨sl, mem'⟩
        | false => none
       | false => match y with
        | .tmp u => match p.flat with
         | true => splK cs off p.cellsOf i.size fun cs' => setK mem b cs' fun mem' => cpy p fun p' => some ⟨(u, p') :: sl, mem'⟩
         | false => none
        | _ => none
  | _ => none
def vput (T : List (Nat × TI)) (sl : List (Nat × PV)) (mem : List (List PV)) (t : Nat) (op : Op) : Option GS := match qv T true sl mem op with
 | some p => some ⟨(t, p) :: sl, mem⟩
 | none => none
def vstep (T : List (Nat × TI)) (ops : List Oper) (n : Nat) (o : Oper) (sl : List (Nat × PV)) (mem : List (List PV)) : Option GS := match o.dst with
 | none => match o.op with
  | .store ty ad y => storeV T sl mem ty ad y
  | _ => none
 | some t => match Nat.blt t n with
  | false => none
  | true => match o.op with
   | .alloc ty => match look T ty with
    | some i => zpvK i.zs fun zs => lenK mem fun b => snocK mem zs fun mem' => some ⟨(t, .ref b 0) :: sl, mem'⟩
    | none => none
   | .makeMap _ r => match r with
    | none => lenK mem fun b => snocK mem (mpc [] []) fun mem' => some ⟨(t, .mref b) :: sl, mem'⟩
    | some _ => none
   | .build ty parts => match look T ty with
    | none => none
    | some i => match i.kind with
     | .array _ m => zpvK i.zs fun zs => prtK sl parts.toList fun ps => match bfillA m zs ps with
      | some cs => match PV.toDs cs with
       | some ds => some ⟨(t, .d (.agg ds)) :: sl, mem⟩
       | none => copiesK cs fun qs => some ⟨(t, .agg qs) :: sl, mem⟩
      | none => none
     | _ => vput T sl mem t (.build ty parts)
   | .box _ x => frc (evl sl x) fun p => match p.whole with
    | true => copiesK p.cellsOf fun cs => lenK mem fun b => snocK mem cs fun mem' => some ⟨(t, .ref b 0) :: sl, mem'⟩
    | false => none
   | .assign x => match x with
    | .tmp u => takeV sl mem t u (vput T sl mem t (.assign (.tmp u)))
    | x => vput T sl mem t (.assign x)
   | .move x => match x with
    | .tmp u => match taken t ops with
     | true => takeV sl mem t u (vput T sl mem t (.move (.tmp u)))
     | false => vput T sl mem t (.move (.tmp u))
    | x => vput T sl mem t (.move x)
   | .load ty x => match taken t ops with
    | true => loadT T sl mem t ty x (vput T sl mem t (.load ty x))
    | false => vput T sl mem t (.load ty x)
   | op => vput T sl mem t op
def step (T : List (Nat × TI)) (ops : List Oper) (n i : Nat) (s : GS) : Option (List (Bool × Bool) × GS) := match s with
 | ⟨sl, mem⟩ => match nth ops i with
  | none => none
  | some o => match o.guard with
   | none => match o.op with
    | .pick c x y => match o.dst with
     | some t => match Nat.blt t n with
      | true => pstep (fun b => b) sl c x y fun p ob => some (ob, ⟨(t, p) :: sl, mem⟩)
      | false => none
     | none => none
    | _ => match vstep T ops n o sl mem with
     | some s' => some ([], s')
     | none => none
   | some (j, w) => match nth ops j with
    | none => none
    | some oj => match oj.dst with
     | none => none
     | some u => match gdOf (lk sl u) w with
      | none => none
      | some g => match o.dst with
       | none => none
       | some t => match Nat.blt t n && Nat.blt u n with
        | false => none
        | true => match o.op with
         | .pick c x y => stripK g [c] sl [] fun sl' ob => pstep (fun b => g && b) sl' c x y fun p ob' => appK ob ob' fun ob => some (ob, ⟨(t, .when g p) :: sl, mem⟩)
         | op => stripK g op.operands.toList sl [] fun sl' ob => match qv T true sl' mem op with
          | some p => some (ob, ⟨(t, .when g p) :: sl, mem⟩)
          | none => none
variable {K : Ctx} {T : List (Nat × TI)}
theorem blt_of {a b : Nat} (h : Nat.blt a b = true) : a < b := Nat.le_of_ble_eq_true h
theorem vput_of {o : Oper} {s s' : GS} {t : Nat} (hT : tabB K.P T = true) (hd : o.dst = some t) (ht : t < K.n) (h : vput T s.slots s.mem t o.op = some s') : Yld K o s s' := by
 unfold vput at h
 split at h
 · rename_i p hp
   injection h with h
   subst h
   obtain ⟨d, op, rt, pos, af, g⟩ := o
   dsimp only at hd hp
   subst hd
   refine Yld_bs ?_
   exact Yld_pure (K := ⟨K.P, K.n, K.S0, K.O0, K.w0, K.m0, [], K.ds⟩) rfl ht (qv_of (own := true) hT ht (fun _ => rfl) hp)
 · cases h
theorem takeV_of {o : Oper} {s s' : GS} {t u : Nat} {k : Option GS} (ha : ∀ n xs, s.get u = some (.osl n xs) → t ≠ u → Yld K o s ((s.set u (.d (.sl xs))).set t (.osl n xs))) (hk : k = some s' → Yld K o s s') (h : takeV s.slots s.mem t u k = some s') : Yld K o s s' := by
 unfold takeV at h
 split at h
 · rename_i n xs hl
   split at h
   · cases h
   · rename_i hb
     injection h with h
     subst h
     exact ha n xs (lk_some hl (by intro h; cases h)) (Nat.ne_of_beq_eq_false hb)
 · exact hk h
theorem loadT_of {s s' : GS} {t : Nat} {ty rt : TypeId} {x : Operand} {pos : String} {af : Array Edge} {g : Option (Nat × Bool)} {k : Option GS} (hT : tabB K.P T = true) (ht : t < K.n) (hk : k = some s' → Yld K ⟨some t, .load ty x, rt, pos, af, g⟩ s s')
 (h : loadT T s.slots s.mem t ty x k = some s') : Yld K ⟨some t, .load ty x, rt, pos, af, g⟩ s s' := by
 unfold loadT at h
 split at h
 · rename_i b off hx
   rw [evl_eq] at hx
   split at h
   · rename_i cs hm
     rw [nth_eq] at hm
     split at h
     · rename_i n xs hc
       rw [nth_eq] at hc
       split at h
       · rename_i hpl
         split at h
         · rename_i i hl
           obtain ⟨d, hd, hle, _⟩ := (tabB_look hT hl).und
           split at h
           · rename_i hlf
             rw [setK_eq, setK_eq] at h
             injection h with h
             subst h
             exact Y_load_take hx hm hc hd (hle.trans hlf) hpl ht
           · cases h
         · cases h
       · cases h
     · exact hk h
   · exact hk h
 · exact hk h
theorem storeV_of {s s' : GS} {ty rt : TypeId} {x y : Operand} {pos : String} {af : Array Edge} {g : Option (Nat × Bool)} (hT : tabB K.P T = true) (h : storeV T s.slots s.mem ty x y = some s') : Does K ⟨none, .store ty x y, rt, pos, af, g⟩ s s' := by
 unfold storeV at h
 split at h
 · cases h
 · rename_i i hl
   have hz := (tabB_look hT hl).size
   split at h
   · rename_i b off hx
     rw [evl_eq] at hx
     split at h
     · cases h
     · rename_i cs hm
       rw [nth_eq] at hm
       split at h
       · cases h
       · rename_i hpl
         split at h
         · cases h
         · rename_i hf
           rw [frc_eq] at h
           split at h
           · cases h
           · rename_i hs
             have hs := sizeIs_of _ _ hs
             split at h
             · rename_i hno
               split at h
               · rename_i hw
                 rw [splK_eq _ _ _ _ _ hs, setK_eq] at h
                 injection h with h
                 subst h
                 exact D_store hx hm (evl_eq s y).symm hno hw rfl hz hs (fits_of _ _ hf) hpl
               · cases h
             · rename_i hno
               split at h
               · split at h
                 · rename_i hfl
                   rw [splK_eq _ _ _ _ _ hs, setK_eq, cpy_eq] at h
                   injection h with h
                   subst h
                   exact D_store_take hx hm (lk_some rfl (by intro h0; rw [h0] at hno; cases hno)) hfl rfl hz hs (fits_of _ _ hf) hpl
                 · cases h
               · cases h
   · cases h
theorem vstep_of {ops : List Oper} {o : Oper} {s s' : GS} (hT : tabB K.P T = true) (h : vstep T ops K.n o s.slots s.mem = some s') : Yld K o s s' ∨ Does K o s s' := by
 unfold vstep at h
 split at h
 · rename_i hd
   split at h
   · rename_i ty ad y ho
     obtain ⟨d, op, rt, pos, af, g⟩ := o
     dsimp only at hd ho
     subst hd; subst ho
     exact .inr (storeV_of hT h)
   · cases h
 · rename_i t hd
   split at h
   · cases h
   · rename_i hlt
     have ht := blt_of hlt
     refine .inl ?_
     obtain ⟨d, op, rt, pos, af, g⟩ := o
     dsimp only at hd h
     subst hd
     split at h
     · rename_i ty
       split at h
       · rename_i i hl
         obtain ⟨z, hz, h1, hzs, _⟩ := (tabB_look hT hl).zero
         rw [zpvK_eq, lenK_eq, snocK_eq] at h
         injection h with h
         subst h
         exact Y_alloc hz h1 hzs ht
       · cases h
     · split at h
       · rw [lenK_eq, snocK_eq] at h
         injection h with h
         subst h
         exact Y_makeMap ht
       · cases h
     · rename_i ty parts
       split at h
       · cases h
       · rename_i i hl
         have hi := tabB_look hT hl
         split at h
         · rename_i n m hk
           obtain ⟨d, hd, _, hd2⟩ := hi.und
           rw [hk] at hd2
           obtain ⟨z, hz, h1, hzs, _⟩ := hi.zero
           cases d with
           | array n' e =>
            rw [kndB, Bool.and_eq_true] at hd2
            rw [zpvK_eq, prtK_eq] at h
            split at h
            · rename_i cs hb
              have hb := bfillA_of _ _ _ _ hb
              have hr : ∀ r, mkAgg cs = r → s' = ⟨(t, r) :: s.slots, s.mem⟩ → Yld K ⟨some t, .build ty parts, rt, pos, af, g⟩ s s' := by
               intro r hr hs
               subst hs
               refine Y_buildA hd hz (sizB_of hd2.2) h1 hzs (ps := parts.toList.map fun x => (x.1, s.ev x.2)) rfl (cs' := cs) ?_ hr ht
               rw [← hb]; congr 1; exact List.map_congr_left fun x _ => by rw [evl_eq]
              split at h
              · rename_i ds hds
                injection h with h
                exact hr _ (by unfold mkAgg; rw [hds]) h.symm
              · rename_i hds
                rw [copiesK_eq] at h
                injection h with h
                exact hr _ (by unfold mkAgg; rw [hds]) h.symm
            · cases h
           | _ => cases hd2
         · exact vput_of hT rfl ht h
     · rw [frc_eq] at h
       split at h
       · rename_i hw
         rw [copiesK_eq, lenK_eq, snocK_eq] at h
         injection h with h
         subst h
         exact Y_box (evl_eq _ _).symm hw rfl ht
       · cases h
     · split at h
       · exact takeV_of (fun n xs hg hne => Y_assign_take hg hne ht) (fun hk => vput_of hT rfl ht hk) h
       · exact vput_of hT rfl ht h
     · split at h
       · split at h
         · exact takeV_of (fun n xs hg hne => Y_move_take hg hne ht) (fun hk => vput_of hT rfl ht hk) h
         · exact vput_of hT rfl ht h
       · exact vput_of hT rfl ht h
     · split at h
       · exact loadT_of hT ht (fun hk => vput_of hT rfl ht hk) h
       · exact vput_of hT rfl ht h
     · exact vput_of hT rfl ht h
theorem gv {ops : Array Oper} {Q : Exit → GS → Prop} {i : Nat} {rest : List Nat} {s s' : GS} {ob : List (Bool × Bool)} (hT : tabB K.P T = true) (h : step T ops.toList K.n i s = some (ob, s')) (hg : GOps K ops Q rest s') (ho : Obl ob) : GOps K ops Q (i :: rest) s := by
 obtain ⟨sl, mem⟩ := s
 unfold step at h
 dsimp only at h
 split at h
 · cases h
 · rename_i o hn
   have hoi : ops[i]? = some o := by rw [nth_eq] at hn; rw [← hn]; simp
   split at h
   · rename_i hgd
     split at h
     · rename_i c x y hop
       split at h
       · rename_i t hd
         split at h
         · rename_i hlt
           obtain ⟨p, ob', hk, hq⟩ := pstep_of (K := ⟨K.P, K.n, K.S0, K.O0, K.w0, K.m0, [], K.ds⟩) (s := ⟨sl, mem⟩) h
           injection hk with hk
           injection hk with h1 h2
           subst h1; subst h2
           obtain ⟨d, op, rt, pos, af, g⟩ := o
           dsimp only at hd hop
           subst hd; subst hop
           exact GOps_val hoi hgd (Yld_bs (Yld_pure rfl (blt_of hlt) (hq t rt pos af g (blt_of hlt) (fun _ h => h) ho.get))) hg
         · cases h
       · cases h
     · split at h
       · rename_i s1 hs1
         injection h with h
         injection h with h1 h2
         subst h1; subst h2
         rcases vstep_of (s := ⟨sl, mem⟩) hT hs1 with hy | hy
         · exact GOps_val hoi hgd hy hg
         · exact GOps_act hoi hgd hy hg
       · cases h
   · rename_i j w hgd
     split at h
     · cases h
     · rename_i oj hnj
       have hoj : ops[j]? = some oj := by rw [nth_eq] at hnj; rw [← hnj]; simp
       split at h
       · cases h
       · rename_i u hju
         split at h
         · cases h
         · rename_i gb hgb
           have hgb := gdOf_eq _ _ _ hgb
           have hu : (GS.mk sl mem).get u = some (lk sl u) := lk_some rfl (by intro h0; rw [h0] at hgb; cases hgb)
           split at h
           · cases h
           · rename_i t hd
             split at h
             · cases h
             · rename_i hlt
               rw [Bool.and_eq_true] at hlt
               have ht := blt_of hlt.1
               obtain ⟨d, op, rt, pos, af, g⟩ := o
               dsimp only at hd hgd h
               subst hd
               have fin : ∀ (p : PV) (sx : GS), (gb = true → Qy ⟨K.P, K.n, K.S0, K.O0, K.w0, K.m0, [], K.ds⟩ ⟨some t, op, rt, pos, af, g⟩ ⟨sl, mem⟩ t p) → sx = ⟨(t, .when gb p) :: sl, mem⟩ → GOps K ops Q rest sx → GOps K ops Q (i :: rest) ⟨sl, mem⟩ := by
                intro p sx hq hs hgo
                subst hs
                exact GOps_guard hoi hgd hoj hju hu hgb (blt_of hlt.2) rfl ht (fun hb => Yld_bs (Yld_pure rfl ht (hq hb))) hgo
               split at h
               · rename_i c x y
                 obtain ⟨sl', ob', h1, h2⟩ := stripK_of gb mem [c] sl [] (fun sl' ob => pstep (fun b => gb && b) sl' c x y fun p ob' => appK ob ob' fun ob => some (ob, (⟨(t, .when gb p) :: sl, mem⟩ : GS)))
                 rw [h1] at h
                 obtain ⟨p, ob2, hk, hq⟩ := pstep_of (K := ⟨K.P, K.n, K.S0, K.O0, K.w0, K.m0, [], K.ds⟩) (s := ⟨sl', mem⟩) h
                 rw [appK_eq] at hk
                 injection hk with hk
                 injection hk with h3 h4
                 subst h3
                 exact fin p s' (fun hb => (h2 hb (fun x hx => ho.get x (List.mem_append_left _ hx))).2 _ _ _ _ (hq t rt pos af (some (j, w)) ht (fun b hb' => by rw [hb, hb']; rfl) (fun x hx => ho.get x (List.mem_append_right _ hx)))) h4.symm hg
               · obtain ⟨sl', ob', h1, h2⟩ := stripK_of gb mem op.operands.toList sl [] (fun sl' ob => match qv T true sl' mem op with
                  | some p => some (ob, (⟨(t, .when gb p) :: sl, mem⟩ : GS))
                  | none => none)
                 rw [h1] at h
                 split at h
                 · rename_i p hp
                   injection h with h
                   injection h with h3 h4
                   subst h3
                   exact fin p s' (fun hb => (h2 hb ho.get).2 _ _ _ _ (qv_of (s := ⟨sl', mem⟩) (own := true) hT ht (fun _ => rfl) hp)) h4.symm hg
                 · cases h
end
end Go.Proofs.Ytklkbfpjimeaoaa.E
