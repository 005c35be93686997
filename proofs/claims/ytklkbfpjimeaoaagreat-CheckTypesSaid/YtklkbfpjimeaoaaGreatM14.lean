import Derived.Test.YtklkbfpjimeaoaaGreatM13
/- Contracts of functions. Conditions: none. -/
set_option linter.unusedSimpArgs false
set_option linter.unusedVariables false
namespace Go.Proofs.YtklkbfpjimeaoaaGreat.E
open Go
section
variable {K : Ctx} {sl : List (Nat × PV)} {mem : List (List PV)} {t : Nat}
theorem Qy_low {o : Oper} {u : Nat} {q : PV} {xs : List D} (hl : lst (lk sl u) = some xs) (hq : Qy K o ⟨(u, .d (.sl xs)) :: sl, mem⟩ t q) : Qy K o ⟨sl, mem⟩ t q := by
 refine fun S O m a w h => hq S O m a w ⟨h.env, h.defers, h.size, h.pre, fun i p hp => ?_⟩
 rw [GS.get, List.lookup_cons] at hp
 cases hb : (i == u) with
 | true =>
  rw [hb] at hp; injection hp with hp; subst hp
  have hi : i = u := by simpa using hb
  subst hi
  have hne : lk sl i ≠ .undef := by intro h0; rw [h0] at hl; cases hl
  have hr := h.slots i _ (lk_some rfl hne)
  have hd : (lk sl i).toD = some (.sl xs) := by
   unfold lst at hl
   split at hl <;> first | (rename_i h0; rw [h0]; injection hl with hl; subst hl; rfl) | cases hl
  exact .d _ _ _ (hr.toD _ hd)
 | false => rw [hb] at hp; exact h.slots i p hp
def lowK {β : Sort _} (sl : List (Nat × PV)) (x : Operand) (k : List (Nat × PV) → Option β) : Option β := match x with
 | .tmp u => match lst (lk sl u) with
  | some xs => k ((u, .d (.sl xs)) :: sl)
  | none => k sl
 | _ => k sl
variable {β : Sort _}
theorem lowK_of (mem : List (List PV)) {x : Operand} {k : List (Nat × PV) → Option β} {r : β} (h : lowK sl x k = some r) : ∃ sl', k sl' = some r ∧ ∀ (K : Ctx) (o : Oper) (t : Nat) (q : PV), Qy K o ⟨sl', mem⟩ t q → Qy K o ⟨sl, mem⟩ t q := by
 unfold lowK at h
 split at h
 · split at h
   · rename_i hl; exact ⟨_, h, fun K o t q hq => Qy_low hl hq⟩
   · exact ⟨_, h, fun _ _ _ _ h => h⟩
 · exact ⟨_, h, fun _ _ _ _ h => h⟩
def qc (T : List (Nat × TI)) (sl : List (Nat × PV)) (op : Op) : Option (Prop × PV) := match op with
 | .index ty x ix => match look T ty with
  | none => none
  | some ti => match ti.kind with
   | .str => match evl sl x with
    | .d (.str b) => match evl sl ix with
     | .d (.int _ j) => some (0 ≤ j ∧ j < b.size, .d (.int .u8 (b[j.toNat]!).toNat))
     | _ => none
    | _ => none
   | _ => none
 | .binOp op _ x y _ => match evl sl x with
  | .d (.str a) => match evl sl y with
   | .d (.str b) => match op with
    | .add => some (a.size + b.size ≤ lim, .d (.str (a ++ b)))
    | _ => none
   | _ => none
  | .d (.int k a) => match evl sl y with
   | .d (.int k' b) => match decide (k = k') with
    | true => match op with
     | .quo => some (b ≠ 0, .d (.int k (k.wrap (a.tdiv b))))
     | .rem => some (b ≠ 0, .d (.int k (a.tmod b)))
     | _ => none
    | false => none
   | _ => none
  | _ => none
 | .slice ty x lo hi mx => match mx with
  | some _ => none
  | none => match look T ty with
   | none => none
   | some ti => match ti.kind with
    | .str => match evl sl x with
     | .d (.str b) => match lo with
      | none => match hi with
       | none => none
       | some hi => match evl sl hi with
        | .d (.int _ j) => some (0 ≤ j ∧ j ≤ b.size, .d (.str (b.extract 0 j.toNat)))
        | _ => none
      | some lo => match evl sl lo with
       | .d (.int _ i) => match hi with
        | none => some (0 ≤ i ∧ i ≤ b.size, .d (.str (b.extract i.toNat b.size)))
        | some _ => none
       | _ => none
     | _ => none
    | .slice _ n _ _ => match evl sl x with
     | .d (.sl xs) => match lo with
      | none => match hi with
       | none => none
       | some hi => match evl sl hi with
        | .d (.int _ j) => some ((0 ≤ j ∧ j ≤ (xs.length : Nat)) ∧ ∀ x ∈ xs, x.cells.length = n, .d (.sl (xs.take j.toNat)))
        | _ => none
      | some lo => match evl sl lo with
       | .d (.int _ i) => match hi with
        | none => some ((0 ≤ i ∧ i ≤ (xs.length : Nat)) ∧ ∀ x ∈ xs, x.cells.length = n, .d (.sl (xs.drop i.toNat)))
        | some hi => match evl sl hi with
         | .d (.int _ j) => some ((0 ≤ i ∧ i ≤ j ∧ j ≤ (xs.length : Nat)) ∧ ∀ x ∈ xs, x.cells.length = n, .d (.sl ((xs.take j.toNat).drop i.toNat)))
         | _ => none
       | _ => none
     | _ => none
    | _ => none
 | _ => none
theorem qc_of {T : List (Nat × TI)} {op : Op} {C : Prop} {p : PV} {rt : TypeId} {pos : String} {af : Array Edge} {g : Option (Nat × Bool)} (hT : tabB K.P T = true) (ht : t < K.n) (h : qc T sl op = some (C, p)) (hc : C) : Qy K ⟨some t, op, rt, pos, af, g⟩ ⟨sl, mem⟩ t p := by
 unfold qc at h
 split at h
 · split at h
   · cases h
   · rename_i ti hl
     split at h
     · rename_i hk
       split at h
       · rename_i b hb
         split at h
         · rename_i kk j hj
           injection h with h; injection h with h1 h2; subst h1; subst h2
           rw [evl_eq' sl mem] at hb hj
           exact Q_strindex hb hj (str_of (tabB_look hT hl) hk) hc.1 hc.2
         · cases h
       · cases h
     · cases h
 · split at h
   · rename_i a ha
     split at h
     · rename_i b hb
       split at h
       · injection h with h; injection h with h1 h2; subst h1; subst h2
         rw [evl_eq' sl mem] at ha hb
         exact Q_stradd ha hb hc ht
       · cases h
     · cases h
   · rename_i k a ha
     split at h
     · rename_i k' b hb
       split at h
       · rename_i hk
         rw [decide_eq_true_eq] at hk
         subst hk
         rw [evl_eq' sl mem] at ha hb
         split at h
         · injection h with h; injection h with h1 h2; subst h1; subst h2; exact Q_quo ha hb hc rfl ht
         · injection h with h; injection h with h1 h2; subst h1; subst h2; exact Q_rem ha hb hc rfl ht
         · cases h
       · cases h
     · cases h
   · cases h
 · split at h
   · cases h
   · split at h
     · cases h
     · rename_i ti hl
       split at h
       · rename_i hk
         have hu := str_of (tabB_look hT hl) hk
         split at h
         · rename_i b hb
           rw [evl_eq' sl mem] at hb
           split at h
           · split at h
             · cases h
             · split at h
               · rename_i kk j hj
                 injection h with h; injection h with h1 h2; subst h1; subst h2
                 rw [evl_eq' sl mem] at hj
                 exact Q_strh hb hj hu hc.1 hc.2 rfl
               · cases h
           · split at h
             · rename_i kk j hj
               rw [evl_eq' sl mem] at hj
               split at h
               · injection h with h; injection h with h1 h2; subst h1; subst h2
                 exact Q_strl hb hj hu hc.1 hc.2 rfl
               · cases h
             · cases h
         · cases h
       · rename_i e n bb zs hk
         obtain ⟨hu, z, hz, _⟩ := slice_of (tabB_look hT hl) hk
         have hsz := size_of_inf hz
         split at h
         · rename_i xs hb
           rw [evl_eq' sl mem] at hb
           split at h
           · split at h
             · cases h
             · split at h
               · rename_i kk j hj
                 injection h with h; injection h with h1 h2; subst h1; subst h2
                 rw [evl_eq' sl mem] at hj
                 exact Q_sliceh hb hj hu hsz hc.1.1 hc.1.2 hc.2 rfl
               · cases h
           · split at h
             · rename_i kk i hi
               rw [evl_eq' sl mem] at hi
               split at h
               · injection h with h; injection h with h1 h2; subst h1; subst h2
                 exact Q_slicel hb hi hu hsz hc.1.1 hc.1.2 hc.2 rfl
               · split at h
                 · rename_i kk' j hj
                   injection h with h; injection h with h1 h2; subst h1; subst h2
                   rw [evl_eq' sl mem] at hj
                   exact Q_slicelh hb hi hj hu hsz hc.1.1 hc.1.2.1 hc.1.2.2 hc.2 rfl
                 · cases h
             · cases h
         · cases h
       · cases h
 · cases h
def low1 (op : Op) : Operand := match op with
 | .slice _ x _ _ _ => x
 | _ => .func 0
def qcs (T : List (Nat × TI)) (ops : List Oper) (n i : Nat) (sl : List (Nat × PV)) : Option (Nat × Option Bool × List (Bool × Bool) × Prop × PV) := opK ops i fun o => dstK n o fun t => gdK ops n o sl fun g => stpK g o.op.operands.toList sl fun sl' ob => lowK sl' (low1 o.op) fun sl' => match qc T sl' o.op with
 | some (C, p) => some (t, g, ob, C, p)
 | none => none
variable {fr : List Fr} {ops : Array Oper} {i : Nat} {l : List Nat}
theorem gQ {T : List (Nat × TI)} {Q : Exit → GS → Prop} {g : Option Bool} {ob : List (Bool × Bool)} {C : Prop} {p : PV} (hT : tabB K.P T = true)
 (h : qcs T ops.toList K.n i sl = some (t, g, ob, C, p)) (hc : isT g → C) (ho : Obl ob) (hg : GF K fr (.ops ops l) Q ⟨(t, whn g p) :: sl, mem⟩) : GF K fr (.ops ops (i :: l)) Q ⟨sl, mem⟩ := by
 obtain ⟨o, ho1, h⟩ := opK_of h
 obtain ⟨t', hdt, ht, h⟩ := dstK_of h
 obtain ⟨g', h, hq⟩ := quiet_of (mem := mem) ho1 hdt ht h
 obtain ⟨sl', ob', h, hst⟩ := stpK_of mem h
 obtain ⟨sl2, h, hst2⟩ := lowK_of mem h
 split at h
 · rename_i C' p' hqc
   injection h with h; injection h with e1 h; injection h with e2 h; injection h with e3 h; injection h with e4 e5
   subst e1; subst e2; subst e3; subst e4; subst e5
   refine hq _ _ _ (fun hgt => ?_) hg
   obtain ⟨dd, op, rt, pos, af, gg⟩ := o
   dsimp only at hdt hqc
   subst hdt
   exact Yld_pure rfl ht (hst hgt ho.get _ _ _ _ (hst2 _ _ _ _ (qc_of hT ht hqc (hc hgt))))
 · cases h
def aps (T : List (Nat × TI)) (ops : List Oper) (n i : Nat) (sl : List (Nat × PV)) : Option (Nat × Nat × Nat × Nat × List D × List D) := opK ops i fun o => dstK n o fun t => match o.guard with
 | some _ => none
 | none => match o.op with
  | .call c => match c.callee with
   | .builtin .append => match c.args.toList with
    | [.tmp u, y] => match c.argTypes.toList with
     | [ty, ty'] => match Nat.beq ty ty' with
      | true => match look T ty with
       | none => none
       | some ti => match ti.kind with
        | .slice _ k b zs => match sizeIs zs k with
         | true => match lst (evl sl y) with
          | some ys => match lk sl u with
           | .osl k' xs => match Nat.beq k k' with
            | true => some (t, u, k, b, xs, ys)
            | false => none
           | .nils => some (t, u, k, b, [], ys)
           | _ => none
          | none => none
         | false => none
        | _ => none
      | false => none
     | _ => none
    | _ => none
   | _ => none
  | _ => none
theorem gA {T : List (Nat × TI)} {Q : Exit → GS → Prop} {u k b : Nat} {xs ys : List D} (hT : tabB K.P T = true)
 (h : aps T ops.toList K.n i sl = some (t, u, k, b, xs, ys)) (hk0 : 0 < k) (hne : ys ≠ []) (hk : ∀ y ∈ ys, y.cells.length = k) (hl : xs.length + ys.length ≤ lim) (hB : (xs.length + ys.length) * b ≤ lim) (hg : GF K fr (.ops ops l) Q ⟨(t, .osl k (xs ++ ys)) :: (u, .d (.sl xs)) :: sl, mem⟩) : GF K fr (.ops ops (i :: l)) Q ⟨sl, mem⟩ := by
 obtain ⟨o, ho1, h1⟩ := opK_of h
 obtain ⟨t', hdt, ht, h2⟩ := dstK_of h1
 clear h h1
 have h := h2
 clear h2
 have hoi : ops[i]? = some o := by rw [nth_eq] at ho1; rw [← ho1]; simp
 split at h
 · cases h
 · rename_i hgd
   split at h
   · rename_i c hop
     split at h
     · rename_i hcal
       split at h
       · rename_i u' y hargs
         split at h
         · rename_i ty ty' htys
           split at h
           · rename_i hty
             have hty := Nat.eq_of_beq_eq_true hty
             subst hty
             split at h
             · cases h
             · rename_i ti hlk
               split at h
               · rename_i e k1 b1 zs hkd
                 obtain ⟨hu, z, hz, hz1, hzs⟩ := slice_of (tabB_look hT hlk) hkd
                 split at h
                 · rename_i hsz
                   have hsz := sizeIs_of _ _ hsz
                   split at h
                   · rename_i ys' hys
                     obtain ⟨ca, ar, tys⟩ := c
                     dsimp only at hcal hargs htys
                     subst hcal
                     have e1 : ar = #[.tmp u', y] := by apply Array.toList_inj.1; exact hargs
                     have e2 : tys = #[ty, ty] := by apply Array.toList_inj.1; exact htys
                     subst e1; subst e2
                     rw [evl_eq' sl mem] at hys
                     obtain ⟨dd, op, rt, pos, af, gg⟩ := o
                     dsimp only at hdt hop hgd
                     subst hdt; subst hop
                     split at h
                     · rename_i k2 xs2 hlku
                       split at h
                       · rename_i hkk
                         have hkk := Nat.eq_of_beq_eq_true hkk
                         subst hkk
                         injection h with h; injection h with f1 h; injection h with f2 h; injection h with f3 h; injection h with f4 h; injection h with f5 f6
                         subst f1; subst f2; subst f3; subst f4; subst f5; subst f6
                         exact GOps_val hoi hgd (Y_append (lk_some hlku (by intro h; cases h)) (.inl rfl) (lst_eq hys) hne hk hk0 hu hz (hzs.trans hsz) hz1 hl hB ht) hg
                       · cases h
                     · rename_i hlku
                       injection h with h; injection h with f1 h; injection h with f2 h; injection h with f3 h; injection h with f4 h; injection h with f5 f6
                       subst f1; subst f2; subst f3; subst f4; subst f5; subst f6
                       exact GOps_val hoi hgd (Y_append (xs := []) (lk_some hlku (by intro h; cases h)) (.inr ⟨rfl, rfl⟩) (lst_eq hys) hne hk hk0 hu hz (hzs.trans hsz) hz1 hl hB ht) hg
                     · cases h
                   · cases h
                 · cases h
               · cases h
           · cases h
         · cases h
       · cases h
     · cases h
   · cases h
def seqK {β : Sort _} : List (Nat × Operand) → List Nat → (List Operand → Option β) → Option β
 | [], _, k => k []
 | (i, x) :: r, n :: ns, k => match Nat.beq i n with
  | true => seqK r ns fun xs => k (x :: xs)
  | false => none
 | _ :: _, [], _ => none
theorem seqK_of : ∀ {ps : List (Nat × Operand)} {ns : List Nat} {k : List Operand → Option β} {r : β}, seqK ps ns k = some r → ∃ xs, k xs = some r ∧ ps = (ns.take xs.length).zip xs ∧ xs.length ≤ ns.length
 | [], ns, k, r, h => ⟨[], h, by simp, Nat.zero_le _⟩
 | (i, x) :: ps, n :: ns, k, r, h => by
  rw [seqK] at h
  split at h
  · rename_i hb
    obtain ⟨xs, h1, h2, h3⟩ := seqK_of h
    refine ⟨x :: xs, h1, ?_, by simp only [List.length_cons]; omega⟩
    rw [h2, Nat.eq_of_beq_eq_true hb]; rfl
  · cases h
 | _ :: _, [], _, _, h => by cases h
def bss (T : List (Nat × TI)) (ops : List Oper) (n i : Nat) (sl : List (Nat × PV)) : Option (Nat × Nat × List D) := opK ops i fun o => dstK n o fun t => match o.guard with
 | some _ => none
 | none => match o.op with
  | .buildSlice ty len parts => seqK parts.toList nums fun xs => match sizeIs xs len with
   | true => match look T ty with
    | none => none
    | some ti => match ti.kind with
     | .slice _ k _ zs => match sizeIs zs k with
      | true => match Nat.ble (len * k) 16777216 with
       | true => evsK sl xs fun ps => toDsK ps fun ds => some (t, k, ds)
       | false => none
      | false => none
     | _ => none
   | false => none
  | _ => none
theorem gB {T : List (Nat × TI)} {Q : Exit → GS → Prop} {k : Nat} {ds : List D} (hT : tabB K.P T = true)
 (h : bss T ops.toList K.n i sl = some (t, k, ds)) (hk0 : 0 < k) (hk : ∀ d ∈ ds, d.cells.length = k) (hg : GF K fr (.ops ops l) Q ⟨(t, .osl k ds) :: sl, mem⟩) : GF K fr (.ops ops (i :: l)) Q ⟨sl, mem⟩ := by
 obtain ⟨o, ho1, h1⟩ := opK_of h
 obtain ⟨t', hdt, ht, h2⟩ := dstK_of h1
 clear h h1
 have h := h2
 clear h2
 have hoi : ops[i]? = some o := by rw [nth_eq] at ho1; rw [← ho1]; simp
 split at h
 · cases h
 · rename_i hgd
   split at h
   · rename_i ty len parts hop
     obtain ⟨xs, h, hps, hln⟩ := seqK_of h
     split at h
     · rename_i hsz
       have hsz := sizeIs_of _ _ hsz
       split at h
       · cases h
       · rename_i ti hlk
         split at h
         · rename_i e k1 b1 zs hkd
           obtain ⟨hu, z, hz, hz1, hzs⟩ := slice_of (tabB_look hT hlk) hkd
           split at h
           · rename_i hszz
             have hszz := sizeIs_of _ _ hszz
             split at h
             · rename_i hle
               rw [evsK_eq] at h
               obtain ⟨ds', h1, h⟩ := toDsK_of h
               injection h with h; injection h with f1 h; injection h with f2 f3
               subst f1; subst f2; subst f3
               obtain ⟨dd, op, rt, pos, af, gg⟩ := o
               dsimp only at hdt hop hgd
               subst hdt; subst hop
               refine GOps_val hoi hgd (Y_buildSlice (xs := xs) hu hz ?_ hsz (hzs.trans hszz) ?_ hk (Nat.le_of_ble_eq_true hle) hk0 ht) hg
               · rw [hps, nums_eq, List.take_range, Nat.min_eq_left (by simpa [nums] using hln)]
               · rw [← h1]; congr 1; exact List.map_congr_left fun x _ => (evl_eq' sl mem x).symm
             · cases h
           · cases h
         · cases h
     · cases h
   · cases h
def frzK {β : Sort _} (n : Nat) (F : Nat → PV) : List (Nat × PV) → (List (Nat × PV) → β) → β
 | [], k => k []
 | (i, p) :: r, k => match p with
  | .ref b off => match Nat.beq b n with
   | true => frc (F off) fun q => frzK n F r fun l => k ((i, q) :: l)
   | false => frzK n F r fun l => k ((i, .ref b off) :: l)
  | .d x => frzK n F r fun l => k ((i, .d x) :: l)
  | .nils => frzK n F r fun l => k ((i, .nils) :: l)
  | .undef => frzK n F r fun l => k ((i, .undef) :: l)
  | .osl m xs => frzK n F r fun l => k ((i, .osl m xs) :: l)
  | p => frc (PV.frz n F noH .undef p) fun q => frzK n F r fun l => k ((i, q) :: l)
theorem frzK_eq (n : Nat) (F : Nat → PV) : ∀ (l : List (Nat × PV)) (k : List (Nat × PV) → β), frzK n F l k = k (l.map fun x => (x.1, PV.frz n F noH .undef x.2))
 | [], _ => rfl
 | (i, p) :: r, k => by
  cases p with
  | ref b off =>
   rw [frzK]
   cases hb : Nat.beq b n with
   | true => dsimp only; rw [frc_eq, frzK_eq n F r, List.map_cons, PV.frz, if_pos (Nat.eq_of_beq_eq_true hb)]
   | false => dsimp only; rw [frzK_eq n F r, List.map_cons, PV.frz, if_neg (Nat.ne_of_beq_eq_false hb)]
  | d x => rw [frzK, frzK_eq n F r, List.map_cons, PV.frz]
  | nils => rw [frzK, frzK_eq n F r, List.map_cons, PV.frz]
  | undef => rw [frzK, frzK_eq n F r, List.map_cons, PV.frz]
  | osl m xs => rw [frzK, frzK_eq n F r, List.map_cons, PV.frz]
  | _ => unfold frzK; dsimp only; rw [frc_eq, frzK_eq n F r, List.map_cons]
def popK {α : Type} {β : Sort _} : List α → (List α → α → Option β) → Option β
 | [], _ => none
 | x :: r, k => match r with
  | [] => k [] x
  | y :: r' => popK (y :: r') fun l z => k (x :: l) z
theorem popK_of {α : Type} : ∀ {l : List α} {k : List α → α → Option β} {r : β}, popK l k = some r → ∃ l' z, l = l' ++ [z] ∧ k l' z = some r
 | [], _, _, h => by cases h
 | [x], k, r, h => ⟨[], x, rfl, h⟩
 | x :: y :: l, k, r, h => by
  obtain ⟨l', z, h1, h2⟩ := popK_of (l := y :: l) (k := fun l z => k (x :: l) z) h
  exact ⟨x :: l', z, by rw [h1]; rfl, h2⟩
def frs (isAgg : Bool) (s : GS) : Option (Nat × D × GS) := match s with
 | ⟨sl, mem⟩ => popK mem fun keep cs => lenK keep fun n => match PV.toDs cs with
  | some ds => match isAgg with
   | true => frzK n (ptrF (.agg ds)) sl fun sl' => some (n, .agg ds, ⟨sl', keep⟩)
   | false => match ds with
    | [d] => match isLeaf d with
     | true => frzK n (ptrF d) sl fun sl' => some (n, d, ⟨sl', keep⟩)
     | false => none
    | _ => none
  | none => none
theorem gFz (isAgg : Bool) {K : Ctx} {fr : List Fr} {c : Cf} {Q : Exit → GS → Prop} {s s' : GS} {n : Nat} {d : D} (h : frs isAgg s = some (n, d, s')) (hk : K.m0.length ≤ n) (hrf : s'.mem.all (PV.refsBs n) = true) (hc : goes c = true) (hg : GF K fr c Q s') : GF K fr c Q s := by
 obtain ⟨sl, mem⟩ := s
 unfold frs at h
 dsimp only at h
 obtain ⟨keep, cs, hm, h⟩ := popK_of h
 rw [lenK_eq] at h
 split at h
 · rename_i ds hds
   split at h
   · rw [frzK_eq] at h
     injection h with h; injection h with f1 h; injection h with f2 f3
     subst f1; subst f2; subst f3
     exact gLe (Le_freeze keep.length hm rfl hds rfl hk hrf) hg hc
   · split at h
     · split at h
       · rename_i hl
         rw [frzK_eq] at h
         injection h with h; injection h with f1 h; injection h with f2 f3
         subst f1; subst f2; subst f3
         exact gLe (Le_freeze keep.length hm rfl hds (isLeaf_of hl) hk hrf) hg hc
       · cases h
     · cases h
 · cases h
end
section
def CO (K : Ctx) (fr : List Fr) (ops : Array Oper) (base : List (Nat × PV)) (mem : List (List PV)) (i : Nat) (es : List (Nat × Nat × PV)) (Q : Exit → GS → Prop) : Prop := CGk [] K ops (fun _ => mem) base (unf K Q fr) i es
def dpK {β : Sort _} : List Edge → (List Nat → Option β) → Option β
 | [], k => k []
 | e :: r, k => match e with
  | ⟨on, gr⟩ => match Region.binds .any ⟨on, gr⟩ with
   | true => dpK r fun l => k (on :: l)
   | false => dpK r k
variable {β : Sort _}
theorem dpK_of : ∀ {es : List Edge} {k : List Nat → Option β} {r : β}, dpK es k = some r → k ((es.filter fun e => Region.binds .any e).map (·.on)) = some r
 | [], _, _, h => h
 | ⟨on, gr⟩ :: r, k, _, h => by
  rw [dpK] at h
  rw [List.filter_cons]
  split at h
  · rename_i hb
    rw [if_pos hb, List.map_cons]
    exact dpK_of h
  · rename_i hb
    rw [if_neg (by rw [hb]; decide)]
    exact dpK_of h
def memN (d : Nat) : List Nat → Bool
 | [] => false
 | x :: r => match Nat.beq d x with
  | true => true
  | false => memN d r
theorem memN_eq (d : Nat) : ∀ l : List Nat, memN d l = l.contains d
 | [] => rfl
 | x :: r => by
  rw [memN, List.contains_cons]
  cases hb : Nat.beq d x with
  | true => rw [show (d == x) = true from beq_iff_eq.2 (Nat.eq_of_beq_eq_true hb)]; rfl
  | false => rw [show (d == x) = false from beq_eq_false_iff_ne.2 (Nat.ne_of_beq_eq_false hb), memN_eq d r]; rfl
def pickK {β : Sort _} (ds : List Nat) : List (Nat × Nat × PV) → (List (Nat × PV) → Option β) → Option β
 | [], k => k []
 | (i, t, p) :: r, k => match memN i ds with
  | true => pickK ds r fun l => k ((t, p) :: l)
  | false => pickK ds r k
theorem pickK_of (ds : List Nat) : ∀ {es : List (Nat × Nat × PV)} {k : List (Nat × PV) → Option β} {r : β}, pickK ds es k = some r → k (pick es ds) = some r
 | [], _, _, h => h
 | (i, t, p) :: es, k, _, h => by
  rw [pickK] at h
  unfold pick
  rw [List.filter_cons]
  split at h
  · rename_i hb
    rw [memN_eq] at hb
    rw [if_pos hb, List.map_cons]
    exact pickK_of ds h
  · rename_i hb
    rw [memN_eq] at hb
    rw [if_neg (by rw [hb]; decide)]
    exact pickK_of ds h
def see (ops : List Oper) (i : Nat) (es : List (Nat × Nat × PV)) (base : List (Nat × PV)) : Option (List (Nat × PV)) := opK ops i fun o => dpK o.after.toList fun ds => pickK ds es fun l => appK l base some
variable {ops : Array Oper} {i : Nat} {es : List (Nat × Nat × PV)} {base pre : List (Nat × PV)}
theorem see_of (h : see ops.toList i es base = some pre) : ∃ o, ops[i]? = some o ∧ pre = pick es (depsOf ops i) ++ base := by
 obtain ⟨o, ho, h⟩ := opK_of h
 have hoi : ops[i]? = some o := by rw [nth_eq] at ho; rw [← ho]; simp
 refine ⟨o, hoi, ?_⟩
 have h1 := pickK_of _ (dpK_of h)
 rw [appK_eq] at h1
 injection h1 with h1
 unfold depsOf
 rw [hoi]
 exact h1.symm
variable {K : Ctx} {fr : List Fr} {mem : List (List PV)} {j t : Nat} {es' : List (Nat × Nat × PV)} {Q : Exit → GS → Prop} {p : PV}
theorem oStep (hs : see ops.toList i es base = some pre) (hj : nth nums (i + 1) = some j) (hes : snocK es (i, t, p) some = some es')
 (hc : CO K fr ops base mem j es' Q) (hstep : ∀ (rest : List (Nat × PV)) (Q' : Exit → GS → Prop), GF K [] (.ops ops []) Q' ⟨(t, p) :: (pre ++ rest), mem⟩ → GF K [] (.ops ops [i]) Q' ⟨pre ++ rest, mem⟩) : CO K fr ops base mem i es Q := by
 obtain ⟨o, ho, rfl⟩ := see_of hs
 have hj : i + 1 = j := by
  rw [nth_eq, nums_eq] at hj
  have := List.getElem?_eq_some_iff.1 hj
  obtain ⟨_, h⟩ := this
  simpa using h
 rw [snocK_eq] at hes
 injection hes with hes
 subst hj; subst hes
 have hck : CFk [] K ops (fun _ => mem) base (unf K Q fr) i es (fun rest => pick es (depsOf ops i) ++ base ++ rest) :=
  ck_st (i + 1) (fun b rest _ _ _ => ofO (fr := []) (hstep rest (fun e s' => e = .normal ∧ s' = ⟨(t, p) :: (pick es (depsOf ops i) ++ base ++ rest), mem⟩) (toO (fr := []) (gN ⟨rfl, rfl⟩)))) hc rfl rfl
 refine hck (depsOf ops i) (fun _ => rfl) ?_
 rw [List.all_eq_true]
 intro d hd
 rw [Bool.and_eq_true]
 exact ⟨by simpa using hd, rfl⟩
def putK {β : Sort _} : List (Nat × Nat × PV) → List (Nat × PV) → (List (Nat × PV) → Option β) → Option β
 | [], b, k => k b
 | (_, t, p) :: r, b, k => putK r b fun l => k ((t, p) :: l)
theorem putK_of : ∀ {es : List (Nat × Nat × PV)} {b : List (Nat × PV)} {k : List (Nat × PV) → Option β} {r : β}, putK es b k = some r → k (es.map (·.2) ++ b) = some r
 | [], _, _, _, h => h
 | (_, t, p) :: es, b, k, _, h => by rw [putK] at h; exact putK_of (es := es) h
theorem oEnd {sl : List (Nat × PV)} (hi : sizeIs ops.toList i = true) (hp : putK es base some = some sl) (h : GF K fr (.leave .normal) Q ⟨sl, mem⟩)
 (hn : nodupB (es.map (·.2.1)) = true) (hb : base.all (fun x => !(es.map (·.2.1)).contains x.1) = true) (hf : es.all (fun x => Nat.blt x.1 ops.size) = true) : CO K fr ops base mem i es Q := by
 have hi := sizeIs_of _ _ hi
 have hp := putK_of hp
 injection hp with hp
 subst hp
 refine ⟨es, .done hi.symm, nodupB_iff hn, fun x hx hm => ?_, fun x hx => blt_of (List.all_eq_true.1 hf x hx), ?_⟩
 · have := List.all_eq_true.1 hb x hx
   simp only [Bool.not_eq_true', List.contains_eq_mem, decide_eq_false_iff_not] at this
   exact this hm
 · have : (es.filter fun x => (List.lookup x.1 ([] : List (Nat × Nat))).isNone) = es := List.filter_eq_self.2 (fun x _ => rfl)
   rw [this]
   exact h
def dstsK {β : Sort _} : List Oper → (List Nat → Option β) → Option β
 | [], k => k []
 | o :: r, k => match o.dst with
  | some t => dstsK r fun l => k (t :: l)
  | none => dstsK r k
def fltK {β : Sort _} (ds : List Nat) : List (Nat × PV) → (List (Nat × PV) → Option β) → Option β
 | [], k => k []
 | (t, p) :: r, k => match memN t ds with
  | true => fltK ds r k
  | false => fltK ds r fun l => k ((t, p) :: l)
theorem fltK_of (ds : List Nat) : ∀ {sl : List (Nat × PV)} {k : List (Nat × PV) → Option β} {r : β}, fltK ds sl k = some r → k (sl.filter fun x => !ds.contains x.1) = some r
 | [], _, _, h => h
 | (t, p) :: sl, k, _, h => by
  rw [fltK] at h
  rw [List.filter_cons]
  split at h
  · rename_i hb
    rw [memN_eq] at hb
    rw [if_neg (by rw [hb]; decide)]
    exact fltK_of ds h
  · rename_i hb
    rw [memN_eq] at hb
    rw [if_pos (by rw [hb]; decide)]
    exact fltK_of ds h
def baseK (ops : List Oper) (sl : List (Nat × PV)) : Option (List Nat × List (Nat × PV)) := dstsK ops fun ds => fltK ds sl fun b => some (ds, b)
theorem dstsK_any : ∀ {ops : List Oper} {k : List Nat → Option β} {r : β}, dstsK ops k = some r → ∃ ds, k ds = some r
 | [], _, _, h => ⟨[], h⟩
 | o :: ops, k, _, h => by
  rw [dstsK] at h
  split at h
  · obtain ⟨ds, h⟩ := dstsK_any h; exact ⟨_, h⟩
  · exact dstsK_any h
theorem gOpen {id : Nat} {sl : List (Nat × PV)} {ds : List Nat} (hb : baseK ops.toList sl = some (ds, base)) (hm : K.P.follows .mixedOrders = true)
 (hdep : ((List.range ops.size).all fun i => (depsOf ops i).all fun d => Nat.blt d i) = true) (h : CO K fr ops base mem 0 [] Q) : GF K fr (.code (.region id ops true)) Q ⟨sl, mem⟩ := by
 obtain ⟨ds', h1⟩ := dstsK_any hb
 have h2 := fltK_of ds' h1
 injection h2 with h2; injection h2 with h3 h4
 subst h3
 exact g_ck [] ds' (fun _ => mem) rfl h h4 hm hdep
variable {ob : List (Bool × Bool)}
theorem oV {T : List (Nat × TI)} (hT : tabB K.P T = true) (hs : see ops.toList i es base = some pre) (hj : nth nums (i + 1) = some j)
 (h : ∀ rest, step T ops.toList K.n i ⟨pre ++ rest, mem⟩ = some (ob, ⟨(t, p) :: (pre ++ rest), mem⟩)) (hes : snocK es (i, t, p) some = some es') (hc : CO K fr ops base mem j es' Q) (ho : Obl ob) : CO K fr ops base mem i es Q :=
 oStep hs hj hes hc fun rest _ hg => toO (gv hT (h rest) (ofO hg) ho)
theorem oC {g : Option Bool} {f : FuncId} {ds : List D} {r : PV} (hs : see ops.toList i es base = some pre) (hj : nth nums (i + 1) = some j)
 (h : ∀ rest, cls ops.toList K.n i (pre ++ rest) = some (t, g, ob, f, ds)) (hcl : isT g → Pf K.P f ds r) (hes : snocK es (i, t, whn g r) some = some es') (hc : CO K fr ops base mem j es' Q) (ho : Obl ob) : CO K fr ops base mem i es Q :=
 oStep hs hj hes hc fun rest _ hg => gC (h rest) hcl ho hg
theorem oI {T : List (Nat × TI)} {m : Nat} {g : Option Bool} {xs : List D} {ix : Int} (d : D) (hT : tabB K.P T = true) (hs : see ops.toList i es base = some pre) (hj : nth nums (i + 1) = some j)
 (h : ∀ rest, ixs T ops.toList K.n i (pre ++ rest) = some (t, g, ob, xs, ix, m)) (hd : isT g → 0 ≤ ix ∧ xs[ix.toNat]? = some d ∧ d.cells.length = m) (hm : 0 < m) (hes : snocK es (i, t, whn g (.d (.ptr d))) some = some es') (hc : CO K fr ops base mem j es' Q) (ho : Obl ob) : CO K fr ops base mem i es Q :=
 oStep hs hj hes hc fun rest _ hg => gI d hT (h rest) hd hm ho hg
theorem oQ {T : List (Nat × TI)} {g : Option Bool} {C : Prop} (hT : tabB K.P T = true) (hs : see ops.toList i es base = some pre) (hj : nth nums (i + 1) = some j)
 (h : ∀ rest, qcs T ops.toList K.n i (pre ++ rest) = some (t, g, ob, C, p)) (hcc : isT g → C) (hes : snocK es (i, t, whn g p) some = some es') (hc : CO K fr ops base mem j es' Q) (ho : Obl ob) : CO K fr ops base mem i es Q :=
 oStep hs hj hes hc fun rest _ hg => gQ hT (h rest) hcc ho hg
end
section
variable {P : Program} {out : PV ⊕ Value} {rvs : List ResultVar}
theorem pxB {f : FuncId} {fn : Func} {c : Code} {args : List D} {n : Nat} {slots : List (Nat × PV)} (hf : P.funcs[f]? = some fn) (hn : fn.ntmps = n) (hres : fn.results = rvs.toArray)
 (h : ∀ S0 O0 w0 m0, m0.length = 0 → GF ⟨P, n, S0, O0, w0, m0, [], []⟩ [] (.code c) (FinX P rvs 0 (fun q m => out = .inl q ∧ m = []) (fun v m => out = .inr v ∧ m = [])) ⟨slots, []⟩)
 (hb : fn.body = some c := by rfl) (hnm : (fn.name == "runtime.NumGoroutine") = false := by rfl) (hal : args.length ≤ n := by exact oR rfl) (hsl : (List.range (args.map PV.d).length).zip (args.map PV.d) = slots := by rfl) : Px P f args out :=
 px_body slots hf hn hres h hb hnm hal hsl
theorem finX_of {k : Nat} {R : PV → List (List PV) → Prop} {RX : Value → List (List PV) → Prop} {e : Exit} {s : GS} (he : endE e = true) (h : Fin P rvs k R e s) : FinX P rvs k R RX e s := by
 cases e <;> first | exact h | cases he
variable {K : Ctx}
theorem gEndX {T : List (Nat × TI)} {sl : List (Nat × PV)} {mem : List (List PV)} {e : Exit} {q : PV} {RX : Value → List (List PV) → Prop} (hT : tabB P T = true) (h : endK T sl mem rvs e = some q) (hb : PV.refsB 0 q = true) (hr : out = .inl q) :
 GF K [] (.leave e) (FinX P rvs 0 (fun q m => out = .inl q ∧ m = []) RX) ⟨sl, mem⟩ := by
 have he : endE e = true := by
  unfold endK at h
  split at h
  · assumption
  · cases h
 refine toL (finX_of he ?_)
 have := gEndM (K := K) (n := 0) (mem' := []) (R := fun q m => out = .inl q ∧ m = []) hT h hb (Nat.le_refl _) .nil ⟨hr, rfl⟩
 exact this
theorem gPan {s : GS} {v : Value} {R : PV → List (List PV) → Prop} (hr : out = .inr v) : GF K [] (.leave (.panic (chain1 v))) (FinX P rvs 0 R (fun v m => out = .inr v ∧ m = [])) s := toL (fx_panic ⟨hr, rfl⟩)
theorem gCP {fr : List Fr} {ops : Array Oper} {Q : Exit → GS → Prop} {i t : Nat} {l : List Nat} {sl : List (Nat × PV)} {mem : List (List PV)} {ob : List (Bool × Bool)} {f : FuncId} {ds : List D} {u : Value}
 (h : cls ops.toList K.n i sl = some (t, none, ob, f, ds)) (hc : Px K.P f ds (.inr u)) (hg : GF K fr (.leave (.panic (chain1 u))) Q ⟨sl, mem⟩) : GF K fr (.ops ops (i :: l)) Q ⟨sl, mem⟩ := by
 refine toO ?_
 obtain ⟨o, ho1, h⟩ := opK_of h
 obtain ⟨t', hdt, ht, h⟩ := dstK_of h
 have hoi : ops[i]? = some o := by rw [nth_eq] at ho1; rw [← ho1]; simp
 unfold gdK at h
 split at h
 · rename_i hgd
   split at h
   · rename_i c hop
     split at h
     · rename_i fx hcal
       unfold stpK at h
       dsimp only at h
       rw [evsK_eq] at h
       obtain ⟨f', a, b, h1, h⟩ := calK_of h
       obtain ⟨ds', h2, h⟩ := toDsK_of h
       rw [appK_eq, appK_eq] at h
       injection h with h; injection h with e1 h; injection h with e2 h; injection h with e3 h; injection h with e4 e5
       subst e1; subst e3; subst e4; subst e5
       obtain ⟨ca, ar, tys⟩ := c
       dsimp only at hcal h2
       subst hcal
       obtain ⟨⟨fn, hf, hb, hn⟩, hp⟩ := hc
       rw [evl_eq' sl mem] at h1
       refine GOps_callp (xs := ar.toList) hoi (by simpa using hop) hgd h1 ?_ hf hb hn ⟨⟨fn, hf, hb, hn⟩, hp⟩ hg
       rw [← h2]; congr 1; exact List.map_congr_left fun x _ => (evl_eq' sl mem x).symm
     · cases h
   · cases h
 · split at h
   · cases h
   · split at h
     · cases h
     · split at h
       · cases h
       · split at h
         · cases h
         · rename_i gb hgb
           split at h
           · rename_i c hop
             split at h
             · rename_i fx hcal
               unfold stpK at h
               dsimp only at h
               exfalso
               obtain ⟨sl', ob', h0, _⟩ := stripR gb mem c.args.toList sl [] (fun sl' ob => evsK sl' c.args.toList fun ps => calK (evl sl fx) fun f a b => toDsK ps fun ds => appK a ds fun ad => appK ad b fun all => some (t', some gb, ob, f, all))
               rw [h0, evsK_eq] at h
               obtain ⟨f', a, b, h1, h⟩ := calK_of h
               obtain ⟨ds', h2, h⟩ := toDsK_of h
               rw [appK_eq, appK_eq] at h
               injection h with h; injection h with e1 h; injection h with e2 h
               cases e2
             · cases h
           · cases h
end
end Go.Proofs.YtklkbfpjimeaoaaGreat.E
