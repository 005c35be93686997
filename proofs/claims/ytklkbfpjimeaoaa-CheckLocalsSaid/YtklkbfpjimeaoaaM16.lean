import Derived.Test.YtklkbfpjimeaoaaM15
import Derived.Test.YtklkbfpjimeaoaaM12
/- Contracts of functions. Conditions: none. -/
set_option linter.unusedSimpArgs false
set_option linter.unusedVariables false
namespace Go.Proofs.Ytklkbfpjimeaoaa.E
open Go
section
variable {P : Program}
theorem map_of {ty : TypeId} {i : TI} (hi : TOk P ty i) {k e : TypeId} (hk : i.kind = .map k e) : P.underlying ty = some (.map k e) := by
 obtain ⟨d, hd, _, hd2⟩ := hi.und
 rw [hk] at hd2
 cases d with
 | map k' e' =>
  rw [kndB, Bool.and_eq_true] at hd2
  rw [← Nat.eq_of_beq_eq_true hd2.1, ← Nat.eq_of_beq_eq_true hd2.2]
  exact hd
 | _ => cases hd2
def mus (T : List (Nat × TI)) (ops : List Oper) (i : Nat) (sl : List (Nat × PV)) : Option (Nat × TypeId × D × PV) := opK ops i fun o => match o.dst with
 | some _ => none
 | none => match o.guard with
  | some _ => none
  | none => match o.op with
   | .mapUpdate ty mx kx vx => match look T ty with
    | none => none
    | some ti => match ti.kind with
     | .map kt _ => match evl sl mx with
      | .mref b => match evl sl kx with
       | .d k => frc (evl sl vx) fun p => some (b, kt, k, p)
       | _ => none
      | _ => none
     | _ => none
   | _ => none
variable {K : Ctx} {T : List (Nat × TI)} {fr : List Fr} {ops : Array Oper} {Q : Exit → GS → Prop} {i : Nat} {kt : TypeId} {l : List Nat} {sl : List (Nat × PV)} {mem : List (List PV)} {vs : List PV} {p : PV}
theorem gMu {b : Nat} {mem' : List (List PV)} {ks : List D} {k : D} (hT : tabB K.P T = true)
 (h : mus T ops.toList i sl = some (b, kt, k, p)) (hm : nth mem b = some (mpc ks vs)) (L : WideMaps.KeyLaw K.P kt) (hl : vs.length = ks.length) (hit : ∀ k ∈ ks, k ≠ .nilF) (hks : ∀ k ∈ ks, KG K.P kt k) (hk : KG K.P kt k) (hno : p.noown = true)
 (hmem : mem.set b (mpc (putKs ks k) (putVs ks k vs p)) = mem') (hg : GF K fr (.ops ops l) Q ⟨sl, mem'⟩) : GF K fr (.ops ops (i :: l)) Q ⟨sl, mem⟩ := by
 obtain ⟨o, ho1, h⟩ := opK_of h
 have hoi : ops[i]? = some o := by rw [nth_eq] at ho1; rw [← ho1]; simp
 obtain ⟨dd, op, rt, pos, af, gg⟩ := o
 dsimp only at h
 split at h
 · cases h
 · split at h
   · cases h
   · split at h
     · rename_i ty mx kx vx
       split at h
       · cases h
       · rename_i ti hlk
         split at h
         · rename_i kt' et hkd
           have hu := map_of (tabB_look hT hlk) hkd
           split at h
           · rename_i b' hb'
             split at h
             · rename_i k' hk'
               rw [frc_eq] at h
               injection h with h; injection h with e1 h; injection h with e2 h; injection h with e3 e4
               subst e1; subst e2; subst e3; subst e4; subst hmem
               rw [evl_eq' sl mem] at hb' hk'
               rw [nth_eq] at hm
               rw [evl_eq' sl mem] at hno hg
               exact GOps_act hoi rfl (D_mapUp L hu hb' hm hl hit hks hk' hk rfl hno) hg
             · cases h
           · cases h
         · cases h
     · cases h
def lks (T : List (Nat × TI)) (ops : List Oper) (n i : Nat) (sl : List (Nat × PV)) : Option (Nat × Bool × PV × TypeId × TypeId × D) := opK ops i fun o => dstK n o fun t => match o.guard with
 | some _ => none
 | none => match o.op with
  | .lookup ty mx kx ok => match look T ty with
   | none => none
   | some ti => match ti.kind with
    | .map kt et => match evl sl kx with
     | .d k => frc (evl sl mx) fun p => some (t, ok, p, kt, et, k)
     | _ => none
    | _ => none
  | _ => none
def zvK (ti : TI) : Option PV := match ti.leaf with
 | true => match ti.zs with
  | [z] => frc z.pv some
  | _ => none
 | false => zpvK ti.zs fun ps => match PV.toDs ps with
  | some ds => some (.d (.agg ds))
  | none => none
variable {et : TypeId}
theorem zvK_of {ti : TI} (hT : tabB P T = true) (hl : look T et = some ti) (h : zvK ti = some p) : ∃ z, (P.info? et).map (·.zero) = some (some z) ∧ ∀ (w : World) (S : Reg) (O : Owns) (m l : List Nat), RP w S O m l p z := by
 obtain ⟨z, h1, h2, h3, h4, h5⟩ := (tabB_look hT hl).zero
 refine ⟨z, h1, fun w S O m l => ?_⟩
 unfold zvK at h
 split at h
 · rename_i hlf
   rw [hlf] at h5
   split at h
   · rename_i zk hz
     rw [frc_eq] at h
     injection h with h
     subst h
     rw [hz] at h4
     have hz1 : z.cells = #[z] := by cases z <;> first | rfl | cases h5
     rw [hz1] at h4
     have hzv : z = zk.val := by simpa using h4
     rw [hzv, ← zk.of]
     exact ofConst_rp _ _ _ _ _ _
   · cases h
 · rename_i hlf
   rw [hlf] at h5
   rw [zpvK_eq] at h
   split at h
   · rename_i ds hds
     injection h with h
     subst h
     cases z with
     | agg cs => exact .d _ _ _ (zeroD_rd (by unfold zeroD; dsimp only; rw [h3, hds]; rfl) h2 w S)
     | _ => cases h5
   · cases h
def zvT (T : List (Nat × TI)) (et : TypeId) : Option PV := match look T et with
 | some ti => zvK ti
 | none => none
theorem zvT_of (hT : tabB P T = true) (h : zvT T et = some p) : ∃ z, (P.info? et).map (·.zero) = some (some z) ∧ ∀ (w : World) (S : Reg) (O : Owns) (m l : List Nat), RP w S O m l p z := by
 unfold zvT at h
 split at h
 · rename_i ti hl; exact zvK_of hT hl h
 · cases h
def lkR (ok : Bool) (p : PV) (b : Bool) : PV := match ok with
 | true => .tup [p, .d (.bool b)]
 | false => p
variable {t : Nat} {ok : Bool}
theorem lks_of {k : D} (hT : tabB K.P T = true) (h : lks T ops.toList K.n i sl = some (t, ok, p, kt, et, k)) :
 ∃ ty mx kx rt pos af, ops[i]? = some ⟨some t, .lookup ty mx kx ok, rt, pos, af, none⟩ ∧ t < K.n ∧ K.P.underlying ty = some (.map kt et) ∧ GS.ev ⟨sl, mem⟩ mx = p ∧ GS.ev ⟨sl, mem⟩ kx = .d k := by
 obtain ⟨o, ho1, h1⟩ := opK_of h
 obtain ⟨t', hdt, ht, h2⟩ := dstK_of h1
 clear h h1
 have hoi : ops[i]? = some o := by rw [nth_eq] at ho1; rw [← ho1]; simp
 obtain ⟨dd, op, rt, pos, af, gg⟩ := o
 dsimp only at h2 hdt
 subst hdt
 split at h2
 · cases h2
 · split at h2
   · rename_i ty mx kx ok'
     split at h2
     · cases h2
     · rename_i ti hlk
       split at h2
       · rename_i kt' et' hkd
         split at h2
         · rename_i k' hk'
           rw [frc_eq] at h2
           injection h2 with h; injection h with e1 h; injection h with e2 h; injection h with e3 h; injection h with e4 h; injection h with e5 e6
           subst e1; subst e2; subst e3; subst e4; subst e5; subst e6
           exact ⟨ty, mx, kx, rt, pos, af, hoi, ht, map_of (tabB_look hT hlk) hkd, (evl_eq' sl mem mx).symm, by rw [← evl_eq' sl mem]; exact hk'⟩
         · cases h2
       · cases h2
   · cases h2
theorem gLk {b : Nat} {k : D} {ks : List D} {zp r : PV} (hT : tabB K.P T = true)
 (h : lks T ops.toList K.n i sl = some (t, ok, .mref b, kt, et, k)) (hz : zvT T et = some zp) (hm : nth mem b = some (mpc ks vs)) (L : WideMaps.KeyLaw K.P kt) (hl : vs.length = ks.length) (hit : ∀ k ∈ ks, k ≠ .nilF) (hks : ∀ k ∈ ks, KG K.P kt k) (hk : KG K.P kt k) (hno : PV.noowns vs = true)
 (hr : lkR ok (lookP k zp ks vs) (hasK k ks) = r) (hg : GF K fr (.ops ops l) Q ⟨(t, r) :: sl, mem⟩) : GF K fr (.ops ops (i :: l)) Q ⟨sl, mem⟩ := by
 obtain ⟨ty, mx, kx, rt, pos, af, h1, h2, h3, h4, h5⟩ := lks_of (mem := mem) hT h
 obtain ⟨z, h6, h7⟩ := zvT_of hT hz
 subst hr
 rw [nth_eq] at hm
 refine toO (GOps_val h1 rfl (Y_lookP ok L h3 h6 h7 h4 hm hl hit hks hno h5 hk h2) ?_)
 cases ok <;> exact ofO hg
theorem gLs {k zd : D} {kvs : List (D × D)} {zp r : PV} (hT : tabB K.P T = true)
 (h : lks T ops.toList K.n i sl = some (t, ok, .d (.map kvs), kt, et, k)) (hz : zvT T et = some zp) (hzd : zp.toD = some zd) (L : WideMaps.KeyLaw K.P kt) (hks : ∀ x ∈ kvs, KG K.P kt x.1) (hk : KG K.P kt k)
 (hr : lkR ok (.d (mgetQ k zd kvs)) (mhasQ k kvs) = r) (hg : GF K fr (.ops ops l) Q ⟨(t, r) :: sl, mem⟩) : GF K fr (.ops ops (i :: l)) Q ⟨sl, mem⟩ := by
 obtain ⟨ty, mx, kx, rt, pos, af, h1, h2, h3, h4, h5⟩ := lks_of (mem := mem) hT h
 obtain ⟨z, h6, h7⟩ := zvT_of hT hz
 subst hr
 refine toO (GOps_val h1 rfl (Y_lookG ok L h3 h6 (fun w S => (h7 w S noOwns [] []).toD _ hzd) h4 hks h5 hk h2) ?_)
 cases ok <;> exact ofO hg
def mes (T : List (Nat × TI)) (ops : List Oper) (n i : Nat) (sl : List (Nat × PV)) : Option (Nat × Bool) := opK ops i fun o => dstK n o fun t => match o.guard with
 | some _ => none
 | none => match o.op with
  | .binOp op ty x y _ => match op with
   | .eql => match y with
    | .const (.map none) => match look T ty with
     | none => none
     | some ti => match ti.kind with
      | .map _ _ => match (evl sl x).mapNil with
       | some b => some (t, b)
       | none => none
      | _ => none
    | _ => none
   | _ => none
  | _ => none
theorem gMe {b : Bool} (hT : tabB K.P T = true)
 (h : mes T ops.toList K.n i sl = some (t, b)) (hg : GF K fr (.ops ops l) Q ⟨(t, .d (.bool b)) :: sl, mem⟩) : GF K fr (.ops ops (i :: l)) Q ⟨sl, mem⟩ := by
 obtain ⟨o, ho1, h1⟩ := opK_of h
 obtain ⟨t', hdt, ht, h2⟩ := dstK_of h1
 clear h h1
 have hoi : ops[i]? = some o := by rw [nth_eq] at ho1; rw [← ho1]; simp
 obtain ⟨dd, op, rt, pos, af, gg⟩ := o
 dsimp only at h2 hdt
 subst hdt
 split at h2
 · cases h2
 · split at h2
   · rename_i bop ty x y yt
     split at h2
     · split at h2
       · split at h2
         · cases h2
         · rename_i ti hlk
           split at h2
           · rename_i kt et hkd
             split at h2
             · rename_i b' hb
               injection h2 with h; injection h with e1 e2
               subst e1; subst e2
               rw [evl_eq' sl mem] at hb
               exact toO (GOps_val hoi rfl (Yld_pure rfl ht (Q_mapeq hb (map_of (tabB_look hT hlk) hkd))) (ofO hg))
             · cases h2
           · cases h2
       · cases h2
     · cases h2
   · cases h2
theorem gFm {c : Cf} {s s' : GS} {keep : List (List PV)} {ks : List D} {ds : List D} {n : Nat} (hmem : s.mem = keep ++ [mpc ks vs]) (hn : keep.length = n) (hds : PV.toDs vs = some ds) (hl : vs.length = ks.length) (hit : ∀ k ∈ ks, k ≠ .nilF) (hm : K.m0.length ≤ n)
 (hs : GS.mk (s.slots.map fun x => (x.1, PV.frz n noF noH (.d (.map (ks.zip ds))) x.2)) (keep.map (PV.frzs n noF noH (.d (.map (ks.zip ds))))) = s') (hc : goes c = true) (hg : GF K fr c Q s') : GF K fr c Q s := by
 subst hs
 exact gLe (Le_freezeP n hmem hn hds hl hit hm) hg hc
end
section
theorem PV.ren_aux (f : Nat → Nat) (N : Nat) (hf : ∀ b, b < N → f b = b) : ∀ n, (∀ p : PV, SizeOf.sizeOf p ≤ n → PV.refsB N p = true → PV.ren f p = p) ∧ (∀ ps : List PV, SizeOf.sizeOf ps ≤ n → PV.refsBs N ps = true → PV.rens f ps = ps) := by
 intro n
 induction n with
 | zero => exact ⟨fun p hp => by cases p <;> simp at hp, fun ps hp => by cases ps <;> simp at hp⟩
 | succ n ih =>
  refine ⟨fun p hp hr => ?_, fun ps hp hr => ?_⟩
  · cases p with
    | ref b o => simp only [PV.refsB, decide_eq_true_eq] at hr; simp only [PV.ren, hf b hr]
    | rsl b o c k => simp only [PV.refsB, decide_eq_true_eq] at hr; simp only [PV.ren, hf b hr]
    | mref b => simp only [PV.refsB, decide_eq_true_eq] at hr; simp only [PV.ren, hf b hr]
    | fn g a c =>
     simp only [PV.refsB, Bool.and_eq_true] at hr
     simp only [PV.ren, ih.2 a (by simp at hp; omega) hr.1, ih.2 c (by simp at hp; omega) hr.2]
    | agg cs => simp only [PV.refsB] at hr; simp only [PV.ren, ih.2 cs (by simp at hp; omega) hr]
    | tup cs => simp only [PV.refsB] at hr; simp only [PV.ren, ih.2 cs (by simp at hp; omega) hr]
    | when b q => simp only [PV.refsB] at hr; simp only [PV.ren, ih.1 q (by simp at hp; omega) hr]
    | _ => simp only [PV.ren]
  · cases ps with
    | nil => rfl
    | cons p ps =>
     simp only [PV.refsBs, Bool.and_eq_true] at hr
     simp only [PV.rens, ih.1 p (by simp at hp; omega) hr.1, ih.2 ps (by simp at hp; omega) hr.2]
theorem PV.rens_same {f : Nat → Nat} {N : Nat} (hf : ∀ b, b < N → f b = b) {ps : List PV} (h : PV.refsBs N ps = true) : PV.rens f ps = ps := (PV.ren_aux f N hf _).2 ps (Nat.le_refl _) h
theorem PV.renid_aux (f : Nat → Nat) (hf : ∀ b, f b = b) : ∀ n, (∀ p : PV, SizeOf.sizeOf p ≤ n → PV.ren f p = p) ∧ (∀ ps : List PV, SizeOf.sizeOf ps ≤ n → PV.rens f ps = ps) := by
 intro n
 induction n with
 | zero => exact ⟨fun p hp => by cases p <;> simp at hp, fun ps hp => by cases ps <;> simp at hp⟩
 | succ n ih =>
  refine ⟨fun p hp => ?_, fun ps hp => ?_⟩
  · cases p with
    | ref b o => simp only [PV.ren, hf b]
    | rsl b o c k => simp only [PV.ren, hf b]
    | mref b => simp only [PV.ren, hf b]
    | fn g a c => simp only [PV.ren, ih.2 a (by simp at hp; omega), ih.2 c (by simp at hp; omega)]
    | agg cs => simp only [PV.ren, ih.2 cs (by simp at hp; omega)]
    | tup cs => simp only [PV.ren, ih.2 cs (by simp at hp; omega)]
    | when b q => simp only [PV.ren, ih.1 q (by simp at hp; omega)]
    | _ => simp only [PV.ren]
  · cases ps with
    | nil => rfl
    | cons p ps => simp only [PV.rens, ih.1 p (by simp at hp; omega), ih.2 ps (by simp at hp; omega)]
theorem PV.ren_id' {f : Nat → Nat} (hf : ∀ b, f b = b) (p : PV) : PV.ren f p = p := (PV.renid_aux f hf _).1 p (Nat.le_refl _)
theorem PV.rens_id' {f : Nat → Nat} (hf : ∀ b, f b = b) (ps : List PV) : PV.rens f ps = ps := (PV.renid_aux f hf _).2 ps (Nat.le_refl _)
theorem setAll_range : ∀ (n k : Nat) (mem new : List (List PV)), mem.length = k + n → new.length = n → setAll mem (List.range' k n) new = mem.take k ++ new
 | 0, k, mem, new, h, h2 => by
  have : new = [] := List.eq_nil_of_length_eq_zero h2
  subst this
  cases mem with
  | nil => simp [setAll]
  | cons c r => simp only [List.range'_zero, setAll, List.append_nil]; rw [List.take_of_length_le (by omega)]
 | n + 1, k, mem, c :: new, h, h2 => by
  rw [List.range'_succ, setAll, setAll_range n (k + 1) (mem.set k c) new (by simp; omega) (by simpa using h2)]
  rw [List.take_add_one, List.getElem?_set_self (by omega), List.take_set_of_le (Nat.le_refl k)]
  simp
 | n + 1, k, mem, [], h, h2 => by cases h2
def cms (ops : List Oper) (n i : Nat) (sl : List (Nat × PV)) : Option (Nat × FuncId × List PV) := opK ops i fun o => dstK n o fun t => match o.guard with
 | some _ => none
 | none => match o.op with
  | .call c => match c.callee with
   | .value fx => evsK sl c.args.toList fun ps => match evl sl fx with
    | .fn (.func f) a b => appK a ps fun ap => appK ap b fun all => copiesK all fun all => some (t, f, all)
    | .d (.fn (.func f) a b) => appK (a.map .d) ps fun ap => appK ap (b.map .d) fun all => copiesK all fun all => some (t, f, all)
    | _ => none
   | _ => none
  | _ => none
theorem gM {K : Ctx} {fr : List Fr} {ops : Array Oper} {Q : Exit → GS → Prop} {i t : Nat} {l : List Nat} {sl : List (Nat × PV)} {mem mem' : List (List PV)} {f : FuncId} {args : List PV} {r : PV} (h : cms ops.toList K.n i sl = some (t, f, args)) (hc : Gm K.P f args mem r mem')
 (hra : PV.refsBs mem.length args = true) (hrm : mem.all (PV.refsBs mem.length) = true) (hle : mem.length ≤ mem'.length) (hg : GF K fr (.ops ops l) Q ⟨(t, r) :: sl, mem'⟩) : GF K fr (.ops ops (i :: l)) Q ⟨sl, mem⟩ := by
 refine toO ?_
 have hg := ofO hg
 obtain ⟨o, ho1, h1⟩ := opK_of h
 obtain ⟨t', hdt, ht, h2⟩ := dstK_of h1
 clear h h1
 have hoi : ops[i]? = some o := by rw [nth_eq] at ho1; rw [← ho1]; simp
 split at h2
 · cases h2
 · rename_i hgd
   split at h2
   · rename_i c hop
     split at h2
     · rename_i fx hcal
       rw [evsK_eq] at h2
       have hs1 : ∀ b, b < mem.length → (List.range mem.length).getD b 0 = b := fun b hb => by rw [List.getD_eq_getElem?_getD, List.getElem?_range hb]; rfl
       have hs2 : ∀ b, renN (List.range mem.length) mem.length b = b := fun b => by
        unfold renN
        rw [List.length_range]
        split
        · exact hs1 b (by assumption)
        · omega
       obtain ⟨ca, ar, tys⟩ := c
       dsimp only at hcal h2
       subst hcal
       have key : ∀ (a b : List PV), (GS.ev ⟨sl, mem⟩ fx).callee' = some (f, a, b) → PV.copies (a ++ ar.toList.map (evl sl) ++ b) = args → t' = t → GOps K ops (unf K Q fr) (i :: l) ⟨sl, mem⟩ := by
        intro a b hfx hall htt
        subst htt
        obtain ⟨⟨fn, hf, hb, hn⟩, hp⟩ := hc
        refine GOps_callmn (xs := ar.toList) (List.range mem.length) args mem hoi (by simpa using hop) hdt hgd hfx ?_ List.nodup_range (fun b hb => by simpa using hb) ?_ (by rw [List.length_range]; exact hra) (by rw [List.length_range]; exact hrm) hf hb hn ht hp (fun r' m' hr => ?_)
        · rw [PV.rens_same hs1 hra, ← hall]
          congr 3
          exact List.map_congr_left fun x _ => (evl_eq' sl mem x).symm
        · apply List.ext_getElem?
          intro j
          by_cases hj : j < mem.length
          · rw [List.getElem?_map, List.getElem?_range hj, Option.map_some, List.getElem?_map, gE hj, Option.map_some, PV.rens_same hs1 (List.all_eq_true.1 hrm _ (List.getElem_mem hj)), List.getD_eq_getElem?_getD, gE hj]
            rfl
          · rw [List.getElem?_eq_none (by simp; omega), List.getElem?_eq_none (by simp; omega)]
        · obtain ⟨rfl, rfl⟩ := hr
          have e1 : PV.ren (renN (List.range mem.length) mem.length) r' = r' := PV.ren_id' hs2 r'
          have e2 : ∀ ms : List (List PV), ms.map (PV.rens (renN (List.range mem.length) mem.length)) = ms := fun ms => by
           rw [show PV.rens (renN (List.range mem.length) mem.length) = id from funext fun ps => PV.rens_id' hs2 ps, List.map_id]
          dsimp only
          rw [e1, e2, e2, List.length_range]
          rw [show setAll mem (List.range mem.length) (m'.take mem.length) = m'.take mem.length from by
           have := setAll_range mem.length 0 mem (m'.take mem.length) (by omega) (by simp; omega)
           rw [← List.range_eq_range'] at this
           simpa using this]
          rw [List.take_append_drop]
          exact hg
       split at h2
       · rename_i f' a b hfx
         rw [appK_eq, appK_eq, copiesK_eq] at h2
         injection h2 with h2; injection h2 with e1 h2; injection h2 with e2 e3
         subst e2
         rw [evl_eq' sl mem] at hfx
         exact key a b (by rw [hfx]; rfl) e3 e1
       · rename_i f' a b hfx
         rw [appK_eq, appK_eq, copiesK_eq] at h2
         injection h2 with h2; injection h2 with e1 h2; injection h2 with e2 e3
         subst e2
         rw [evl_eq' sl mem] at hfx
         exact key _ _ (by rw [hfx]; rfl) e3 e1
       · cases h2
     · cases h2
   · cases h2
theorem gmB {P : Program} {f : FuncId} {fn : Func} {c : Code} {args : List PV} {mem mem' : List (List PV)} {r : PV} {n : Nat} {rvs : List ResultVar} {slots : List (Nat × PV)} (k : Nat) (hf : P.funcs[f]? = some fn) (hn : fn.ntmps = n) (hres : fn.results = rvs.toArray)
 (h : ∀ S0 O0 w0 m0, m0.length = k → GF ⟨P, n, S0, O0, w0, m0, [], []⟩ [] (.code c) (Fin P rvs k (fun q m => q = r ∧ m = mem')) ⟨slots, mem⟩)
 (hb : fn.body = some c := by rfl) (hnm : (fn.name == "runtime.NumGoroutine") = false := by rfl) (hal : args.length ≤ n := by exact oR rfl) (hsl : (List.range args.length).zip args = slots := by rfl) (hk : mem.length = k := by rfl) : Gm P f args mem r mem' :=
 gm_body k slots hf hn hres h hb hnm hal hsl hk
end
section
structure KC (P : Program) (kt : TypeId) (kb : D → Bool) : Prop where
 law : WideMaps.KeyLaw P kt
 ok : ∀ k, kb k = true → KG P kt k ∧ k ≠ .nilF
def strB : D → Bool
 | .str s => Nat.ble s.size 140737488355328
 | _ => false
variable {kt : TypeId}
theorem strKC {P : Program} (hu : P.underlying kt = some .string) : KC P kt strB where
 law := Go.WideMaps.string_law hu
 ok k hk := by
  cases k with
  | str s =>
   have hs : s.size ≤ 140737488355328 := Nat.le_of_ble_eq_true hk
   exact ⟨⟨.string s, _, rfl, Go.WideMaps.keyOf_string_mk hu (Nat.le_trans hs (by decide))⟩, by intro h; cases h⟩
  | _ => cases hk
def repKK {β : Sort _} (k : D) (p : PV) : List D → List PV → (List PV → Option β) → Option β
 | x :: r, v :: vs, c => match x.keyQ k with
  | true => repKK k p r vs fun l => c (p :: l)
  | false => repKK k p r vs fun l => c (v :: l)
 | _, vs, c => c vs
variable {β : Sort _}
theorem repKK_eq (k : D) (p : PV) : ∀ (ks : List D) (vs : List PV) (c : List PV → Option β), repKK k p ks vs c = c (repK k p ks vs)
 | [], vs, c => by cases vs <;> rfl
 | x :: r, [], c => by rw [repKK, repK] <;> simp
 | x :: r, v :: vs, c => by
  rw [repKK, repK]
  cases x.keyQ k with
  | true => exact repKK_eq k p r vs _
  | false => exact repKK_eq k p r vs _
def putMK (mem : List (List PV)) (b : Nat) (ks : List D) (vs : List PV) (k : D) (p : PV) : Option (List (List PV)) := match hasK k ks with
 | true => repKK k p ks vs fun vs' => setK mem b (mpc ks vs') some
 | false => snocK ks k fun ks' => snocK vs p fun vs' => setK mem b (mpc ks' vs') some
variable {mem : List (List PV)} {b : Nat} {vs : List PV}
theorem putMK_of {mem' : List (List PV)} {ks : List D} {k : D} {p : PV} (h : putMK mem b ks vs k p = some mem') : mem.set b (mpc (putKs ks k) (putVs ks k vs p)) = mem' := by
 unfold putMK at h
 unfold putKs putVs
 split at h
 · rename_i hh
   rw [repKK_eq, setK_eq] at h
   injection h with h
   rw [hh]; exact h
 · rename_i hh
   rw [snocK_eq, snocK_eq, setK_eq] at h
   injection h with h
   rw [hh]; exact h
def lkK (ok : Bool) (k : D) (zp : PV) (ks : List D) (vs : List PV) : Option PV := match ok with
 | true => frc (lookP k zp ks vs) fun p => match hasK k ks with
  | true => some (.tup [p, .d (.bool true)])
  | false => some (.tup [p, .d (.bool false)])
 | false => frc (lookP k zp ks vs) some
theorem lkK_of {ok : Bool} {k : D} {zp r : PV} {ks : List D} (h : lkK ok k zp ks vs = some r) : lkR ok (lookP k zp ks vs) (hasK k ks) = r := by
 unfold lkK at h
 split at h
 · rw [frc_eq] at h
   split at h
   · rename_i hh; injection h with h; rw [hh]; exact h
   · rename_i hh; injection h with h; rw [hh]; exact h
 · rw [frc_eq] at h; injection h
variable {K : Ctx} {fr : List Fr} {Q : Exit → GS → Prop}
theorem gMuC {T : List (Nat × TI)} {ops : Array Oper} {i : Nat} {l : List Nat} {sl : List (Nat × PV)} {mem' : List (List PV)} {ks : List D} {k : D} {p : PV} {kb : D → Bool} (hT : tabB K.P T = true)
 (h : mus T ops.toList i sl = some (b, kt, k, p)) (hm : nth mem b = some (mpc ks vs)) (C : KC K.P kt kb) (hl : vs.length = ks.length) (hks : ks.all kb = true) (hk : kb k = true) (hno : p.noown = true)
 (hmem : putMK mem b ks vs k p = some mem') (hg : GF K fr (.ops ops l) Q ⟨sl, mem'⟩) : GF K fr (.ops ops (i :: l)) Q ⟨sl, mem⟩ :=
 gMu hT h hm C.law hl (fun k hk => (C.ok k (List.all_eq_true.1 hks k hk)).2) (fun k hk => (C.ok k (List.all_eq_true.1 hks k hk)).1) (C.ok k hk).1 hno (putMK_of hmem) hg
theorem gLkC {T : List (Nat × TI)} {ops : Array Oper} {i t : Nat} {l : List Nat} {sl : List (Nat × PV)} {ok : Bool} {et : TypeId} {k : D} {ks : List D} {zp r : PV} {kb : D → Bool} (hT : tabB K.P T = true)
 (h : lks T ops.toList K.n i sl = some (t, ok, .mref b, kt, et, k)) (hz : zvT T et = some zp) (hm : nth mem b = some (mpc ks vs)) (C : KC K.P kt kb) (hl : vs.length = ks.length) (hks : ks.all kb = true) (hk : kb k = true) (hno : PV.noowns vs = true)
 (hr : lkK ok k zp ks vs = some r) (hg : GF K fr (.ops ops l) Q ⟨(t, r) :: sl, mem⟩) : GF K fr (.ops ops (i :: l)) Q ⟨sl, mem⟩ :=
 gLk hT h hz hm C.law hl (fun k hk => (C.ok k (List.all_eq_true.1 hks k hk)).2) (fun k hk => (C.ok k (List.all_eq_true.1 hks k hk)).1) (C.ok k hk).1 hno (lkK_of hr) hg
theorem gct {c : Operand} {x y : Code} {s : GS} {b : Bool} (hc : evl s.slots c = .d (.bool b)) (hb : b = true) (hx : GF K fr (.code x) Q s) : GF K fr (.code (.cond c x y)) Q s := gcd hc (fun _ => hx) (fun h => by rw [h] at hb; cases hb)
theorem gcf {c : Operand} {x y : Code} {s : GS} {b : Bool} (hc : evl s.slots c = .d (.bool b)) (hb : b = false) (hy : GF K fr (.code y) Q s) : GF K fr (.code (.cond c x y)) Q s := gcd hc (fun h => by rw [h] at hb; cases hb) (fun _ => hy)
def frvK {β : Sort _} (n : Nat) (X : PV) : List PV → (List PV → Option β) → Option β
 | [], k => k []
 | p :: r, k => match p with
  | .mref b => match Nat.beq b n with
   | true => frvK n X r fun l => k (X :: l)
   | false => frvK n X r fun l => k (.mref b :: l)
  | .d x => frvK n X r fun l => k (.d x :: l)
  | .mapc kvs => frvK n X r fun l => k (.mapc kvs :: l)
  | p => frvK n X r fun l => k (PV.frz n noF noH X p :: l)
theorem frvK_eq (n : Nat) (X : PV) : ∀ (l : List PV) (k : List PV → Option β), frvK n X l k = k (PV.frzs n noF noH X l)
 | [], _ => rfl
 | p :: r, k => by
  cases p with
  | mref b =>
   rw [frvK, PV.frzs, PV.frz]
   cases hb : Nat.beq b n with
   | true => dsimp only; rw [frvK_eq n X r, if_pos (Nat.eq_of_beq_eq_true hb)]
   | false => dsimp only; rw [frvK_eq n X r, if_neg (Nat.ne_of_beq_eq_false hb)]
  | d x => rw [frvK, frvK_eq n X r, PV.frzs, PV.frz]
  | mapc kvs => rw [frvK, frvK_eq n X r, PV.frzs, PV.frz]
  | _ => unfold frvK; dsimp only; rw [frvK_eq n X r, PV.frzs]
def frmK {β : Sort _} (n : Nat) (X : PV) : List (List PV) → (List (List PV) → Option β) → Option β
 | [], k => k []
 | c :: r, k => frvK n X c fun c' => frmK n X r fun l => k (c' :: l)
theorem frmK_eq (n : Nat) (X : PV) : ∀ (l : List (List PV)) (k : List (List PV) → Option β), frmK n X l k = k (l.map (PV.frzs n noF noH X))
 | [], _ => rfl
 | c :: r, k => by rw [frmK, frvK_eq, frmK_eq n X r]; rfl
def frlK {β : Sort _} (n : Nat) (X : PV) : List (Nat × PV) → (List (Nat × PV) → Option β) → Option β
 | [], k => k []
 | (i, p) :: r, k => match p with
  | .mref b => match Nat.beq b n with
   | true => frlK n X r fun l => k ((i, X) :: l)
   | false => frlK n X r fun l => k ((i, .mref b) :: l)
  | .d x => frlK n X r fun l => k ((i, .d x) :: l)
  | .ref b o => match Nat.beq b n with
   | true => frlK n X r fun l => k ((i, .undef) :: l)
   | false => frlK n X r fun l => k ((i, .ref b o) :: l)
  | p => frc (PV.frz n noF noH X p) fun q => frlK n X r fun l => k ((i, q) :: l)
theorem frlK_eq (n : Nat) (X : PV) : ∀ (l : List (Nat × PV)) (k : List (Nat × PV) → Option β), frlK n X l k = k (l.map fun x => (x.1, PV.frz n noF noH X x.2))
 | [], _ => rfl
 | (i, p) :: r, k => by
  cases p with
  | mref b =>
   rw [frlK, List.map_cons, PV.frz]
   cases hb : Nat.beq b n with
   | true => dsimp only; rw [frlK_eq n X r, if_pos (Nat.eq_of_beq_eq_true hb)]
   | false => dsimp only; rw [frlK_eq n X r, if_neg (Nat.ne_of_beq_eq_false hb)]
  | ref b o =>
   rw [frlK, List.map_cons, PV.frz]
   cases hb : Nat.beq b n with
   | true => dsimp only; rw [frlK_eq n X r, if_pos (Nat.eq_of_beq_eq_true hb)]; rfl
   | false => dsimp only; rw [frlK_eq n X r, if_neg (Nat.ne_of_beq_eq_false hb)]
  | d x => rw [frlK, frlK_eq n X r, List.map_cons, PV.frz]
  | _ => unfold frlK; dsimp only; rw [frc_eq, frlK_eq n X r, List.map_cons]
def zipK {β : Sort _} : List D → List D → (List (D × D) → Option β) → Option β
 | a :: as, b :: bs, k => zipK as bs fun l => k ((a, b) :: l)
 | _, _, k => k []
theorem zipK_eq : ∀ (as bs : List D) (k : List (D × D) → Option β), zipK as bs k = k (as.zip bs)
 | [], _, _ => by unfold zipK; rfl
 | _ :: _, [], _ => by unfold zipK; rfl
 | a :: as, b :: bs, k => by rw [zipK, zipK_eq as bs]; rfl
def fmS (s : GS) (keep : List (List PV)) (ks : List D) (vs : List PV) : Option (Nat × GS) := lenK keep fun n => match PV.toDs vs with
 | some ds => zipK ks ds fun kvs => frlK n (.d (.map kvs)) s.slots fun sl => frmK n (.d (.map kvs)) keep fun mem => some (n, ⟨sl, mem⟩)
 | none => none
theorem gFmC {c : Cf} {sl : List (Nat × PV)} {keep : List (List PV)} {s' : GS} {ks : List D} {n : Nat} {kb : D → Bool} (hp : popK mem (fun a b => some (a, b)) = some (keep, mpc ks vs)) (hf : fmS ⟨sl, mem⟩ keep ks vs = some (n, s')) (hl : vs.length = ks.length) (hks : ks.all kb = true) (hkb : ∀ k, kb k = true → k ≠ .nilF) (hm : K.m0.length ≤ n)
 (hc : goes c = true) (hg : GF K fr c Q s') : GF K fr c Q ⟨sl, mem⟩ := by
 obtain ⟨l', z, h1, h2⟩ := popK_of hp
 injection h2 with h2; injection h2 with e1 e2
 subst e1; subst e2
 unfold fmS at hf
 rw [lenK_eq] at hf
 split at hf
 · rename_i ds hds
   rw [zipK_eq, frlK_eq, frmK_eq] at hf
   injection hf with hf; injection hf with e1 e2
   subst e1; subst e2
   exact gFm (s := ⟨sl, mem⟩) h1 rfl hds hl (fun k hk => hkb k (List.all_eq_true.1 hks k hk)) hm rfl hc hg
 · cases hf
end
section
def fgS (s : GS) : Option (Nat × GS) := popK s.mem fun keep _ => lenK keep fun n => frzK n noF s.slots fun sl => some (n, ⟨sl, keep⟩)
theorem gFg {K : Ctx} {fr : List Fr} {c : Cf} {Q : Exit → GS → Prop} {s s' : GS} {n : Nat} (h : fgS s = some (n, s')) (hk : K.m0.length ≤ n) (hrf : s'.mem.all (PV.refsBs n) = true) (hc : goes c = true) (hg : GF K fr c Q s') : GF K fr c Q s := by
 obtain ⟨keep, cs, hm, h⟩ := popK_of h
 rw [lenK_eq, frzK_eq] at h
 injection h with h; injection h with e1 e2
 subst e1; subst e2
 exact gLe (Le_forget keep.length hm rfl hk hrf) hg hc
def gsk (ops : List Oper) (n i : Nat) (sl : List (Nat × PV)) : Option (Nat × Bool) := opK ops i fun o => dstK n o fun t => gdK ops n o sl fun g => match g with
 | some g => some (t, g)
 | none => none
theorem gSk (p : PV) {K : Ctx} {fr : List Fr} {ops : Array Oper} {Q : Exit → GS → Prop} {i t : Nat} {l : List Nat} {sl : List (Nat × PV)} {mem : List (List PV)} {g : Bool} (h : gsk ops.toList K.n i sl = some (t, g)) (hgf : g = false) (hg : GF K fr (.ops ops l) Q ⟨(t, .when g p) :: sl, mem⟩) : GF K fr (.ops ops (i :: l)) Q ⟨sl, mem⟩ := by
 obtain ⟨o, ho1, h⟩ := opK_of h
 obtain ⟨t', hdt, ht, h⟩ := dstK_of h
 obtain ⟨g', h, hq⟩ := quiet_of (mem := mem) ho1 hdt ht h
 split at h
 · injection h with h; injection h with e1 e2
   subst e1; subst e2
   exact hq p _ _ (fun h => absurd (show _ = true from h) (by rw [hgf]; decide)) hg
 · cases h
end
section
def lsK (ok : Bool) (k zd : D) (kvs : List (D × D)) : Option PV := match ok with
 | true => match mhasQ k kvs with
  | true => some (.tup [.d (mgetQ k zd kvs), .d (.bool true)])
  | false => some (.tup [.d zd, .d (.bool false)])
 | false => match mgetQ k zd kvs with
  | .map l => some (.d (.map l))
  | .str l => some (.d (.str l))
  | d => some (.d d)
theorem mget_nohas {k zd : D} : ∀ {kvs : List (D × D)}, mhasQ k kvs = false → mgetQ k zd kvs = zd
 | [], _ => rfl
 | x :: r, h => by
  rw [mhasQ] at h
  rw [mgetQ]
  cases hx : x.1.keyQ k with
  | true => rw [hx] at h; cases h
  | false => rw [hx] at h; exact mget_nohas h
theorem lsK_of {ok : Bool} {k zd : D} {kvs : List (D × D)} {r : PV} (h : lsK ok k zd kvs = some r) : lkR ok (.d (mgetQ k zd kvs)) (mhasQ k kvs) = r := by
 unfold lsK at h
 split at h
 · split at h
   · rename_i hh; injection h with h; rw [hh]; exact h
   · rename_i hh; injection h with h; rw [hh, mget_nohas hh]; exact h
 · split at h
   all_goals exact Option.some.inj (by simp_all [lkR])
variable {K : Ctx} {mem : List (List PV)}
theorem gLsC {T : List (Nat × TI)} {fr : List Fr} {ops : Array Oper} {Q : Exit → GS → Prop} {i t : Nat} {l : List Nat} {sl : List (Nat × PV)} {ok : Bool} {kt et : TypeId} {k zd : D} {kvs : List (D × D)} {zp r : PV} {kb : D → Bool} (hT : tabB K.P T = true)
 (h : lks T ops.toList K.n i sl = some (t, ok, .d (.map kvs), kt, et, k)) (hz : zvT T et = some zp) (hzd : zp.toD = some zd) (C : KC K.P kt kb) (hks : kvs.all (fun x => kb x.1) = true) (hk : kb k = true)
 (hr : lsK ok k zd kvs = some r) (hg : GF K fr (.ops ops l) Q ⟨(t, r) :: sl, mem⟩) : GF K fr (.ops ops (i :: l)) Q ⟨sl, mem⟩ :=
 gLs hT h hz hzd C.law (fun x hx => (C.ok x.1 (List.all_eq_true.1 hks x hx)).1) (C.ok k hk).1 (lsK_of hr) hg
variable {P : Program} {mem' : List (List PV)} {out : PV ⊕ Value} {rvs : List ResultVar}
theorem xmB {f : FuncId} {fn : Func} {c : Code} {args : List PV} {n : Nat} {slots : List (Nat × PV)} (k : Nat) (hf : P.funcs[f]? = some fn) (hn : fn.ntmps = n) (hres : fn.results = rvs.toArray)
 (h : ∀ S0 O0 w0 m0, m0.length = k → GF ⟨P, n, S0, O0, w0, m0, [], []⟩ [] (.code c) (FinX P rvs k (fun q m => out = .inl q ∧ m = mem') (fun v m => out = .inr v ∧ m = mem')) ⟨slots, mem⟩)
 (hb : fn.body = some c := by rfl) (hnm : (fn.name == "runtime.NumGoroutine") = false := by rfl) (hal : args.length ≤ n := by exact oR rfl) (hsl : (List.range args.length).zip args = slots := by rfl) (hk : mem.length = k := by rfl) : Xm P f args mem out mem' :=
 ⟨⟨fn, hf, by rw [hb]; rfl, hnm⟩, gx_body n rvs slots k hf hb hn hal hres hsl hk h⟩
theorem gEndXM {T : List (Nat × TI)} {sl : List (Nat × PV)} {e : Exit} {k : Nat} {q : PV} {RX : Value → List (List PV) → Prop} (hT : tabB P T = true) (h : endK T sl mem rvs e = some q) (hr : out = .inl q) (hm : MSub mem'.length mem mem') (hb : PV.refsB mem'.length q = true) (hn : k ≤ mem'.length) :
 GF K [] (.leave e) (FinX P rvs k (fun q m => out = .inl q ∧ m = mem') RX) ⟨sl, mem⟩ := by
 have he : endE e = true := by
  unfold endK at h
  split at h
  · assumption
  · cases h
 refine toL (finX_of he ?_)
 exact gEndM (K := K) (R := fun q m => out = .inl q ∧ m = mem') hT h hb hn hm ⟨hr, rfl⟩
theorem gPanM {sl : List (Nat × PV)} {k : Nat} {v : Value} {R : PV → List (List PV) → Prop} (hr : out = .inr v) (hm : MSub mem'.length mem mem') (hn : k ≤ mem'.length) :
 GF K [] (.leave (.panic (chain1 v))) (FinX P rvs k R (fun v m => out = .inr v ∧ m = mem')) ⟨sl, mem⟩ := toL ⟨v, mem', rfl, hn, hm, hr, rfl⟩
end
section
mutual
/-- Data without an address. -/
def flatB : D → Bool
 | .int _ _ => true
 | .bool _ => true
 | .str _ => true
 | .agg cs => flatsB cs
 | .sl [] => true
 | _ => false
def flatsB : List D → Bool
 | [] => true
 | d :: r => flatB d && flatsB r
end
theorem flatsB_get : ∀ {cs : List D}, flatsB cs = true → ∀ {i : Nat} {d : D}, cs[i]? = some d → flatB d = true
 | [], _, i, d, hd => by simp at hd
 | c :: r, h, i, d, hd => by
  rw [flatsB, Bool.and_eq_true] at h
  cases i with
  | zero => simp at hd; subst hd; exact h.1
  | succ i => exact flatsB_get h.2 (by simpa using hd)
theorem Rd.flat {w w' : World} {S S' : Reg} {d : D} {v : Value} (h : Rd w S d v) : flatB d = true → Rd w' S' d v := by
 induction h with
 | int k n => exact fun _ => .int k n
 | bool b => exact fun _ => .bool b
 | str s => exact fun _ => .str s
 | agg cs vs hl ho h ih => intro hf; rw [flatB] at hf; exact .agg cs vs hl ho fun i d v hd hv => ih i d v hd hv (flatsB_get hf hd)
 | sl xs a cap k hcap hlim hk hn _ _ _ =>
  intro hf
  cases xs with
  | nil => exact .sl [] a cap k hcap hlim hk hn (fun _ _ i x j y hx => by simp at hx) (fun _ i x j y v _ hx => by simp at hx)
  | cons x r => simp [flatB] at hf
 | _ => intro hf; simp [flatB] at hf
def swp (n b : Nat) : Nat := if b = 0 then n else if b = n then 0 else b
theorem swp_swp (n b : Nat) : swp n (swp n b) = b := by
 unfold swp
 split <;> split <;> simp_all
theorem swp_lt {n L b : Nat} (hn : n < L) (hb : b < L) : swp n b < L := by
 unfold swp
 split
 · exact hn
 · split <;> omega
def lab (n : Nat) : List Nat → List Nat
 | [i, 1] => [swp n i, 1]
 | l => l
theorem lab_len {n : Nat} {l : List Nat} (h : l.length ≠ 2) : lab n l = l := by
 unfold lab
 split
 · simp at h
 · rfl
theorem lab_slot (n i : Nat) : ∀ q : List Nat, lab n (q ++ [i, 0]) = q ++ [i, 0]
 | [] => rfl
 | [a] => lab_len (by simp)
 | a :: b :: q => lab_len (by simp)
theorem Le_swap {K : Ctx} {s : GS} (n : Nat) {mem' : List (List PV)} (hk : K.m0.length = 0) (hn : n < s.mem.length) (hl : mem'.length = s.mem.length) (hno : s.mem.all PV.noowns = true)
 (hmm : ∀ i cs, mem'[i]? = some cs → ∃ cs0, s.mem[swp n i]? = some cs0 ∧ cs = PV.rens (swp n) cs0) : Le K s ⟨s.slots.map fun x => (x.1, x.2.ren (swp n)), mem'⟩ := by
 rintro a w ⟨S, O, m, h⟩
 have he := h.env
 have hml := he.mlen
 have hm1 : ∀ b r : Nat, m[b]? = some r → ((List.range m.length).map fun k => m.getD (swp n k) 0)[swp n b]? = some r := fun b r hb => by
  have hlt := (lG hb)
  have h2 : swp n b < m.length := swp_lt (by omega) hlt
  rw [List.getElem?_map, List.getElem?_range h2, Option.map_some, swp_swp, List.getD_eq_getElem?_getD, hb]; rfl
 have hm2 : ∀ b r : Nat, ((List.range m.length).map fun k => m.getD (swp n k) 0)[b]? = some r → m[swp n b]? = some r := fun b r hb => by
  have hlt : b < m.length := by have := (lG hb); simpa using this
  have h2 : swp n b < m.length := swp_lt (by omega) hlt
  rw [List.getElem?_map, List.getElem?_range hlt, Option.map_some, List.getD_eq_getElem?_getD, gE h2] at hb
  rw [gE h2]; exact hb
 refine ⟨S, reo O (lab n), (List.range m.length).map fun k => m.getD (swp n k) 0, ⟨⟨he.ext, he.old, he.part, he.s0, he.snew, fun k o l t hS hO => ?_, he.slt, fun k l t hO => ?_, fun k l t hO => ?_, by simp [hl, hml], fun i cs r hi hr hne' => ?_⟩, h.defers, h.size, ?_, fun i p hp => ?_⟩⟩
 · obtain ⟨l0, h1, _⟩ := reo_some hO; exact he.sown k o l0 t hS h1
 · obtain ⟨l0, h1, _⟩ := reo_some hO; exact he.olt k l0 t h1
 · obtain ⟨l0, h1, _⟩ := reo_some hO; exact he.onew k l0 t h1
 · obtain ⟨cs0, hc0, rfl⟩ := hmm i cs hi
   obtain ⟨g1, g2⟩ := he.mem (swp n i) cs0 r hc0 (hm2 i r hr) (by rintro rfl; exact hne' rfl)
   refine ⟨by rw [reo_of g1]; show some ([swp n (swp n i), 1], 0) = _; rw [swp_swp], g2.to rfl (Ext.refl S w) (fun _ _ h => h) (by rw [PV.rens_map, List.length_map]) (fun j p' hp => ?_) (fun p p' h0 h1 hs => ?_)⟩
   · rw [PV.rens_get] at hp
     cases hq : cs0[j]? with
     | none => simp [hq] at hp
     | some q =>
      simp only [hq, Option.map_some, Option.some.injEq] at hp
      subst hp
      exact ⟨q, rfl, fun v hv => (hv.any (PV.noowns_get (List.all_eq_true.1 hno cs0 (mG hc0)) hq) _ _).ren (swp n) hm1⟩
   · rw [PV.rens_get, h0] at h1
     simp only [Option.map_some, Option.some.injEq] at h1
     subst h1
     exact .inl (by cases p <;> first | (simp only [PV.ren]; done) | cases hs)
 · rw [List.eq_nil_of_length_eq_zero hk]; exact List.nil_prefix
 · have hp' : (s.slots.lookup i).map (PV.ren (swp n)) = some p := by rw [← lookup_map]; exact hp
   cases hq : s.slots.lookup i with
   | none => simp [hq] at hp'
   | some q =>
    simp only [hq, Option.map_some, Option.some.injEq] at hp'
    subst hp'
    exact ((h.slots i q hq).frame [i, 0] (Ext.refl S w) (fun _ _ h => h) (fun b t q' hO => by rw [reo_of hO, lab_slot]) (fun _ _ h => h)).ren (swp n) hm1
theorem lookup_all {sl : List (Nat × PV)} {f : PV → Bool} (h : sl.all (fun x => f x.2) = true) {i : Nat} {p : PV} (hp : sl.lookup i = some p) : f p = true := by
 induction sl with
 | nil => cases hp
 | cons x r ih =>
  rw [List.all_cons, Bool.and_eq_true] at h
  rw [List.lookup_cons] at hp
  split at hp
  · injection hp with hp; subst hp; exact h.1
  · exact ih h.2 hp
theorem wp_put {P : Program} {o : Oper} {a : Act} {w : World} {next next' : Act → World → Prop} {Q Q' : Exit → Act → World → Prop} (h : o.wp P a w next Q) (hQ : ∀ e a' w', e ≠ .normal → ¬ Q e a' w') (hL : ¬ LetsOut Q)
 (hn : ∀ v w', next (a.put o.dst v) w' → next' (a.put o.dst v) w') (hd : ∀ d w', ¬ next ({ a with defers := d :: a.defers }.put o.dst undef) w') : o.wp P a w next' Q' := by
 unfold Oper.wp at *
 generalize (execOp a.eval o).run P w = r at *
 cases r with
 | ok n w' =>
  cases n <;> simp only [Oper.upon] at h ⊢ <;>
   first
    | exact hn _ _ h
    | exact absurd h (hd _ _)
    | exact Calls.mono h (fun e w'' he => by cases e <;> first | exact hn _ _ he | exact absurd he (hQ _ _ _ (by intro h; cases h)) | exact absurd he hL)
    | exact Rows.mono h (fun _ _ he => hn _ _ he)
 | halt x w' => cases x <;> simp only [Oper.upon] at h ⊢ <;> first | exact absurd h (hQ _ _ _ (by intro h; cases h)) | exact absurd h hL | exact h
theorem gBor {K : Ctx} {fr : List Fr} {ops : Array Oper} {Q : Exit → GS → Prop} {i t : Nat} {l : List Nat} {sl sl1 : List (Nat × PV)} {mem : List (List PV)} {f : FuncId} {args : List PV} {b b' r : D} (x k : Nat)
 (hle : Le K ⟨sl, mem⟩ ⟨sl1, [[.d b]]⟩) (hno : sl1.all (fun x => x.2.noown) = true) (hx1 : (GS.mk sl1 [[.d b]]).get x = some (.ref 0 0)) (hx : (GS.mk sl mem).get x = some (.ref k 0)) (hk : mem[k]? = some [.d b])
 (hfr : flatB r = true) (hfb : flatB b' = true) (h : cms ops.toList K.n i sl1 = some (t, f, args)) (hc : Gm K.P f args [[.d b]] (.d r) [[.d b']]) (hra : PV.refsBs 1 args = true)
 (hg : GF K fr (.ops ops l) Q ⟨(t, .d r) :: sl, mem.set k [.d b']⟩) : GF K fr (.ops ops (i :: l)) Q ⟨sl, mem⟩ := by
 refine toO ?_
 have hg := ofO hg
 rintro a w hat
 obtain ⟨S1, O1, m1, hr1⟩ := hle a w hat
 obtain ⟨S, O, m, hr⟩ := hat
 obtain ⟨r0, hm10, hm0⟩ : ∃ r0, m1[0]? = some r0 ∧ m[k]? = some r0 := by
  have hv1 := hr1.slots x _ hx1
  have hv := hr.slots x _ hx
  generalize a.tmps.getD x undef = v at hv1 hv
  cases hv1 with | ref _ _ _ r0 h10 =>
  cases hv with | ref _ _ _ _ hk0 => exact ⟨r0, h10, hk0⟩
 have hO1 := (hr1.env.mem 0 [.d b] r0 rfl hm10 (by simp)).1
 have hB1 := (hr1.env.mem 0 [.d b] r0 rfl hm10 (by simp)).2
 have hO := (hr.env.mem k [.d b] r0 hk hm0 (by simp)).1
 have hRep : Rep ⟨K.P, K.n, S1, fun b => if b = r0 then some ([0, 1], 0) else none, w, m1, K.Bs, K.ds⟩ S1 (fun b => if b = r0 then some ([0, 1], 0) else none) m1 ⟨sl1, [[.d b]]⟩ a w := by
  refine ⟨⟨Ext.refl S1 w, fun _ _ _ => rfl, fun _ _ _ _ _ _ _ => rfl, fun _ _ h => h, fun _ _ h => .inl h, fun b o l t hS hO => ?_, hr1.env.slt, fun b l t hO => ?_, fun b l t hO => .inr ⟨l, t, hO, Nat.le_refl _⟩, hr1.env.mlen, fun i cs r hi hr hne => ?_⟩, hr1.defers, hr1.size, List.prefix_refl _, fun i p hp => (hr1.slots i p hp).any (lookup_all hno hp) _ _⟩
  · split at hO
    · rename_i hb; injection hO with hO; injection hO with e1 e2; subst e1; subst e2; subst hb; exact hr1.env.sown _ o _ _ hS hO1
    · cases hO
  · split at hO
    · rename_i hb; subst hb; exact hr1.env.olt _ _ _ hO1
    · cases hO
  · have hi0 : i = 0 := by have := (lG hi); simpa using this
    subst hi0
    rw [hm10] at hr
    injection hr with hr
    subst hr
    injection hi with hi
    subst hi
    refine ⟨if_pos rfl, ?_⟩
    obtain ⟨vs, el, h1, h2, h3, h4⟩ := hB1.cells rfl
    exact .inl ⟨vs, el, h1, h2, h3, fun j p v hp hv => (h4 j p v hp hv).any (by
     have hj : j = 0 := by have := (lG hp); simpa using this
     subst hj; injection hp with hp; subst hp; rfl) _ _⟩
 have hstep : GOps ⟨K.P, K.n, S1, fun b => if b = r0 then some ([0, 1], 0) else none, w, m1, K.Bs, K.ds⟩ ops (fun e s' => e = .normal ∧ s' = ⟨(t, .d r) :: sl1, [[.d b']]⟩) [i] ⟨sl1, [[.d b]]⟩ :=
  ofO (fr := []) (gM (fr := []) h hc hra (by rfl) (Nat.le_refl _) (toO (fr := []) (gN ⟨rfl, rfl⟩)))
 have h2 := hstep a w ⟨S1, _, m1, hRep⟩
 obtain ⟨o, ho1, h3⟩ := opK_of h
 obtain ⟨t', hdt, ht, h3⟩ := dstK_of h3
 have hoi : ops[i]? = some o := by rw [nth_eq] at ho1; rw [← ho1]; simp
 have hgd : o.guard = none ∧ t' = t := by
  split at h3
  · cases h3
  · rename_i hgd
    refine ⟨hgd, ?_⟩
    split at h3
    · split at h3
      · rw [evsK_eq] at h3
        split at h3
        · rw [appK_eq, appK_eq, copiesK_eq] at h3; injection h3 with h3; injection h3 with h3 _
        · rw [appK_eq, appK_eq, copiesK_eq] at h3; injection h3 with h3; injection h3 with h3 _
        · cases h3
      · cases h3
    · cases h3
 obtain ⟨hgd, rfl⟩ := hgd
 simp only [wpOps, hoi, Region.wanted, hgd, if_true] at h2 ⊢
 rcases h2 with h2 | ⟨_, h2⟩
 · refine .inl (wp_put h2 (fun e a' w' he hq => ?_) (fun hq => ?_) (fun v w' hq => ?_) (fun d w' hq => ?_))
   · obtain ⟨_, ⟨h5, _⟩, _⟩ := hq; exact he h5
   · obtain ⟨_, _, _, ⟨h5, _⟩, _⟩ := hq; cases h5
   · obtain ⟨_, ⟨_, rfl⟩, S', O', m', hR⟩ := hq
     refine hg _ _ ⟨S, O, m, ?_⟩
     have he := hR.env
     have hm' : m'[0]? = some r0 := by
      obtain ⟨z, hz⟩ := hR.pre
      rw [← hz]
      exact (List.getElem?_append_left (lG hm10)).trans hm10
     have hold : ∀ b, b < w.heap.size → b ≠ r0 → w'.heap[b]? = w.heap[b]? := fun b hb hne => he.old b hb (if_neg hne)
     have hnS : ∀ o, ¬ S r0 o := fun o hS => absurd (hr.env.sown r0 o _ _ hS hO) (Nat.not_lt_zero _)
     have hE : Ext S w w' := ⟨he.ext.size, he.ext.shape, fun b o hS => by
      have hne : b ≠ r0 := by rintro rfl; exact hnS o hS
      simp only [World.cell?, hold b (hr.env.slt b o hS) hne], fun b es c hS hh => by
      have hne : b ≠ r0 := by rintro rfl; exact hnS 0 hS
      rw [hold b (hr.env.slt b 0 hS) hne]; exact hh, he.ext.os, he.ext.tape, he.ext.output⟩
     have hsz0 := hr.env.ext.size
     refine ⟨⟨hr.env.ext.trans hE hr.env.s0, fun b hb h0 => ?_, fun b l t o hb h0 hot => ?_, hr.env.s0, hr.env.snew, hr.env.sown, fun b o hS => Nat.lt_of_lt_of_le (hr.env.slt b o hS) hE.size, fun b l t h0 => Nat.lt_of_lt_of_le (hr.env.olt b l t h0) hE.size, hr.env.onew, by rw [List.length_set]; exact hr.env.mlen, fun j cs r' hj hr' hne' => ?_⟩, hR.defers, hR.size, hr.pre, fun j p hp => ?_⟩
     · have hne : b ≠ r0 := by
        rintro rfl
        rcases hr.env.onew _ _ _ hO with h6 | ⟨l0, t0, h6, _⟩
        · omega
        · rw [h6] at h0; cases h0
       exact (hold b (by omega) hne).trans (hr.env.old b hb h0)
     · have hne : b ≠ r0 := by
        rintro rfl
        rcases hr.env.onew _ _ _ hO with h6 | ⟨l0, t0, h6, h7⟩
        · omega
        · rw [h6] at h0; injection h0 with h0; injection h0 with _ h0; omega
       have h8 := hr.env.part b l t o hb h0 hot
       simp only [World.cell?, hold b (by omega) hne] at h8 ⊢
       exact h8
     · by_cases hjk : j = k
       · subst hjk
         have hlt := (lG hk)
         rw [List.getElem?_set_self hlt] at hj
         injection hj with hj; subst hj
         rw [hm0] at hr'; injection hr' with hr'; subst hr'
         refine ⟨hO, ?_⟩
         obtain ⟨vs, el, g1, g2, g3, g4⟩ := ((he.mem 0 [.d b'] _ rfl hm' (by simp)).2).cells rfl
         refine .inl ⟨vs, el, g1, g2, g3, fun z p v hp hv => ?_⟩
         have hz : z = 0 := by have := (lG hp); simpa using this
         subst hz
         have hv := g4 0 p v hp hv
         injection hp with hp; subst hp
         cases hv with | d _ _ _ hv => exact .d _ _ _ (hv.flat hfb)
       · rw [List.getElem?_set_ne (Ne.symm hjk)] at hj
         obtain ⟨g1, g2⟩ := hr.env.mem j cs r' hj hr' hne'
         have hne : r' ≠ r0 := by
          rintro rfl
          rw [hO] at g1
          injection g1 with g1; injection g1 with g1 _; injection g1 with g1 _
          exact hjk g1.symm
         exact ⟨g1, g2.frame (hold r' (hr.env.olt _ _ _ g1) hne) hE (fun _ _ h => h) (fun _ _ _ _ h => h) (fun _ _ h => h)⟩
     · have hp0 : List.lookup j ((t', PV.d r) :: sl) = some p := hp
       rw [List.lookup_cons] at hp0
       have hta : t' < a.tmps.size := by rw [hr.size]; exact ht
       split at hp0
       · rename_i hjt
         injection hp0 with hp0; subst hp0
         obtain rfl : j = t' := by simpa using hjt
         have h9 := hR.slots j (.d r) (by simp [GS.get, List.lookup_cons])
         cases h9 with | d _ _ _ h9 => exact .d _ _ _ (h9.flat hfr)
       · rename_i hjt
         have hjt' : t' ≠ j := by rintro rfl; simp at hjt
         have h9 := (hr.slots j p hp0).ext hE (fun _ _ h => h) (fun _ _ _ h => h) (fun _ _ h => h)
         have h10 : (a.put o.dst v).tmps.getD j undef = a.tmps.getD j undef := by
          rw [hdt]
          simp only [Act.put, Array.getD_eq_getD_getElem?]
          rw [Array.getElem?_setIfInBounds_ne hjt']
         rw [h10]; exact h9
   · obtain ⟨_, ⟨_, rfl⟩, S', O', m', hR⟩ := hq
     have h5 := hR.defers
     have h6 := hr.defers
     rw [hdt] at h5
     simp only [Act.put] at h5
     rw [← h6] at h5
     have h7 := congrArg List.length h5
     simp at h7
 · obtain ⟨_, _, _, ⟨h5, _⟩, _⟩ := h2; cases h5
end
section
def ixv (ops : List Oper) (n i : Nat) (sl : List (Nat × PV)) : Option (Nat × TypeId × List D × Int) := opK ops i fun o => dstK n o fun t => match o.guard with
 | some _ => none
 | none => match o.op with
  | .index ty x ix => match evl sl x with
   | .d (.agg ds) => match evl sl ix with
    | .d (.int _ j) => some (t, ty, ds, j)
    | _ => none
   | _ => none
  | _ => none
theorem gIx {K : Ctx} {fr : List Fr} {ops : Array Oper} {Q : Exit → GS → Prop} {i t len : Nat} {ty e : TypeId} {td : TypeDesc} {l : List Nat} {sl : List (Nat × PV)} {mem : List (List PV)} {ds : List D} {j : Int} {d : D}
 (h : ixv ops.toList K.n i sl = some (t, ty, ds, j)) (hu : K.P.underlying ty = some (.array len e)) (hz : (K.P.info? e).map (·.size) = some 1) (he : K.P.underlying e = some td) (hl : leafT td = true) (h0 : 0 ≤ j) (h1 : j < len) (hd : ds[j.toNat]? = some d)
 (hg : GF K fr (.ops ops l) Q ⟨(t, .d d) :: sl, mem⟩) : GF K fr (.ops ops (i :: l)) Q ⟨sl, mem⟩ := by
 obtain ⟨o, ho1, h⟩ := opK_of h
 obtain ⟨t', hdt, ht, h⟩ := dstK_of h
 have hoi : ops[i]? = some o := by rw [nth_eq] at ho1; rw [← ho1]; simp
 split at h
 · cases h
 · rename_i hgd
   split at h
   · rename_i ty' x ix hop
     split at h
     · rename_i ds' hx
       split at h
       · rename_i k j' hj
         injection h with h; injection h with e1 h; injection h with e2 h; injection h with e3 e4
         subst e1; subst e2; subst e3; subst e4
         have hx' : (GS.mk sl mem).ev x = .d (.agg ds') := by rw [← hx]; exact (evl_eq' sl mem x).symm
         have hj' : (GS.mk sl mem).ev ix = .d (.int k j') := by rw [← hj]; exact (evl_eq' sl mem ix).symm
         refine toO (GOps_val hoi hgd (Yld_now hdt ht (p := .d d) fun S O m a w hr => ?_) (ofO hg))
         have hri := rd_int (hr.evd hj')
         have hrx := hr.evd hx'
         generalize hv : a.eval x = v at hrx
         cases hrx with
         | agg _ vs hsz ho hh =>
          have hlt : j'.toNat < vs.size := by rw [hsz]; exact (lG hd)
          refine ⟨vs[j'.toNat], ?_, .d _ _ _ (hh _ _ _ hd (Array.getElem?_eq_getElem hlt))⟩
          obtain ⟨ti, hti, hts⟩ : ∃ ti, K.P.info? e = some ti ∧ ti.size = 1 := by
           cases hq : K.P.info? e with
           | none => simp [hq] at hz
           | some ti => exact ⟨ti, rfl, by simpa [hq] using hz⟩
          simp only [execOp, hop, hv, hri]
          simp [Instr.index, asIntOf, run_underlying hu, h0, h1, sizeOf, typeInfo, hti, hts, part, run_isAgg he, hl, Array.getElem?_eq_getElem hlt]
       · cases h
     · cases h
   · cases h
end
end Go.Proofs.Ytklkbfpjimeaoaa.E
