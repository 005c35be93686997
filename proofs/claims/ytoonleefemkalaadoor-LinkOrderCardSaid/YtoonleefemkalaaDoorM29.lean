import Derived.Test.YtoonleefemkalaaDoorM28
/- Contracts of functions. Conditions: none. -/
set_option linter.unusedSimpArgs false
set_option linter.unusedVariables false
set_option maxRecDepth 20000
namespace Go.Proofs.YtoonleefemkalaaDoor
open Go Go.Proofs.YtoonleefemkalaaDoor.E
section
theorem c21F (c : Ch) (k : Int) (b : Bool) (ix at_ : Int) (hc : c.Few) : ActP c k b ix at_ (actS c k b ix at_) := by
 cases hk : chkC c with
 | true =>
  unfold actS
  rw [if_pos hk]
  exact Pf.L (c21e1 c k b ix at_ hc hk)
 | false => exact c21 c k b ix at_ (sm_of hc hk)
theorem actS_fewF {c : Ch} (hc : c.Few) (k : Int) (b : Bool) (ix at_ : Int) : (actS c k b ix at_).1.Few := by
 cases hk : chkC c with
 | true =>
  unfold actS
  rw [if_pos hk]
  exact ⟨Nat.zero_le _, Nat.zero_le _, Nat.zero_le _, Nat.zero_le _, Nat.zero_le _, Nat.zero_le _⟩
 | false => exact actS_few (sm_of hc hk) k b ix at_
def playF : List Ac → Ch × Int → Ch × Int
 | [], s => s
 | a :: r, s => playF r (if (actS s.1 a.k a.b a.ix a.at_).2 = 0 then ((actS s.1 a.k a.b a.ix a.at_).1, IntKind.i64.wrap (s.2 + 1)) else s)
def playS (c : Ch) (l : List Ac) : Ch × Int := if chkC c = true then (zeroC, 0) else playF l (c, 0)
def playE (c : Ch) : Int := if chkC c = true then 331 else 0
set_option maxRecDepth 100000 in
theorem c28 (c : Ch) (l : List Ac) (hc : c.Few) (hl : l.length ≤ 1000000) : PL 28 [c.d, .sl (aD l)] (.tup [.d (playS c l).1.d, .d (.int .i64 (playS c l).2), .d (.int .i64 (playE c))]) := by
 have hc' := hc
 obtain ⟨h0, h1, h2, h3, h4, h5⟩ := hc'
 have q16 := c16 c (by omega) (by omega) (by omega) (by omega) (by omega) (by omega)
 have q40 := c40 c hc
 unfold playS playE
 cases hk : chkC c with
 | true =>
  rw [if_pos hk] at q16
  rw [if_pos rfl, if_pos rfl]
  unfold Ch.d at q16 ⊢
  refine plB Tryd.func28 Tryd.ntmps28 Tryd.results28 (fun S0 O0 w0 m0 hL hm0 => ?_)
  repeat' first | refine st (by exact rfl) ?_ | refine cl (by exact rfl) q16 ?_ | fail
  refine ct (by exact rfl) ?_ rfl
  repeat' first | refine st (by exact rfl) ?_ | fail
  exact en (by exact rfl) rfl
 | false =>
 rw [if_neg (by rw [hk]; decide)] at q16
 rw [if_neg (by decide), if_neg (by decide)]
 generalize hF : playF l (c, 0) = F
 unfold Ch.d at q16 q40 ⊢
 refine plB Tryd.func28 Tryd.ntmps28 Tryd.results28 (fun S0 O0 w0 m0 hL hm0 => ?_)
 repeat' first | refine st (by exact rfl) ?_ | refine cl (by exact rfl) q16 ?_ | fail
 refine cf (by exact rfl) ?_ rfl
 repeat' first | refine st (by exact rfl) ?_ | fail
 refine cn (by exact rfl) q40 (r' := .agg (ChA c p0 5 6 7 8 9 10)) (mem' := (chD c :: zcel :: unk 10 :: unk 10 :: unk 5 :: ChR c p0)) ?_ rfl (by rw [List.map_append, ChR_rens]; rfl)
 refine st (by exact rfl) ?_
 refine kp [(1, .d (.sl (aD l))), (2, .ref 0 0), (4, .ref 1 0), (5, .d (.int .i64 0)), (6, .d (.int .i64 0))] ⟨rfl, rfl, rfl, rfl, rfl, trivial⟩ ?_
 refine (show GF _ _ _ _ ⟨_, ChA c p0 5 6 7 8 9 10 :: zcel :: unk 10 :: unk 10 :: unk 5 :: ChR c p0⟩ from ?_)
 refine gChD4 p0_ok ?_ (by show m0.length ≤ 5; omega)
 repeat' first | refine st (by exact rfl) ?_ | fail
 refine gLo (fun x : Nat × Ch × Int => ⟨[(2, .ref 0 0), (4, .ref 1 0), (5, .d (.int .i64 0)), (6, .d (.int .i64 0)), (8, .d (.int .i64 x.2.2)), (21, .d (.sl (aD l))), (22, .d (.int .i64 ((aD l).length : Int))), (23, .d (.int .i64 (x.1 : Int)))], [chD x.2.1, zcel]⟩) (fun x => l.length - x.1) (fun x => x.1 ≤ l.length ∧ x.2.1.Few ∧ playF (l.drop x.1) x.2 = F) (0, c, 0) ⟨Nat.zero_le _, hc, hF⟩ ?_ (fun x hx Q' hn he hr hp => ?_)
 · exact Le_0 hm0 (.cons CSa (.cons CSa .nil)) SSa
 obtain ⟨z, c2, n⟩ := x
 obtain ⟨hz, hf2, hF2⟩ : z ≤ l.length ∧ c2.Few ∧ playF (l.drop z) (c2, n) = F := hx
 refine (show GF _ _ _ _ ⟨[(2, .ref 0 0), (4, .ref 1 0), (5, .d (.int .i64 0)), (6, .d (.int .i64 0)), (8, .d (.int .i64 n)), (21, .d (.sl (aD l))), (22, .d (.int .i64 ((aD l).length : Int))), (23, .d (.int .i64 (z : Int)))], [chD c2, zcel]⟩ from ?_)
 repeat' first | refine st (by exact rfl) ?_ | fail
 refine cd (by exact rfl) (fun hb => ?_) (fun hb => ?_)
 · have hlt : z < l.length := by have := oR hb; rw [aD_len] at this; omega
   obtain ⟨a, hga⟩ : ∃ a, l[z]? = some a := ⟨_, gE hlt⟩
   have hpa := aD_get hga
   rw [drop_get hga] at hF2
   have q21 : PL 21 [c2.d, acD a.k a.b a.ix a.at_] (.tup ([(actS c2 a.k a.b a.ix a.at_).1.d, D.int .i64 (actS c2 a.k a.b a.ix a.at_).2].map .d)) := c21F c2 a.k a.b a.ix a.at_ hf2
   have hf3 := actS_fewF hf2 a.k a.b a.ix a.at_
   unfold playF at hF2
   dsimp only at hF2
   unfold acD at q21
   generalize (actS c2 a.k a.b a.ix a.at_).1 = c3 at q21 hf3 hF2
   generalize (actS c2 a.k a.b a.ix a.at_).2 = e3 at q21 hF2
   unfold Ch.d at q21
   repeat' first | refine st (by exact rfl) ?_ | refine el (by exact rfl) hpa ?_ | refine clL hL (by exact rfl) q21 ?_ | fail
   refine cd (by exact rfl) (fun hb => ?_) (fun hb => ?_)
   · have he3 : e3 = 0 := by simpa using hb
     rw [if_pos he3] at hF2
     repeat' first | refine st (by exact rfl) ?_ | fail
     rw [show IntKind.i64.wrap ((z : Int) + 1) = ((z + 1 : Nat) : Int) by rw [wrap_i64 (by omega) (by omega)]; rfl]
     exact toL (hn _ (z + 1, c3, IntKind.i64.wrap (n + 1)) ⟨hlt, hf3, hF2⟩ (by dsimp only; omega) (Le_0 hm0 (.cons CSa (.cons CSa .nil)) SSa))
   · have he3 : ¬ e3 = 0 := by simpa using hb
     rw [if_neg he3] at hF2
     repeat' first | refine st (by exact rfl) ?_ | fail
     rw [show IntKind.i64.wrap ((z : Int) + 1) = ((z + 1 : Nat) : Int) by rw [wrap_i64 (by omega) (by omega)]; rfl]
     exact toL (hn _ (z + 1, c2, n) ⟨hlt, hf2, hF2⟩ (by dsimp only; omega) (Le_0 hm0 (.cons CSa (.cons CSa .nil)) SSa))
 · have hle : l.length ≤ z := by have := of_decide_eq_false hb; rw [aD_len] at this; omega
   rw [List.drop_eq_nil_of_le hle, playF] at hF2
   subst hF2
   repeat' first | refine st (by exact rfl) ?_ | fail
   refine Z17 ?_
   repeat' first | refine st (by exact rfl) ?_ | fail
   exact en (by exact rfl) rfl
end
section
def PkOf (M : List ByteArray) (nxt : Int) (q : Pk) : Prop := q.right = true ∧ (q.kd = 1 → 0 ≤ q.nu ∧ q.nu < nxt ∧ M[q.nu.toNat]? = some q.bo)
def Fl (M : List ByteArray) (nxt : Int) (x : ByteArray) : Prop := ∃ (q : Pk) (j : Nat), PkOf M nxt q ∧ x = (enB q).extract 0 j
variable {M : List ByteArray} {a : Int}
theorem Fl.mono {b : Int} {x : ByteArray} (hab : a ≤ b) (h : Fl M a x) : Fl M b x := by
 obtain ⟨q, j, ⟨h1, h2⟩, h3⟩ := h
 exact ⟨q, j, ⟨h1, fun hk => ⟨(h2 hk).1, by have := (h2 hk).2.1; omega, (h2 hk).2.2⟩⟩, h3⟩
theorem extract_extract (s : ByteArray) (i j : Nat) : (s.extract 0 i).extract 0 j = s.extract 0 (min i j) := by
 apply ByteArray.ext
 apply Array.ext'
 simp only [ByteArray.data_extract, Array.toList_extract, List.extract, Nat.sub_zero, List.drop_zero]
 rw [List.take_take, Nat.min_comm]
theorem Fl.cut {x : ByteArray} (h : Fl M a x) (k : Nat) : Fl M a (x.extract 0 k) := by
 obtain ⟨q, j, h1, rfl⟩ := h
 exact ⟨q, min j k, h1, extract_extract _ _ _⟩
theorem Fl.de {x : ByteArray} (h : Fl M a x) (he : deE x = 0) (hk : (deP x).kd = 1) : 0 ≤ (deP x).nu ∧ (deP x).nu < a ∧ M[(deP x).nu.toNat]? = some (deP x).bo := by
 obtain ⟨q, j, ⟨h1, h2⟩, rfl⟩ := h
 by_cases hj : j < (enB q).size
 · rw [dec_cut h1 j hj] at he; cases he
 · have hx : (enB q).extract 0 j = enB q := by
    apply ByteArray.ext
    apply Array.ext'
    simp only [ByteArray.data_extract, Array.toList_extract, List.extract, Nat.sub_zero, List.drop_zero]
    rw [List.take_of_length_le]
    have : (enB q).size = (enB q).data.toList.length := rfl
    omega
   rw [hx] at hk ⊢
   rw [(dec_enc h1).1] at hk ⊢
   exact h2 hk
structure Pr (M : List ByteArray) (k : Nat) (c : Ch) : Prop where
 cnt : c.nxt + (c.wai.length : Int) = k
 wai : ∀ (i : Nat) x, c.wai[i]? = some x → M[c.nxt.toNat + i]? = some x
 una : ∀ (i : Nat) x, c.una[i]? = some x → M[c.base.toNat + i]? = some x
 del : ∀ (i : Nat) x, c.del[i]? = some x → M[i]? = some x
 ear : ∀ q ∈ c.ear, M[q.nu.toNat]? = some q.bo
 tos : ∀ x ∈ c.tos, Fl M c.nxt x
theorem snoc_get {α : Type} {l : List α} {m x : α} {i : Nat} (h : (l ++ [m])[i]? = some x) : l[i]? = some x ∨ (i = l.length ∧ x = m) := by
 by_cases hi : i < l.length
 · left; rw [List.getElem?_append_left hi] at h; exact h
 · right
   rw [List.getElem?_append_right (by omega)] at h
   have h0 : i - l.length = 0 := by
    cases hq : i - l.length with
    | zero => rfl
    | succ n => rw [hq] at h; simp at h
   rw [h0] at h
   injection h with h
   exact ⟨by omega, h.symm⟩
theorem right_dat {n : Int} {m : ByteArray} (h0 : 0 ≤ n) (h1 : n ≤ 100000) (hm : m.size ≤ 200) : (⟨1, n, m⟩ : Pk).right = true := by
 unfold Pk.right
 simp; omega
theorem push_fl {l : List ByteArray} {q : Pk} (hq : PkOf M a q) (h : ∀ x ∈ l, Fl M a x) : ∀ x ∈ pushT l q, Fl M a x := by
 unfold pushT
 split
 · intro x hx
   rcases List.mem_append.1 hx with hx | hx
   · exact h x hx
   · rw [List.mem_singleton] at hx; subst hx
     refine ⟨q, (enB q).size, hq, ?_⟩
     rw [show enC q = enB q from if_pos hq.1]
     apply ByteArray.ext
     apply Array.ext'
     simp only [ByteArray.data_extract, Array.toList_extract, List.extract, Nat.sub_zero, List.drop_zero]
     rw [List.take_of_length_le]
     exact Nat.le_refl (enB q).data.toList.length
 · exact h
variable {k : Nat} {c : Ch}
theorem pr_next {k' : Nat} (h : c.G0) (hp : Pr M k c) (m : ByteArray) (r : List ByteArray) (hm : m.size ≤ 200) (hM : M[c.nxt.toNat]? = some m) (hr : ∀ (i : Nat) x, r[i]? = some x → M[c.nxt.toNat + 1 + i]? = some x) (hk : c.nxt + 1 + (r.length : Int) = k') (hn : c.nxt ≤ 10000) : Pr M k' { nextC c m with wai := r } := by
 have h4 := h.base0; have h5 := h.una; have h7 := h.exp1; have h10 := h.exp0
 have hw := wrap1 (n := c.nxt) (by omega) (by omega)
 rw [nextC_eq2, hw]
 have hnn : (c.nxt + 1).toNat = c.nxt.toNat + 1 := by omega
 refine { cnt := hk, wai := fun i x hx => ?_, una := fun i x hx => ?_, del := hp.del, ear := hp.ear, tos := ?_ }
 · show M[(c.nxt + 1).toNat + i]? = some x
   rw [hnn]; exact hr i x hx
 · rcases snoc_get hx with hx | ⟨rfl, rfl⟩
   · exact hp.una i x hx
   · show M[c.base.toNat + c.una.length]? = some x
     rw [show c.base.toNat + c.una.length = c.nxt.toNat by omega]; exact hM
 · refine push_fl ⟨right_dat (by omega) (by omega) hm, fun _ => ⟨by show 0 ≤ c.nxt; omega, by show c.nxt < c.nxt + 1; omega, hM⟩⟩ (fun x hx => (hp.tos x hx).mono (show c.nxt ≤ c.nxt + 1 by omega))
theorem pr_fill : ∀ (n : Nat) {c : Ch}, c.wai.length ≤ n → c.G0 → Pr M k c → Pr M k (fillN n c)
 | 0, c, _, _, hp => hp
 | n + 1, c, hn, h, hp => by
  unfold fillN
  cases hw : c.wai with
  | nil => exact hp
  | cons m r =>
   show Pr M k (if _ then _ else _)
   have hwl : c.wai.length = r.length + 1 := by rw [hw]; rfl
   by_cases hl : (c.una.length : Int) < c.win
   · rw [if_pos hl]
     have hms := h.wt m (by rw [hw]; exact List.mem_cons_self)
     have h3 := h.nxt
     have h1 := hp.cnt
     refine pr_fill n (by show r.length ≤ n; omega) (g0_next h m r (.inl hw) hms hl) (pr_next h hp m r hms ?_ (fun i x hx => ?_) (by omega) (by omega))
     · exact hp.wai 0 m (by rw [hw]; rfl)
     · have := hp.wai (i + 1) x (by rw [hw]; exact hx)
       rw [show c.nxt.toNat + 1 + i = c.nxt.toNat + (i + 1) by omega]; exact this
   · rw [if_neg hl]; exact hp
theorem pr_ack (h : c.Gd) (hp : Pr M k c) (s : ByteArray) : Pr M k (ackC c s) := by
 unfold ackC
 split
 · exact hp
 · rename_i hn
   have hn' := eq_false_of_ne_true hn
   simp only [Bool.or_eq_false_iff, decide_eq_false_iff_not] at hn'
   obtain ⟨⟨_, n1⟩, n2⟩ := hn'
   have h1 := h.unaw; have h2 := h.win1; have h3 := h.nxt; have h4 := h.base0; have h5 := h.una; have h7 := h.exp1; have h10 := h.exp0
   refine pr_fill _ (Nat.le_refl _) { win0 := h.win0, win1 := h.win1, base0 := by show 0 ≤ (deP s).nu; omega, una := ?_, unaw := ?_, nxt := h.nxt, exp0 := by show (deP s).nu ≤ c.exp; omega, exp1 := h.exp1, expd := h.expd, earb := h.earb, ut := fun x hx => h.ut x (List.mem_of_mem_drop hx), wt := h.wt, dt := h.dt, tl := h.tl, bl := h.bl, tt := h.tt, bt := h.bt } { cnt := hp.cnt, wai := hp.wai, una := fun i x hx => ?_, del := hp.del, ear := hp.ear, tos := hp.tos }
   · show c.nxt - (deP s).nu = ((c.una.drop ((deP s).nu - c.base).toNat).length : Int)
     rw [List.length_drop]; omega
   · show ((c.una.drop ((deP s).nu - c.base).toNat).length : Int) ≤ c.win
     rw [List.length_drop]; omega
   · have hx' : (c.una.drop ((deP s).nu - c.base).toNat)[i]? = some x := hx
     rw [List.getElem?_drop] at hx'
     have := hp.una _ x hx'
     show M[(deP s).nu.toNat + i]? = some x
     rw [show (deP s).nu.toNat + i = c.base.toNat + (((deP s).nu - c.base).toNat + i) by omega]; exact this
theorem pr_del (hp : Pr M k c) (q : Pk) (r : List Pk) (hr : ∀ x ∈ r, x ∈ c.ear) (he : c.exp = (c.del.length : Int)) (hq : q.nu = c.exp) (hM : M[q.nu.toNat]? = some q.bo) : Pr M k (delC { c with ear := r } q) :=
 { cnt := hp.cnt, wai := hp.wai, una := hp.una, del := (fun i x hx => by
  rcases snoc_get hx with hx | ⟨rfl, rfl⟩
  · exact hp.del i x hx
  · rw [show q.nu.toNat = c.del.length by omega] at hM; exact hM), ear := fun x hx => hp.ear x (hr x hx), tos := hp.tos }
theorem pr_due : ∀ (n : Nat) {c : Ch}, c.exp = (c.del.length : Int) → c.exp + (c.ear.length : Int) ≤ 100000 → Pr M k c → Pr M k (dueN n c)
 | 0, c, _, _, hp => hp
 | n + 1, c, he, hb, hp => by
  unfold dueN
  cases hw : c.ear with
  | nil => exact hp
  | cons q r =>
   show Pr M k (if _ then _ else _)
   have hwl : c.ear.length = r.length + 1 := by rw [hw]; rfl
   by_cases hq : (q.nu == c.exp) = true
   · rw [if_pos hq]
     have hq' : q.nu = c.exp := by simpa using hq
     have hwr := wrap1 (n := c.exp) (by omega) (by omega)
     refine pr_due n ?_ ?_ (pr_del hp q r (fun x hx => by rw [hw]; exact List.mem_cons_of_mem _ hx) he hq' (hp.ear q (by rw [hw]; exact List.mem_cons_self)))
     · show IntKind.i64.wrap (c.exp + 1) = ((c.del ++ [q.bo]).length : Int)
       rw [hwr, List.length_append]; simp; omega
     · show IntKind.i64.wrap (c.exp + 1) + (r.length : Int) ≤ 100000
       rw [hwr]; omega
   · rw [if_neg hq]; exact hp
theorem insF_mem (q : Pk) : ∀ (l : List Pk), ∀ x ∈ insF q l, x = q ∨ x ∈ l
 | [], x, hx => by rw [insF, List.mem_singleton] at hx; exact .inl hx
 | e :: r, x, hx => by
  unfold insF at hx
  split at hx
  · exact .inr hx
  · split at hx
    · rcases List.mem_cons.1 hx with h | h
      · exact .inl h
      · exact .inr h
    · rcases List.mem_cons.1 hx with h | h
      · exact .inr (h ▸ List.mem_cons_self)
      · rcases insF_mem q r x h with h | h
        · exact .inl h
        · exact .inr (List.mem_cons_of_mem _ h)
theorem pr_ans (hp : Pr M k c) : Pr M k (ansC c) := by
 unfold ansC sendB
 split
 · exact { cnt := hp.cnt, wai := hp.wai, una := hp.una, del := hp.del, ear := hp.ear, tos := hp.tos }
 · exact hp
theorem pr_rcv (h : c.Gd) (hp : Pr M k c) (s : ByteArray) (hs : Fl M c.nxt s) : Pr M k (rcvC c s) := by
 rw [← rcvF_eq (rcv_ofG h)]
 unfold rcvF
 split
 · exact hp
 · rename_i hn
   have hn' := eq_false_of_ne_true hn
   rw [Bool.or_eq_false_iff] at hn'
   have e0 : deE s = 0 := by simpa using hn'.1
   have k0 : (deP s).kd = 1 := by simpa using hn'.2
   obtain ⟨q0, q1, q2⟩ := hs.de e0 k0
   have hsm := sm_of h.toG0.few (chk_of h)
   have g3 := hsm.ear
   have h3 := h.nxt; have h7 := h.exp1; have h4 := h.base0; have h10 := h.exp0
   refine pr_ans ?_
   unfold rcvG
   split
   · rename_i hc
     rw [Bool.and_eq_true] at hc
     have c1 : (deP s).nu = c.exp := by simpa using hc.1
     have hwr := wrap1 (n := c.exp) (by omega) (by omega)
     refine pr_due _ ?_ ?_ (pr_del hp (deP s) c.ear (fun x hx => hx) h.expd c1 q2)
     · show IntKind.i64.wrap (c.exp + 1) = ((c.del ++ [(deP s).bo]).length : Int)
       rw [hwr, List.length_append]; have := h.expd; simp; omega
     · show IntKind.i64.wrap (c.exp + 1) + (c.ear.length : Int) ≤ 100000
       rw [hwr]; omega
   · split
     · exact { cnt := hp.cnt, wai := hp.wai, una := hp.una, del := hp.del, ear := (fun x hx => by
                 rcases insF_mem _ _ x hx with rfl | hx
                 · exact q2
                 · exact hp.ear x hx), tos := hp.tos }
     · exact hp
theorem pr_tick (h : c.Gd) (hp : Pr M k c) : Pr M k (tickC c) := by
 have h1 := h.unaw; have h2 := h.win1; have h3 := h.nxt; have h4 := h.base0; have h5 := h.una; have h7 := h.exp1; have h10 := h.exp0
 have key : ∀ (l : List ByteArray) (z : Nat) (T : List ByteArray), c.una.drop z = l → z ≤ c.una.length → (∀ x ∈ T, Fl M c.nxt x) → ∀ x ∈ tickL c.base z l T, Fl M c.nxt x := by
  intro l
  induction l with
  | nil => exact fun z T _ _ h => h
  | cons m r ih =>
   intro z T hz hzl hT
   have hlt : z < c.una.length := by
    rcases Nat.lt_or_ge z c.una.length with h | h
    · exact h
    · rw [List.drop_eq_nil_of_le h] at hz; cases hz
   have hg : c.una[z]? = some m := by
    have := drop_get (l := c.una) (k := z) (e := c.una[z]) (gE hlt)
    rw [hz] at this
    injection this with h1 _
    rw [gE hlt, h1]
   have hr : c.una.drop (z + 1) = r := by
    have := drop_get (l := c.una) (k := z) (e := m) hg
    rw [hz] at this
    injection this with _ h2
    exact h2.symm
   have hw : IntKind.i64.wrap (c.base + (z : Int)) = c.base + (z : Int) := by simp [IntKind.wrap, IntKind.signed, IntKind.bits]; omega
   unfold tickL
   rw [hw]
   refine ih (z + 1) _ hr hlt (push_fl ⟨right_dat (by omega) (by omega) (h.ut m (mG hg)), fun _ => ⟨by show 0 ≤ c.base + (z : Int); omega, by show c.base + (z : Int) < c.nxt; omega, ?_⟩⟩ hT)
   have := hp.una z m hg
   show M[(c.base + (z : Int)).toNat]? = some m
   rw [show (c.base + (z : Int)).toNat = c.base.toNat + z by omega]; exact this
 exact { cnt := hp.cnt, wai := hp.wai, una := hp.una, del := hp.del, ear := hp.ear, tos := key c.una 0 c.tos rfl (Nat.zero_le _) hp.tos }
theorem pr_tos (hp : Pr M k c) (l : List ByteArray) (h : ∀ x ∈ l, Fl M c.nxt x) : Pr M k { c with tos := l } := { cnt := hp.cnt, wai := hp.wai, una := hp.una, del := hp.del, ear := hp.ear, tos := h }
theorem pr_bak (hp : Pr M k c) (l : List ByteArray) : Pr M k { c with bak := l } := { cnt := hp.cnt, wai := hp.wai, una := hp.una, del := hp.del, ear := hp.ear, tos := hp.tos }
theorem pr_act {n : Nat} (h : c.Gd) (hp : Pr M n c) (k : Int) (b : Bool) (ix at_ : Int) (h0 : (actS c k b ix at_).2 = 0) : Pr M n (actS c k b ix at_).1 := by
 unfold actS at h0 ⊢
 rw [chk_of h, if_neg (by decide)] at h0 ⊢
 by_cases h15 : k < 1 ∨ 5 < k
 · rw [if_pos h15] at h0; cases h0
 rw [if_neg h15] at h0 ⊢
 by_cases h5 : k = 5
 · rw [if_pos h5]; exact pr_tick h hp
 rw [if_neg h5] at h0 ⊢
 by_cases hix : ix < 0 ∨ ((flt c b).length : Int) ≤ ix
 · rw [if_pos hix] at h0; cases h0
 rw [if_neg hix] at h0 ⊢
 obtain ⟨i, rfl⟩ : ∃ i : Nat, ix = (i : Int) := ⟨ix.toNat, by omega⟩
 rw [Int.toNat_natCast] at h0 ⊢
 have hif : i < (flt c b).length := by omega
 obtain ⟨x, hx⟩ : ∃ x, (flt c b)[i]? = some x := ⟨_, gE hif⟩
 rw [List.getD_eq_getElem?_getD, hx, Option.getD_some] at h0 ⊢
 have hxm := mG hx
 obtain ⟨t1, t2⟩ := erase_ok i h.tl h.tt
 obtain ⟨b1, b2⟩ := erase_ok i h.bl h.bt
 have herT : ∀ y ∈ c.tos.eraseIdx i, Fl M c.nxt y := fun y hy => hp.tos y (List.mem_of_mem_eraseIdx hy)
 unfold actK at h0 ⊢
 by_cases k1 : k = 1
 · rw [if_pos k1]
   cases b with
   | true => exact pr_ack (gd_bak h _ b1 b2) (pr_bak hp _) x
   | false => exact pr_rcv (gd_tos h _ t1 t2) (pr_tos hp _ herT) x (hp.tos x hxm)
 rw [if_neg k1] at h0 ⊢
 by_cases k2 : k = 2
 · rw [if_pos k2]
   cases b with
   | true => exact pr_bak hp _
   | false => exact pr_tos hp _ herT
 rw [if_neg k2] at h0 ⊢
 by_cases k3 : k = 3
 · rw [if_pos k3] at h0 ⊢
   by_cases hl : (flt c b).length = 200
   · rw [if_pos hl] at h0; cases h0
   · rw [if_neg hl]
     cases b with
     | true => exact pr_bak hp _
     | false => exact pr_tos hp _ (fun y hy => by
      rcases List.mem_append.1 hy with hy | hy
      · exact hp.tos y hy
      · rw [List.mem_singleton] at hy; subst hy; exact hp.tos _ hxm)
 rw [if_neg k3] at h0 ⊢
 by_cases ha : at_ < 0 ∨ at_ ≥ (x.size : Int)
 · rw [if_pos ha] at h0; cases h0
 · rw [if_neg ha]
   cases b with
   | true => exact pr_bak hp _
   | false => exact pr_tos hp _ (fun y hy => by
    rcases List.mem_or_eq_of_mem_set hy with hy | hy
    · exact hp.tos y hy
    · subst hy; exact (hp.tos _ hxm).cut _)
theorem pr_play : ∀ (l : List Ac) (s : Ch × Int), s.1.Gd → Pr M k s.1 → (playF l s).1.Gd ∧ Pr M k (playF l s).1
 | [], s, h, hp => ⟨h, hp⟩
 | a :: r, s, h, hp => by
  unfold playF
  by_cases h0 : (actS s.1 a.k a.b a.ix a.at_).2 = 0
  · rw [if_pos h0]
    refine pr_play r _ ?_ (pr_act h hp _ _ _ _ h0)
    rcases gd_act h a.k a.b a.ix a.at_ with ⟨_, h1⟩ | ⟨h1, _⟩
    · exact absurd h0 h1
    · exact h1
  · rw [if_neg h0]
    exact pr_play r s h hp
theorem pr_send (h : c.Gd) (hp : Pr M k c) (m : ByteArray) (hm : m.size ≤ 200) (hM : M[k]? = some m) (hk : k < 10000) : sendE c m = 0 ∧ (sendS c m).Gd ∧ Pr M (k + 1) (sendS c m) := by
 have h1 := h.unaw; have h2 := h.win1; have h3 := h.nxt; have h4 := h.base0; have h5 := h.una; have h7 := h.exp1; have h10 := h.exp0
 have hc := hp.cnt
 have hw : IntKind.i64.wrap (c.nxt + (c.wai.length : Int)) = c.nxt + (c.wai.length : Int) := by simp [IntKind.wrap, IntKind.signed, IntKind.bits]; omega
 unfold sendE sendS
 have hms : ¬ (m.size : Int) > 200 := by omega
 have hne : ¬ c.nxt + (c.wai.length : Int) = 10000 := by omega
 simp only [chk_of h, hw, hms, hne, if_false, Bool.false_eq_true]
 refine ⟨trivial, ?_⟩
 by_cases hl : (c.una.length : Int) < c.win
 · rw [if_pos hl]
   have hwn := h.wai hl
   have e1 : nextC c m = { nextC c m with wai := [] } := by
    have : (nextC c m).wai = [] := by rw [(nextC_wai c m).1, hwn]
    cases hq : nextC c m with
    | mk a1 a2 a3 a4 a5 a6 a7 a8 a9 a10 => rw [hq] at this; dsimp only at this; rw [this]
   rw [e1]
   have hn0 : c.nxt = k := by rw [hwn] at hc; simpa using hc
   have g0 := g0_next h.toG0 m [] (.inr ⟨by omega, hwn, rfl⟩) hm hl
   refine ⟨{ toG0 := g0, wai := fun _ => rfl }, pr_next h.toG0 hp m [] hm (by rw [hn0]; exact hM) (fun i x hx => by simp at hx) (by simp; omega) (by omega)⟩
 · rw [if_neg hl]
   refine ⟨{ h with nxt := by show c.nxt + ((c.wai ++ [m]).length : Int) ≤ 10000; rw [List.length_append]; simp; omega, wt := mem_snoc h.wt hm, wai := fun h' => absurd h' hl }, { cnt := by show c.nxt + ((c.wai ++ [m]).length : Int) = ((k + 1 : Nat) : Int); rw [List.length_append]; simp; omega, wai := fun i x hx => ?_, una := hp.una, del := hp.del, ear := hp.ear, tos := hp.tos }⟩
   rcases snoc_get hx with hx | ⟨rfl, rfl⟩
   · exact hp.wai i x hx
   · show M[c.nxt.toNat + c.wai.length]? = some x
     rw [show c.nxt.toNat + c.wai.length = k by omega]; exact hM
theorem pr_new {n : Int} (h0 : 1 ≤ n) (h1 : n ≤ 16) : newE n = 0 ∧ newS n = newC n ∧ (newC n).Gd ∧ Pr M 0 (newC n) := by
 have hb : (decide (n < 1) || decide (n > 16)) = false := by simp; omega
 refine ⟨by unfold newE; rw [hb]; rfl, by unfold newS; rw [hb]; rfl, ?_, ?_⟩
 · exact { win0 := h0, win1 := h1, base0 := Int.le_refl 0, una := rfl, unaw := by show (0 : Int) ≤ n; omega, nxt := by show (0 : Int) + ((0 : Nat) : Int) ≤ 10000; decide, exp0 := Int.le_refl 0, exp1 := Int.le_refl 0, expd := rfl, earb := rfl, ut := (fun x hx => by cases hx), wt := (fun x hx => by cases hx), dt := (fun x hx => by cases hx), tl := Nat.zero_le _, bl := Nat.zero_le _, tt := (fun x hx => by cases hx), bt := (fun x hx => by cases hx), wai := fun _ => rfl }
 · exact { cnt := rfl, wai := (fun i x hx => by simp [newC, zeroC] at hx), una := (fun i x hx => by simp [newC, zeroC] at hx), del := (fun i x hx => by simp [newC, zeroC] at hx), ear := (fun q hq => by cases hq), tos := (fun x hx => by cases hx) }
end
section
def PlayedR (M : List ByteArray) (q : PV) (m : List (List PV)) : Prop := m = [] ∧ ∃ c : Ch, c.Gd ∧ Pr M M.length c ∧ q = .tup [.d c.d, .d (.bool true)]
theorem wrap_nn {n : Nat} (h : n ≤ 1000000) : IntKind.i64.wrap (n : Int) = (n : Int) := by simp [IntKind.wrap, IntKind.signed, IntKind.bits]; omega
theorem aD_one {l : List Ac} {i : Nat} {a : Ac} (h : l[i]? = some a) : ((aD l).take (i + 1)).drop i = aD [a] := by
 have h1 : (aD l).take (i + 1) = aD (l.take (i + 1)) := by unfold aD; rw [List.map_take]
 have h2 : (aD (l.take (i + 1))).drop i = aD ((l.take (i + 1)).drop i) := by unfold aD; rw [List.map_drop]
 have hlt := (lG h)
 have h3 : (l.take (i + 1)).drop i = [a] := by
  rw [List.take_add_one, h]
  rw [List.drop_append_of_le_length (by rw [List.length_take]; omega), List.drop_of_length_le (by rw [List.length_take]; omega)]
  rfl
 rw [h1, h2, h3]
set_option maxRecDepth 100000 in
theorem c27 (M : List ByteArray) (l : List Ac) (w : Int) (hw : 0 ≤ w) (hw2 : w < 256) (hM : M.length ≤ 30) (hs : ∀ x ∈ M, x.size ≤ 200) (hl : l.length ≤ 80) : GL 0 27 [.d (.int .i64 w), .d (.sl (sD M)), .d (.sl (aD l))] [] (PlayedR M) := by
 have hr0 : 0 ≤ w.tmod 16 := Int.tmod_nonneg _ hw
 have hr1 : w.tmod 16 < 16 := Int.tmod_lt_of_pos _ (by decide)
 have hwr : IntKind.i64.wrap (1 + w.tmod 16) = 1 + w.tmod 16 := by simp [IntKind.wrap, IntKind.signed, IntKind.bits]; omega
 obtain ⟨e1, e2, hg0, hp0⟩ := pr_new (M := M) (n := 1 + w.tmod 16) (by omega) (by omega)
 have q24 := c24 (1 + w.tmod 16)
 rw [e1, e2] at q24
 generalize newC (1 + w.tmod 16) = cN at q24 hg0 hp0
 unfold Ch.d at q24
 refine glB 0 0 Tryd.func27 Tryd.ntmps27 Tryd.results27 (fun S0 O0 w0 m0 hL hm0 => ?_)
 repeat' first | refine st (by exact rfl) ?_ | fail
 rw [hwr]
 repeat' first | refine st (by exact rfl) ?_ | refine cl (by exact rfl) q24 ?_ | fail
 refine cf (by exact rfl) ?_ rfl
 repeat' first | refine st (by exact rfl) ?_ | fail
 refine gLo (fun x : Nat × Nat × Ch => ⟨[(1, .d (.sl (sD M))), (2, .d (.sl (aD l))), (6, .ref 0 0), (7, .d (.bool false)), (8, .ref 1 0), (10, .d (.int .i64 (x.1 : Int))), (11, .d (.int .i64 (x.2.1 : Int)))], [zcel, chD x.2.2]⟩) (fun x => l.length + 1 - x.2.1) (fun x => x.2.2.Gd ∧ Pr M x.1 x.2.2 ∧ x.1 ≤ M.length ∧ x.2.1 ≤ l.length + 1 ∧ (x.2.1 = l.length + 1 → x.1 = M.length)) (0, 0, cN) ⟨hg0, hp0, Nat.zero_le _, Nat.zero_le _, fun h => by simp at h⟩ ?_ (fun x hx Q' hn he hr hp => ?_)
 · exact Le_0 hm0 (.cons CSa (.cons CSa .nil)) SSa
 obtain ⟨k0, i, c0⟩ := x
 obtain ⟨hg, hpr, hk, hi, hlast⟩ : c0.Gd ∧ Pr M k0 c0 ∧ k0 ≤ M.length ∧ i ≤ l.length + 1 ∧ (i = l.length + 1 → k0 = M.length) := hx
 refine (show GF _ _ _ _ ⟨[(1, .d (.sl (sD M))), (2, .d (.sl (aD l))), (6, .ref 0 0), (7, .d (.bool false)), (8, .ref 1 0), (10, .d (.int .i64 (k0 : Int))), (11, .d (.int .i64 (i : Int)))], [zcel, chD c0]⟩ from ?_)
 repeat' first | refine st (by exact rfl) ?_ | fail
 refine cd (by exact rfl) (fun hb => ?_) (fun hb => ?_)
 rotate_left
 · have hgt : ¬ (i : Int) ≤ (l.length : Int) := by have := of_decide_eq_false hb; rw [aD_len] at this; exact this
   have hkM : k0 = M.length := hlast (by omega)
   subst hkM
   repeat' first | refine st (by exact rfl) ?_ | fail
   refine Z17 ?_
   repeat' first | refine st (by exact rfl) ?_ | fail
   rw [sD_len, beq_self_eq_true]
   exact enj (mem' := []) (by exact rfl) ⟨rfl, c0, hg, hpr, rfl⟩ .nil
 have hil : i ≤ l.length := by have := oR hb; rw [aD_len] at this; omega
 clear hb
 repeat' first | refine st (by exact rfl) ?_ | fail
 refine gLo (fun x : Nat × Ch => ⟨[(1, .d (.sl (sD M))), (2, .d (.sl (aD l))), (6, .ref 0 0), (7, .d (.bool false)), (8, .ref 1 0), (10, .d (.int .i64 (x.1 : Int))), (11, .d (.int .i64 (i : Int)))], [zcel, chD x.2]⟩) (fun x => M.length - x.1) (fun x => x.2.Gd ∧ Pr M x.1 x.2 ∧ x.1 ≤ M.length) (k0, c0) ⟨hg, hpr, hk⟩ ?_ (fun x hx Q' hn2 he2 hr2 hp2 => ?_)
 · exact Le_0 hm0 (.cons CSa (.cons CSa .nil)) SSa
 clear hg hpr hk hlast
 obtain ⟨k, c⟩ := x
 obtain ⟨hg, hpr, hk⟩ : c.Gd ∧ Pr M k c ∧ k ≤ M.length := hx
 refine (show GF _ _ _ _ ⟨[(1, .d (.sl (sD M))), (2, .d (.sl (aD l))), (6, .ref 0 0), (7, .d (.bool false)), (8, .ref 1 0), (10, .d (.int .i64 (k : Int))), (11, .d (.int .i64 (i : Int)))], [zcel, chD c]⟩ from ?_)
 have hkl : k * l.length ≤ 30 * 80 := Nat.mul_le_mul (by omega) hl
 have hiM : i * M.length ≤ 80 * 30 := Nat.mul_le_mul (by omega) hM
 have hw3 : IntKind.i64.wrap ((k : Int) * ((aD l).length : Int)) = ((k * l.length : Nat) : Int) := by
  rw [aD_len, ← Int.natCast_mul]; exact wrap_nn (by omega)
 have hw4 : IntKind.i64.wrap ((i : Int) * ((sD M).length : Int)) = ((i * M.length : Nat) : Int) := by
  rw [sD_len, ← Int.natCast_mul]; exact wrap_nn (by omega)
 repeat' first | refine st (by exact rfl) ?_ | fail
 refine cd (by exact rfl) (fun hb => ?_) (fun hb => ?_)
 · rw [Bool.and_eq_true] at hb
   have hkM : k < M.length := by have := oR hb.1; rw [sD_len] at this; omega
   obtain ⟨m, hm⟩ : ∃ m, M[k]? = some m := ⟨_, gE hkM⟩
   have hmD := sD_get hm
   obtain ⟨s1, s2, s3⟩ := pr_send hg hpr m (hs m (mG hm)) hm (by omega)
   have q18 := c18 c m hg.few
   rw [s1] at q18
   generalize sendS c m = c2 at q18 s2 s3
   unfold Ch.d at q18
   repeat' first | refine st (by exact rfl) ?_ | fail
   refine kp [(1, .d (.sl (sD M))), (2, .d (.sl (aD l))), (6, .ref 0 0), (7, .d (.bool false)), (8, .ref 1 0), (10, .d (.int .i64 (k : Int))), (11, .d (.int .i64 (i : Int)))] ⟨rfl, rfl, rfl, rfl, rfl, rfl, rfl, trivial⟩ ?_
   refine zo [] [9] [[zcel, [.d (.int .i64 c.win), .d (.int .i64 c.base), .d (.int .i64 c.nxt), .d (strs c.una), .d (strs c.wai), .d (.int .i64 c.exp), .d (.sl (c.ear.map Pk.d)), .d (strs c.del), .d (strs c.tos), .d (strs c.bak)]], [zcel, [.d (.int .i64 c2.win), .d (.int .i64 c2.base), .d (.int .i64 c2.nxt), .d (strs c2.una), .d (strs c2.wai), .d (.int .i64 c2.exp), .d (.sl (c2.ear.map Pk.d)), .d (strs c2.del), .d (strs c2.tos), .d (strs c2.bak)]]] (hc := ?_)
   refine za 0 (hc := ?_)
   iterate 2 refine zv (hc := ?_)
   refine zi (hd := hmD) (hc := ?_)
   refine Z27 ?_
   refine zc (hcl := q18) (hc := ?_)
   iterate 3 refine zv (hc := ?_)
   refine zs 0 (hc := ?_)
   refine Z27 ?_
   refine ze (hc := ?_)
   repeat' first | refine st (by exact rfl) ?_ | fail
   refine cf (by exact rfl) ?_ rfl
   repeat' first | refine st (by exact rfl) ?_ | fail
   rw [show IntKind.i64.wrap ((k : Int) + 1) = ((k + 1 : Nat) : Int) by rw [wrap_i64 (by omega) (by omega)]; rfl]
   exact toL (hn2 _ (k + 1, c2) ⟨s2, s3, hkM⟩ (by dsimp only; omega) (Le_0 hm0 (.cons CSa (.cons CSa .nil)) SSa))
 · have hno : ¬ (k < M.length ∧ k * l.length ≤ i * M.length) := by
    rintro ⟨g1, g2⟩
    rw [Bool.and_eq_false_iff] at hb
    rcases hb with hb | hb
    · have := of_decide_eq_false hb; rw [sD_len] at this; omega
    · have := of_decide_eq_false hb; rw [hw3, hw4] at this; omega
   repeat' first | refine st (by exact rfl) ?_ | fail
   refine toL (he2 _ _ ?_)
   repeat' first | refine st (by exact rfl) ?_ | fail
   refine cd (by exact rfl) (fun hb => ?_) (fun hb => ?_)
   · have hil2 : i < l.length := by have := oR hb; rw [aD_len] at this; omega
     obtain ⟨a, ha⟩ : ∃ a, l[i]? = some a := ⟨_, gE hil2⟩
     have q28 : PL 28 [c.d, .sl (aD [a])] (.tup ([(playS c [a]).1.d, D.int .i64 (playS c [a]).2, D.int .i64 (playE c)].map .d)) := c28 c [a] hg.few (by simp)
     have hpE : playE c = 0 := by unfold playE; rw [chk_of hg]; rfl
     have hpS : (playS c [a]).1 = (playF [a] (c, 0)).1 := by unfold playS; rw [chk_of hg]; rfl
     obtain ⟨g1, g2⟩ := pr_play [a] (c, 0) hg hpr
     rw [← hpS] at g1 g2
     rw [hpE] at q28
     generalize (playS c [a]).1 = c2 at q28 g1 g2
     generalize (playS c [a]).2 = n2 at q28
     have gf := g1.few
     have q16 := c16 c2 (by have := gf.una; omega) (by have := gf.wai; omega) (by have := gf.ear; omega) (by have := gf.del; omega) (by have := gf.tos; omega) (by have := gf.bak; omega)
     rw [chk_of g1] at q16
     have q22 := c22 [a] (by simp)
     have hwi : IntKind.i64.wrap ((i : Int) + 1) = ((i + 1 : Nat) : Int) := by rw [wrap_i64 (by omega) (by omega)]; rfl
     unfold Ch.d at q28 q16
     repeat' first | refine st (by exact rfl) ?_ | fail
     refine kp [(1, .d (.sl (sD M))), (2, .d (.sl (aD l))), (6, .ref 0 0), (7, .d (.bool false)), (8, .ref 1 0), (10, .d (.int .i64 (k : Int))), (11, .d (.int .i64 (i : Int)))] ⟨rfl, rfl, rfl, rfl, rfl, rfl, rfl, trivial⟩ ?_
     refine zo [] [12] [[zcel, [.d (.int .i64 c.win), .d (.int .i64 c.base), .d (.int .i64 c.nxt), .d (strs c.una), .d (strs c.wai), .d (.int .i64 c.exp), .d (.sl (c.ear.map Pk.d)), .d (strs c.del), .d (strs c.tos), .d (strs c.bak)]], [zcel, [.d (.int .i64 c2.win), .d (.int .i64 c2.base), .d (.int .i64 c2.nxt), .d (strs c2.una), .d (strs c2.wai), .d (.int .i64 c2.exp), .d (.sl (c2.ear.map Pk.d)), .d (strs c2.del), .d (strs c2.tos), .d (strs c2.bak)]]] (hc := ?_)
     refine za 0 (hc := ?_)
     iterate 3 refine zv (hc := ?_)
     refine Z27 ?_
     rw [hwi]
     refine zq (hcc := ?_) (hc := ?_)
     · exact ⟨⟨by omega, by omega, by rw [aD_len]; omega⟩, aD_k l⟩
     rw [show List.drop (Int.toNat (i : Int)) (List.take (Int.toNat ((i + 1 : Nat) : Int)) (aD l)) = aD [a] from aD_one ha]
     refine zc (hcl := q22) (hc := ?_)
     refine zcl hL (by exact rfl) (by exact rfl) (by exact fun _ => rfl) q28 (by exact rfl) ?_
     iterate 4 refine zv (hc := ?_)
     refine zs 0 (hc := ?_)
     refine Z27 ?_
     refine ze (hc := ?_)
     repeat' first | refine st (by exact rfl) ?_ | refine clg (by exact rfl) (fun _ => q16) ?_ | fail
     refine cf (by exact rfl) ?_ rfl
     repeat' first | refine st (by exact rfl) ?_ | fail
     rw [hwi]
     exact toL (hn _ (k, i + 1, c2) ⟨g1, g2, hk, by show i + 1 ≤ l.length + 1; omega, fun (h : i + 1 = l.length + 1) => absurd h (by omega)⟩ (by dsimp only; omega) (Le_0 hm0 (.cons CSa (.cons CSa .nil)) SSa))
   · have hkM : i = l.length → k = M.length := fun e => by
      rw [e] at hno
      rcases Nat.lt_or_ge k M.length with h | h
      · exact absurd ⟨h, by rw [Nat.mul_comm]; exact Nat.mul_le_mul_left _ (by omega)⟩ hno
      · omega
     have hge : ¬ i < l.length := by have := of_decide_eq_false hb; rw [aD_len] at this; omega
     repeat' first | refine st (by exact rfl) ?_ | fail
     rw [show IntKind.i64.wrap ((i : Int) + 1) = ((i + 1 : Nat) : Int) by rw [wrap_i64 (by omega) (by omega)]; rfl]
     exact toL (hn _ (k, i + 1, c) ⟨hg, hpr, hk, by show i + 1 ≤ l.length + 1; omega, fun (h : i + 1 = l.length + 1) => hkM (by omega)⟩ (by dsimp only; omega) (Le_0 hm0 (.cons CSa (.cons CSa .nil)) SSa))
set_option maxRecDepth 100000 in
theorem c6 (w : Int) (M : List ByteArray) (l : List Ac) (hw : 0 ≤ w) (hw2 : w < 256) (hM0 : M.length ≤ 140737488355328) (hl0 : l.length ≤ 140737488355328) : PL 6 [.int .u8 w, .sl (sD M), .sl (aD l)] (.d (.bool true)) := by
 have q26 : Pf Tryd.prog 26 [.sl (sD M), .int .i64 30] (.d (.bool (fewB M 30))) := c26 M 30 hM0
 refine plB Tryd.func6 Tryd.ntmps6 Tryd.results6 (fun S0 O0 w0 m0 hL hm0 => ?_)
 repeat' first | refine st (by exact rfl) ?_ | refine clg (by exact rfl) (fun _ => q26) ?_ | fail
 refine cd (by exact rfl) (fun hb => ?_) (fun hb => ?_)
 · repeat' first | refine st (by exact rfl) ?_ | refine cl (by exact rfl) c9 ?_ | fail
   exact en (by exact rfl) rfl
 rw [Bool.or_eq_false_iff, Bool.or_eq_false_iff] at hb
 have hM : M.length ≤ 30 := by have := of_decide_eq_false hb.1.1; rw [sD_len] at this; omega
 have hl : l.length ≤ 80 := by have := of_decide_eq_false hb.1.2; rw [aD_len] at this; omega
 clear hb
 repeat' first | refine st (by exact rfl) ?_ | fail
 refine gLo (fun x : Nat => ⟨[(0, .d (.int .u8 w)), (1, .d (.sl (sD M))), (2, .d (.sl (aD l))), (7, .d (.int .i64 (x : Int)))], []⟩) (fun x => M.length - x) (fun x => x ≤ M.length ∧ ∀ (j : Nat) y, j < x → M[j]? = some y → y.size ≤ 200) 0 ⟨Nat.zero_le _, fun j y h => by omega⟩ ?_ (fun x hx Q' hn he hr hp => ?_)
 · exact Le_0 hm0 .nil SSa
 obtain ⟨hx1, hx2⟩ := hx
 repeat' first | refine st (by exact rfl) ?_ | fail
 refine cd (by exact rfl) (fun hb => ?_) (fun hb => ?_)
 · have hlt : x < M.length := by have := oR hb; rw [sD_len] at this; omega
   obtain ⟨m, hm⟩ : ∃ m, M[x]? = some m := ⟨_, gE hlt⟩
   have hmD := sD_get hm
   repeat' first | refine st (by exact rfl) ?_ | refine el (by exact rfl) hmD ?_ | fail
   refine cd (by exact rfl) (fun hb => ?_) (fun hb => ?_)
   · repeat' first | refine st (by exact rfl) ?_ | refine cl (by exact rfl) c9 ?_ | fail
     refine toL (hr _ ?_)
     repeat' first | refine st (by exact rfl) ?_ | fail
     exact en (by exact rfl) rfl
   · have hms : m.size ≤ 200 := by have := of_decide_eq_false hb; omega
     repeat' first | refine st (by exact rfl) ?_ | fail
     rw [show IntKind.i64.wrap ((x : Int) + 1) = ((x + 1 : Nat) : Int) by rw [wrap_i64 (by omega) (by omega)]; rfl]
     refine toL (hn _ (x + 1) ⟨hlt, fun j y hj hy => ?_⟩ (by omega) (Le_0 hm0 .nil SSa))
     by_cases hjx : j = x
     · subst hjx; rw [hm] at hy; injection hy with hy; subst hy; exact hms
     · exact hx2 j y (by omega) hy
 have hle : M.length ≤ x := by have := of_decide_eq_false hb; rw [sD_len] at this; omega
 have hs : ∀ y ∈ M, y.size ≤ 200 := fun y hy => by
  obtain ⟨j, hj⟩ := List.getElem?_of_mem hy
  exact hx2 j y (by have := (lG hj); omega) hj
 clear hx1 hx2 hn hle hb
 have q27 := c27 M l w hw hw2 hM hs hl
 repeat' first | refine st (by exact rfl) ?_ | fail
 refine Z17 ?_
 repeat' first | refine st (by exact rfl) ?_ | fail
 have hcv : IntKind.i64.wrap w = w := by simp [IntKind.wrap, IntKind.signed, IntKind.bits]; omega
 rw [hcv]
 refine gJX (jn := 0) [] (by exact rfl) q27.1 (q27.2 _ _ hL) rfl (by decide) (fun b hb => by cases hb) rfl rfl rfl (fun b hb => by cases hb) rfl ?_
 rintro q m ⟨rfl, c, hg, hpr, rfl⟩ _
 have gf := hg.few
 have q16 := c16 c (by have := gf.una; omega) (by have := gf.wai; omega) (by have := gf.ear; omega) (by have := gf.del; omega) (by have := gf.tos; omega) (by have := gf.bak; omega)
 rw [chk_of hg, if_neg (by decide)] at q16
 have hdl : c.del.length ≤ M.length := by
  have h1 := hg.expd; have h2 := hg.exp1; have h3 := hpr.cnt
  omega
 have hul := hg.unaw
 unfold Ch.d at q16
 unfold stJ
 rw [show List.drop 0 ([] : List Nat) = [] from rfl, sansL_nil]
 refine (show GF _ _ _ _ ⟨(43, .tup [.d (.agg [.int .i64 c.win, .int .i64 c.base, .int .i64 c.nxt, strs c.una, strs c.wai, .int .i64 c.exp, .sl (c.ear.map Pk.d), strs c.del, strs c.tos, strs c.bak]), .d (.bool true)]) :: _, []⟩ from ?_)
 repeat' first | refine st (by exact rfl) ?_ | refine clg (by exact rfl) (fun _ => q16) ?_ | fail
 refine cf (by exact rfl) ?_ (by rw [sD_len, List.length_map, List.length_map]; simp; omega)
 repeat' first | refine st (by exact rfl) ?_ | fail
 refine gLo (fun x : Nat => ⟨[(1, .d (.sl (sD M))), (8, .ref 0 0), (10, .d (.int .i64 (x : Int)))], [chD c]⟩) (fun x => c.del.length - x) (fun x => x ≤ c.del.length) 0 (Nat.zero_le _) ?_ (fun x hx Q' hn he hr hp => ?_)
 · exact Le_0 hm0 (.cons CSa .nil) SSa
 repeat' first | refine st (by exact rfl) ?_ | fail
 refine cd (by exact rfl) (fun hb => ?_) (fun hb => ?_)
 · have hlt : x < c.del.length := by have := oR hb; rw [List.length_map] at this; omega
   obtain ⟨m, hm⟩ : ∃ m, c.del[x]? = some m := ⟨_, gE hlt⟩
   have h1 : (c.del.map D.str)[x]? = some (.str m) := sD_get hm
   have h2 := sD_get (hpr.del x m hm)
   repeat' first | refine st (by exact rfl) ?_ | fail
   refine kp [(1, .d (.sl (sD M))), (8, .ref 0 0), (10, .d (.int .i64 (x : Int)))] ⟨rfl, rfl, rfl, trivial⟩ ?_
   refine zo [] [] [[chD c]] (hc := ?_)
   refine Z27 ?_
   refine za 0 (hc := ?_)
   refine Z27 ?_
   refine zi (hd := h1) (hc := ?_)
   iterate 3 refine zv (hc := ?_)
   refine zi (hd := h2) (hc := ?_)
   iterate 2 refine zv (hc := ?_)
   refine ze (hc := ?_)
   repeat' first | refine st (by exact rfl) ?_ | fail
   refine cf (by exact rfl) ?_ (by simp)
   repeat' first | refine st (by exact rfl) ?_ | fail
   rw [show IntKind.i64.wrap ((x : Int) + 1) = ((x + 1 : Nat) : Int) by rw [wrap_i64 (by omega) (by omega)]; rfl]
   exact toL (hn _ (x + 1) hlt (by omega) (Le_0 hm0 (.cons CSa .nil) SSa))
 · repeat' first | refine st (by exact rfl) ?_ | fail
   refine Z17 ?_
   repeat' first | refine st (by exact rfl) ?_ | refine cl (by exact rfl) c9 ?_ | fail
   exact en (by exact rfl) rfl
end
end Go.Proofs.YtoonleefemkalaaDoor
