import Derived.Test.YtoonleefemkalaaDoorM28
import Derived.ChangeKeysEq
/- Contracts of functions. Conditions: none. -/
set_option linter.unusedSimpArgs false
set_option linter.unusedVariables false
set_option maxRecDepth 20000
namespace Go.Proofs.YtoonleefemkalaaDoor
open Go Go.Proofs.YtoonleefemkalaaDoor.E
section
theorem c21F (c : Ch) (k : Int) (b : Bool) (ix at_ : Int) (hc : c.Few) : ActP c k b ix at_ (actS c k b ix at_) := by
 cases hk : chkC c with
 | true =>
  unfold actS
  rw [if_pos hk]
  exact Pf.L (c21e1 c k b ix at_ hc hk)
 | false => exact c21 c k b ix at_ (sm_of hc hk)
theorem actS_fewF {c : Ch} (hc : c.Few) (k : Int) (b : Bool) (ix at_ : Int) : (actS c k b ix at_).1.Few := by
 cases hk : chkC c with
 | true =>
  unfold actS
  rw [if_pos hk]
  exact ⟨Nat.zero_le _, Nat.zero_le _, Nat.zero_le _, Nat.zero_le _, Nat.zero_le _, Nat.zero_le _⟩
 | false => exact actS_few (sm_of hc hk) k b ix at_
def playF : List Ac → Ch × Int → Ch × Int
 | [], s => s
 | a :: r, s => playF r (if (actS s.1 a.k a.b a.ix a.at_).2 = 0 then ((actS s.1 a.k a.b a.ix a.at_).1, IntKind.i64.wrap (s.2 + 1)) else s)
def playS (c : Ch) (l : List Ac) : Ch × Int := if chkC c = true then (zeroC, 0) else playF l (c, 0)
def playE (c : Ch) : Int := if chkC c = true then 331 else 0
set_option maxRecDepth 100000 in
theorem c28 (c : Ch) (l : List Ac) (hc : c.Few) (hl : l.length ≤ 1000000) : PL 28 [c.d, .sl (aD l)] (.tup [.d (playS c l).1.d, .d (.int .i64 (playS c l).2), .d (.int .i64 (playE c))]) := by
 have hc' := hc
 obtain ⟨h0, h1, h2, h3, h4, h5⟩ := hc'
 have q16 := c16 c (by omega) (by omega) (by omega) (by omega) (by omega) (by omega)
 have q40 := c40 c hc
 unfold playS playE
 cases hk : chkC c with
 | true =>
  rw [if_pos hk] at q16
  rw [if_pos rfl, if_pos rfl]
  unfold Ch.d at q16 ⊢
  refine plB Tryd.func28 Tryd.ntmps28 Tryd.results28 (fun S0 O0 w0 m0 hL hm0 => ?_)
  repeat' first | refine s_ ?_ | refine c_ q16 ?_ | fail
  refine Z24 ?_
  repeat' first | refine s_ ?_ | fail
  exact e_
 | false =>
 rw [if_neg (by rw [hk]; decide)] at q16
 rw [if_neg (by decide), if_neg (by decide)]
 generalize hF : playF l (c, 0) = F
 unfold Ch.d at q16 q40 ⊢
 refine plB Tryd.func28 Tryd.ntmps28 Tryd.results28 (fun S0 O0 w0 m0 hL hm0 => ?_)
 repeat' first | refine s_ ?_ | refine c_ q16 ?_ | fail
 refine Z10 ?_
 repeat' first | refine s_ ?_ | fail
 refine cn (by exact rfl) q40 (r' := .agg (ChA c p0 5 6 7 8 9 10)) (mem' := (chD c :: zcel :: unk 10 :: unk 10 :: unk 5 :: ChR c p0)) ?_ rfl (by rw [List.map_append, ChR_rens]; rfl)
 refine Z11 ?_
 refine kp [(1, .d (.sl (aD l))), (2, .ref 0 0), (4, .ref 1 0), (5, .d (.int .i64 0)), (6, .d (.int .i64 0))] ⟨rfl, rfl, rfl, rfl, rfl, trivial⟩ ?_
 refine (show GF _ _ _ _ ⟨_, ChA c p0 5 6 7 8 9 10 :: zcel :: unk 10 :: unk 10 :: unk 5 :: ChR c p0⟩ from ?_)
 refine gChD4 p0_ok ?_ (by show m0.length ≤ 5; omega)
 repeat' first | refine s_ ?_ | fail
 refine gLo (fun x : Nat × Ch × Int => ⟨[(2, .ref 0 0), (4, .ref 1 0), (5, .d (.int .i64 0)), (6, .d (.int .i64 0)), (8, .d (.int .i64 x.2.2)), (21, .d (.sl (aD l))), (22, .d (.int .i64 ((aD l).length : Int))), (23, .d (.int .i64 (x.1 : Int)))], [chD x.2.1, zcel]⟩) (fun x => l.length - x.1) (fun x => x.1 ≤ l.length ∧ x.2.1.Few ∧ playF (l.drop x.1) x.2 = F) (0, c, 0) ⟨Nat.zero_le _, hc, hF⟩ ?_ (fun x hx Q' hn he hr hp => ?_)
 · exact Le_0 hm0 (.cons CSa (.cons CSa .nil)) SSa
 obtain ⟨z, c2, n⟩ := x
 obtain ⟨hz, hf2, hF2⟩ : z ≤ l.length ∧ c2.Few ∧ playF (l.drop z) (c2, n) = F := hx
 refine (show GF _ _ _ _ ⟨[(2, .ref 0 0), (4, .ref 1 0), (5, .d (.int .i64 0)), (6, .d (.int .i64 0)), (8, .d (.int .i64 n)), (21, .d (.sl (aD l))), (22, .d (.int .i64 ((aD l).length : Int))), (23, .d (.int .i64 (z : Int)))], [chD c2, zcel]⟩ from ?_)
 repeat' first | refine s_ ?_ | fail
 refine d_ (fun hb => ?_) (fun hb => ?_)
 · have hlt : z < l.length := by have := oR hb; rw [aD_len] at this; omega
   obtain ⟨a, hga⟩ : ∃ a, l[z]? = some a := ⟨_, gE hlt⟩
   have hpa := aD_get hga
   rw [drop_get hga] at hF2
   have q21 : PL 21 [c2.d, acD a.k a.b a.ix a.at_] (.tup ([(actS c2 a.k a.b a.ix a.at_).1.d, D.int .i64 (actS c2 a.k a.b a.ix a.at_).2].map .d)) := c21F c2 a.k a.b a.ix a.at_ hf2
   have hf3 := actS_fewF hf2 a.k a.b a.ix a.at_
   unfold playF at hF2
   dsimp only at hF2
   unfold acD at q21
   generalize (actS c2 a.k a.b a.ix a.at_).1 = c3 at q21 hf3 hF2
   generalize (actS c2 a.k a.b a.ix a.at_).2 = e3 at q21 hF2
   unfold Ch.d at q21
   repeat' first | refine s_ ?_ | refine el (by exact rfl) hpa ?_ | refine clL hL (by exact rfl) q21 ?_ | fail
   refine d_ (fun hb => ?_) (fun hb => ?_)
   · have he3 : e3 = 0 := by simpa using hb
     rw [if_pos he3] at hF2
     repeat' first | refine s_ ?_ | fail
     rw [show IntKind.i64.wrap ((z : Int) + 1) = ((z + 1 : Nat) : Int) by rw [wrap_i64 (by omega) (by omega)]; rfl]
     exact toL (hn _ (z + 1, c3, IntKind.i64.wrap (n + 1)) ⟨hlt, hf3, hF2⟩ (by dsimp only; omega) (Le_0 hm0 (.cons CSa (.cons CSa .nil)) SSa))
   · have he3 : ¬ e3 = 0 := by simpa using hb
     rw [if_neg he3] at hF2
     repeat' first | refine s_ ?_ | fail
     rw [show IntKind.i64.wrap ((z : Int) + 1) = ((z + 1 : Nat) : Int) by rw [wrap_i64 (by omega) (by omega)]; rfl]
     exact toL (hn _ (z + 1, c2, n) ⟨hlt, hf2, hF2⟩ (by dsimp only; omega) (Le_0 hm0 (.cons CSa (.cons CSa .nil)) SSa))
 · have hle : l.length ≤ z := by have := of_decide_eq_false hb; rw [aD_len] at this; omega
   rw [List.drop_eq_nil_of_le hle, playF] at hF2
   subst hF2
   repeat' first | refine s_ ?_ | fail
   refine Z15 ?_
   repeat' first | refine s_ ?_ | fail
   exact e_
end
section
def PkOf (M : List ByteArray) (nxt : Int) (q : Pk) : Prop := q.right = true ∧ (q.kd = 1 → 0 ≤ q.nu ∧ q.nu < nxt ∧ M[q.nu.toNat]? = some q.bo)
def Fl (M : List ByteArray) (nxt : Int) (x : ByteArray) : Prop := ∃ (q : Pk) (j : Nat), PkOf M nxt q ∧ x = (enB q).extract 0 j
variable {M : List ByteArray} {a : Int}
theorem Fl.mono {b : Int} {x : ByteArray} (hab : a ≤ b) (h : Fl M a x) : Fl M b x := by
 obtain ⟨q, j, ⟨h1, h2⟩, h3⟩ := h
 exact ⟨q, j, ⟨h1, fun hk => ⟨(h2 hk).1, by have := (h2 hk).2.1; omega, (h2 hk).2.2⟩⟩, h3⟩
theorem extract_extract (s : ByteArray) (i j : Nat) : (s.extract 0 i).extract 0 j = s.extract 0 (min i j) := by
 apply ByteArray.ext
 apply Array.ext'
 simp only [ByteArray.data_extract, Array.toList_extract, List.extract, Nat.sub_zero, List.drop_zero]
 rw [List.take_take, Nat.min_comm]
theorem Fl.cut {x : ByteArray} (h : Fl M a x) (k : Nat) : Fl M a (x.extract 0 k) := by
 obtain ⟨q, j, h1, rfl⟩ := h
 exact ⟨q, min j k, h1, extract_extract _ _ _⟩
theorem Fl.de {x : ByteArray} (h : Fl M a x) (he : deE x = 0) (hk : (deP x).kd = 1) : 0 ≤ (deP x).nu ∧ (deP x).nu < a ∧ M[(deP x).nu.toNat]? = some (deP x).bo := by
 obtain ⟨q, j, ⟨h1, h2⟩, rfl⟩ := h
 by_cases hj : j < (enB q).size
 · rw [dec_cut h1 j hj] at he; cases he
 · have hx : (enB q).extract 0 j = enB q := by
    apply ByteArray.ext
    apply Array.ext'
    simp only [ByteArray.data_extract, Array.toList_extract, List.extract, Nat.sub_zero, List.drop_zero]
    rw [List.take_of_length_le]
    have : (enB q).size = (enB q).data.toList.length := rfl
    omega
   rw [hx] at hk ⊢
   rw [(dec_enc h1).1] at hk ⊢
   exact h2 hk
structure Pr (M : List ByteArray) (k : Nat) (c : Ch) : Prop where
 cnt : c.nxt + (c.wai.length : Int) = k
 wai : ∀ (i : Nat) x, c.wai[i]? = some x → M[c.nxt.toNat + i]? = some x
 una : ∀ (i : Nat) x, c.una[i]? = some x → M[c.base.toNat + i]? = some x
 del : ∀ (i : Nat) x, c.del[i]? = some x → M[i]? = some x
 ear : ∀ q ∈ c.ear, M[q.nu.toNat]? = some q.bo
 tos : ∀ x ∈ c.tos, Fl M c.nxt x
theorem snoc_get {α : Type} {l : List α} {m x : α} {i : Nat} (h : (l ++ [m])[i]? = some x) : l[i]? = some x ∨ (i = l.length ∧ x = m) := by
 by_cases hi : i < l.length
 · left; rw [List.getElem?_append_left hi] at h; exact h
 · right
   rw [List.getElem?_append_right (by omega)] at h
   have h0 : i - l.length = 0 := by
    cases hq : i - l.length with
    | zero => rfl
    | succ n => rw [hq] at h; simp at h
   rw [h0] at h
   injection h with h
   exact ⟨by omega, h.symm⟩
theorem right_dat {n : Int} {m : ByteArray} (h0 : 0 ≤ n) (h1 : n ≤ 100000) (hm : m.size ≤ 200) : (⟨1, n, m⟩ : Pk).right = true := by
 unfold Pk.right
 simp; omega
theorem push_fl {l : List ByteArray} {q : Pk} (hq : PkOf M a q) (h : ∀ x ∈ l, Fl M a x) : ∀ x ∈ pushT l q, Fl M a x := by
 unfold pushT
 split
 · intro x hx
   rcases List.mem_append.1 hx with hx | hx
   · exact h x hx
   · rw [List.mem_singleton] at hx; subst hx
     refine ⟨q, (enB q).size, hq, ?_⟩
     rw [show enC q = enB q from if_pos hq.1]
     apply ByteArray.ext
     apply Array.ext'
     simp only [ByteArray.data_extract, Array.toList_extract, List.extract, Nat.sub_zero, List.drop_zero]
     rw [List.take_of_length_le]
     exact Nat.le_refl (enB q).data.toList.length
 · exact h
variable {k : Nat} {c : Ch}
theorem pr_next {k' : Nat} (h : c.G0) (hp : Pr M k c) (m : ByteArray) (r : List ByteArray) (hm : m.size ≤ 200) (hM : M[c.nxt.toNat]? = some m) (hr : ∀ (i : Nat) x, r[i]? = some x → M[c.nxt.toNat + 1 + i]? = some x) (hk : c.nxt + 1 + (r.length : Int) = k') (hn : c.nxt ≤ 10000) : Pr M k' { nextC c m with wai := r } := by
 have h4 := h.base0; have h5 := h.una; have h7 := h.exp1; have h10 := h.exp0
 have hw := wrap1 (n := c.nxt) (by omega) (by omega)
 rw [nextC_eq2, hw]
 have hnn : (c.nxt + 1).toNat = c.nxt.toNat + 1 := by omega
 refine { cnt := hk, wai := fun i x hx => ?_, una := fun i x hx => ?_, del := hp.del, ear := hp.ear, tos := ?_ }
 · show M[(c.nxt + 1).toNat + i]? = some x
   rw [hnn]; exact hr i x hx
 · rcases snoc_get hx with hx | ⟨rfl, rfl⟩
   · exact hp.una i x hx
   · show M[c.base.toNat + c.una.length]? = some x
     rw [show c.base.toNat + c.una.length = c.nxt.toNat by omega]; exact hM
 · refine push_fl ⟨right_dat (by omega) (by omega) hm, fun _ => ⟨by show 0 ≤ c.nxt; omega, by show c.nxt < c.nxt + 1; omega, hM⟩⟩ (fun x hx => (hp.tos x hx).mono (show c.nxt ≤ c.nxt + 1 by omega))
theorem pr_fill : ∀ (n : Nat) {c : Ch}, c.wai.length ≤ n → c.G0 → Pr M k c → Pr M k (fillN n c)
 | 0, c, _, _, hp => hp
 | n + 1, c, hn, h, hp => by
  unfold fillN
  cases hw : c.wai with
  | nil => exact hp
  | cons m r =>
   show Pr M k (if _ then _ else _)
   have hwl : c.wai.length = r.length + 1 := by rw [hw]; rfl
   by_cases hl : (c.una.length : Int) < c.win
   · rw [if_pos hl]
     have hms := h.wt m (by rw [hw]; exact List.mem_cons_self)
     have h3 := h.nxt
     have h1 := hp.cnt
     refine pr_fill n (by show r.length ≤ n; omega) (g0_next h m r (.inl hw) hms hl) (pr_next h hp m r hms ?_ (fun i x hx => ?_) (by omega) (by omega))
     · exact hp.wai 0 m (by rw [hw]; rfl)
     · have := hp.wai (i + 1) x (by rw [hw]; exact hx)
       rw [show c.nxt.toNat + 1 + i = c.nxt.toNat + (i + 1) by omega]; exact this
   · rw [if_neg hl]; exact hp
theorem pr_ack (h : c.Gd) (hp : Pr M k c) (s : ByteArray) : Pr M k (ackC c s) := by
 unfold ackC
 split
 · exact hp
 · rename_i hn
   have hn' := eq_false_of_ne_true hn
   simp only [Bool.or_eq_false_iff, decide_eq_false_iff_not] at hn'
   obtain ⟨⟨_, n1⟩, n2⟩ := hn'
   have h1 := h.unaw; have h2 := h.win1; have h3 := h.nxt; have h4 := h.base0; have h5 := h.una; have h7 := h.exp1; have h10 := h.exp0
   refine pr_fill _ (Nat.le_refl _) { win0 := h.win0, win1 := h.win1, base0 := by show 0 ≤ (deP s).nu; omega, una := ?_, unaw := ?_, nxt := h.nxt, exp0 := by show (deP s).nu ≤ c.exp; omega, exp1 := h.exp1, expd := h.expd, earb := h.earb, ut := fun x hx => h.ut x (List.mem_of_mem_drop hx), wt := h.wt, dt := h.dt, tl := h.tl, bl := h.bl, tt := h.tt, bt := h.bt } { cnt := hp.cnt, wai := hp.wai, una := fun i x hx => ?_, del := hp.del, ear := hp.ear, tos := hp.tos }
   · show c.nxt - (deP s).nu = ((c.una.drop ((deP s).nu - c.base).toNat).length : Int)
     rw [List.length_drop]; omega
   · show ((c.una.drop ((deP s).nu - c.base).toNat).length : Int) ≤ c.win
     rw [List.length_drop]; omega
   · have hx' : (c.una.drop ((deP s).nu - c.base).toNat)[i]? = some x := hx
     rw [List.getElem?_drop] at hx'
     have := hp.una _ x hx'
     show M[(deP s).nu.toNat + i]? = some x
     rw [show (deP s).nu.toNat + i = c.base.toNat + (((deP s).nu - c.base).toNat + i) by omega]; exact this
theorem pr_del (hp : Pr M k c) (q : Pk) (r : List Pk) (hr : ∀ x ∈ r, x ∈ c.ear) (he : c.exp = (c.del.length : Int)) (hq : q.nu = c.exp) (hM : M[q.nu.toNat]? = some q.bo) : Pr M k (delC { c with ear := r } q) :=
 { cnt := hp.cnt, wai := hp.wai, una := hp.una, del := (fun i x hx => by
  rcases snoc_get hx with hx | ⟨rfl, rfl⟩
  · exact hp.del i x hx
  · rw [show q.nu.toNat = c.del.length by omega] at hM; exact hM), ear := fun x hx => hp.ear x (hr x hx), tos := hp.tos }
theorem pr_due : ∀ (n : Nat) {c : Ch}, c.exp = (c.del.length : Int) → c.exp + (c.ear.length : Int) ≤ 100000 → Pr M k c → Pr M k (dueN n c)
 | 0, c, _, _, hp => hp
 | n + 1, c, he, hb, hp => by
  unfold dueN
  cases hw : c.ear with
  | nil => exact hp
  | cons q r =>
   show Pr M k (if _ then _ else _)
   have hwl : c.ear.length = r.length + 1 := by rw [hw]; rfl
   by_cases hq : (q.nu == c.exp) = true
   · rw [if_pos hq]
     have hq' : q.nu = c.exp := by simpa using hq
     have hwr := wrap1 (n := c.exp) (by omega) (by omega)
     refine pr_due n ?_ ?_ (pr_del hp q r (fun x hx => by rw [hw]; exact List.mem_cons_of_mem _ hx) he hq' (hp.ear q (by rw [hw]; exact List.mem_cons_self)))
     · show IntKind.i64.wrap (c.exp + 1) = ((c.del ++ [q.bo]).length : Int)
       rw [hwr, List.length_append]; simp; omega
     · show IntKind.i64.wrap (c.exp + 1) + (r.length : Int) ≤ 100000
       rw [hwr]; omega
   · rw [if_neg hq]; exact hp
theorem insF_mem (q : Pk) : ∀ (l : List Pk), ∀ x ∈ insF q l, x = q ∨ x ∈ l
 | [], x, hx => by rw [insF, List.mem_singleton] at hx; exact .inl hx
 | e :: r, x, hx => by
  unfold insF at hx
  split at hx
  · exact .inr hx
  · split at hx
    · rcases List.mem_cons.1 hx with h | h
      · exact .inl h
      · exact .inr h
    · rcases List.mem_cons.1 hx with h | h
      · exact .inr (h ▸ List.mem_cons_self)
      · rcases insF_mem q r x h with h | h
        · exact .inl h
        · exact .inr (List.mem_cons_of_mem _ h)
theorem pr_ans (hp : Pr M k c) : Pr M k (ansC c) := by
 unfold ansC sendB
 split
 · exact { cnt := hp.cnt, wai := hp.wai, una := hp.una, del := hp.del, ear := hp.ear, tos := hp.tos }
 · exact hp
theorem pr_rcv (h : c.Gd) (hp : Pr M k c) (s : ByteArray) (hs : Fl M c.nxt s) : Pr M k (rcvC c s) := by
 rw [← rcvF_eq (rcv_ofG h)]
 unfold rcvF
 split
 · exact hp
 · rename_i hn
   have hn' := eq_false_of_ne_true hn
   rw [Bool.or_eq_false_iff] at hn'
   have e0 : deE s = 0 := by simpa using hn'.1
   have k0 : (deP s).kd = 1 := by simpa using hn'.2
   obtain ⟨q0, q1, q2⟩ := hs.de e0 k0
   have hsm := sm_of h.toG0.few (chk_of h)
   have g3 := hsm.ear
   have h3 := h.nxt; have h7 := h.exp1; have h4 := h.base0; have h10 := h.exp0
   refine pr_ans ?_
   unfold rcvG
   split
   · rename_i hc
     rw [Bool.and_eq_true] at hc
     have c1 : (deP s).nu = c.exp := by simpa using hc.1
     have hwr := wrap1 (n := c.exp) (by omega) (by omega)
     refine pr_due _ ?_ ?_ (pr_del hp (deP s) c.ear (fun x hx => hx) h.expd c1 q2)
     · show IntKind.i64.wrap (c.exp + 1) = ((c.del ++ [(deP s).bo]).length : Int)
       rw [hwr, List.length_append]; have := h.expd; simp; omega
     · show IntKind.i64.wrap (c.exp + 1) + (c.ear.length : Int) ≤ 100000
       rw [hwr]; omega
   · split
     · exact { cnt := hp.cnt, wai := hp.wai, una := hp.una, del := hp.del, ear := (fun x hx => by
                 rcases insF_mem _ _ x hx with rfl | hx
                 · exact q2
                 · exact hp.ear x hx), tos := hp.tos }
     · exact hp
theorem pr_tick (h : c.Gd) (hp : Pr M k c) : Pr M k (tickC c) := by
 have h1 := h.unaw; have h2 := h.win1; have h3 := h.nxt; have h4 := h.base0; have h5 := h.una; have h7 := h.exp1; have h10 := h.exp0
 have key : ∀ (l : List ByteArray) (z : Nat) (T : List ByteArray), c.una.drop z = l → z ≤ c.una.length → (∀ x ∈ T, Fl M c.nxt x) → ∀ x ∈ tickL c.base z l T, Fl M c.nxt x := by
  intro l
  induction l with
  | nil => exact fun z T _ _ h => h
  | cons m r ih =>
   intro z T hz hzl hT
   have hlt : z < c.una.length := by
    rcases Nat.lt_or_ge z c.una.length with h | h
    · exact h
    · rw [List.drop_eq_nil_of_le h] at hz; cases hz
   have hg : c.una[z]? = some m := by
    have := drop_get (l := c.una) (k := z) (e := c.una[z]) (gE hlt)
    rw [hz] at this
    injection this with h1 _
    rw [gE hlt, h1]
   have hr : c.una.drop (z + 1) = r := by
    have := drop_get (l := c.una) (k := z) (e := m) hg
    rw [hz] at this
    injection this with _ h2
    exact h2.symm
   have hw : IntKind.i64.wrap (c.base + (z : Int)) = c.base + (z : Int) := by simp [IntKind.wrap, IntKind.signed, IntKind.bits]; omega
   unfold tickL
   rw [hw]
   refine ih (z + 1) _ hr hlt (push_fl ⟨right_dat (by omega) (by omega) (h.ut m (mG hg)), fun _ => ⟨by show 0 ≤ c.base + (z : Int); omega, by show c.base + (z : Int) < c.nxt; omega, ?_⟩⟩ hT)
   have := hp.una z m hg
   show M[(c.base + (z : Int)).toNat]? = some m
   rw [show (c.base + (z : Int)).toNat = c.base.toNat + z by omega]; exact this
 exact { cnt := hp.cnt, wai := hp.wai, una := hp.una, del := hp.del, ear := hp.ear, tos := key c.una 0 c.tos rfl (Nat.zero_le _) hp.tos }
theorem pr_tos (hp : Pr M k c) (l : List ByteArray) (h : ∀ x ∈ l, Fl M c.nxt x) : Pr M k { c with tos := l } := { cnt := hp.cnt, wai := hp.wai, una := hp.una, del := hp.del, ear := hp.ear, tos := h }
theorem pr_bak (hp : Pr M k c) (l : List ByteArray) : Pr M k { c with bak := l } := { cnt := hp.cnt, wai := hp.wai, una := hp.una, del := hp.del, ear := hp.ear, tos := hp.tos }
theorem pr_act {n : Nat} (h : c.Gd) (hp : Pr M n c) (k : Int) (b : Bool) (ix at_ : Int) (h0 : (actS c k b ix at_).2 = 0) : Pr M n (actS c k b ix at_).1 := by
 unfold actS at h0 ⊢
 rw [chk_of h, if_neg (by decide)] at h0 ⊢
 by_cases h15 : k < 1 ∨ 5 < k
 · rw [if_pos h15] at h0; cases h0
 rw [if_neg h15] at h0 ⊢
 by_cases h5 : k = 5
 · rw [if_pos h5]; exact pr_tick h hp
 rw [if_neg h5] at h0 ⊢
 by_cases hix : ix < 0 ∨ ((flt c b).length : Int) ≤ ix
 · rw [if_pos hix] at h0; cases h0
 rw [if_neg hix] at h0 ⊢
 obtain ⟨i, rfl⟩ : ∃ i : Nat, ix = (i : Int) := ⟨ix.toNat, by omega⟩
 rw [Int.toNat_natCast] at h0 ⊢
 have hif : i < (flt c b).length := by omega
 obtain ⟨x, hx⟩ : ∃ x, (flt c b)[i]? = some x := ⟨_, gE hif⟩
 rw [List.getD_eq_getElem?_getD, hx, Option.getD_some] at h0 ⊢
 have hxm := mG hx
 obtain ⟨t1, t2⟩ := erase_ok i h.tl h.tt
 obtain ⟨b1, b2⟩ := erase_ok i h.bl h.bt
 have herT : ∀ y ∈ c.tos.eraseIdx i, Fl M c.nxt y := fun y hy => hp.tos y (List.mem_of_mem_eraseIdx hy)
 unfold actK at h0 ⊢
 by_cases k1 : k = 1
 · rw [if_pos k1]
   cases b with
   | true => exact pr_ack (gd_bak h _ b1 b2) (pr_bak hp _) x
   | false => exact pr_rcv (gd_tos h _ t1 t2) (pr_tos hp _ herT) x (hp.tos x hxm)
 rw [if_neg k1] at h0 ⊢
 by_cases k2 : k = 2
 · rw [if_pos k2]
   cases b with
   | true => exact pr_bak hp _
   | false => exact pr_tos hp _ herT
 rw [if_neg k2] at h0 ⊢
 by_cases k3 : k = 3
 · rw [if_pos k3] at h0 ⊢
   by_cases hl : (flt c b).length = 200
   · rw [if_pos hl] at h0; cases h0
   · rw [if_neg hl]
     cases b with
     | true => exact pr_bak hp _
     | false => exact pr_tos hp _ (fun y hy => by
      rcases List.mem_append.1 hy with hy | hy
      · exact hp.tos y hy
      · rw [List.mem_singleton] at hy; subst hy; exact hp.tos _ hxm)
 rw [if_neg k3] at h0 ⊢
 by_cases ha : at_ < 0 ∨ at_ ≥ (x.size : Int)
 · rw [if_pos ha] at h0; cases h0
 · rw [if_neg ha]
   cases b with
   | true => exact pr_bak hp _
   | false => exact pr_tos hp _ (fun y hy => by
    rcases List.mem_or_eq_of_mem_set hy with hy | hy
    · exact hp.tos y hy
    · subst hy; exact (hp.tos _ hxm).cut _)
theorem pr_play : ∀ (l : List Ac) (s : Ch × Int), s.1.Gd → Pr M k s.1 → (playF l s).1.Gd ∧ Pr M k (playF l s).1
 | [], s, h, hp => ⟨h, hp⟩
 | a :: r, s, h, hp => by
  unfold playF
  by_cases h0 : (actS s.1 a.k a.b a.ix a.at_).2 = 0
  · rw [if_pos h0]
    refine pr_play r _ ?_ (pr_act h hp _ _ _ _ h0)
    rcases gd_act h a.k a.b a.ix a.at_ with ⟨_, h1⟩ | ⟨h1, _⟩
    · exact absurd h0 h1
    · exact h1
  · rw [if_neg h0]
    exact pr_play r s h hp
theorem pr_send (h : c.Gd) (hp : Pr M k c) (m : ByteArray) (hm : m.size ≤ 200) (hM : M[k]? = some m) (hk : k < 10000) : sendE c m = 0 ∧ (sendS c m).Gd ∧ Pr M (k + 1) (sendS c m) := by
 have h1 := h.unaw; have h2 := h.win1; have h3 := h.nxt; have h4 := h.base0; have h5 := h.una; have h7 := h.exp1; have h10 := h.exp0
 have hc := hp.cnt
 have hw : IntKind.i64.wrap (c.nxt + (c.wai.length : Int)) = c.nxt + (c.wai.length : Int) := by simp [IntKind.wrap, IntKind.signed, IntKind.bits]; omega
 unfold sendE sendS
 have hms : ¬ (m.size : Int) > 200 := by omega
 have hne : ¬ c.nxt + (c.wai.length : Int) = 10000 := by omega
 simp only [chk_of h, hw, hms, hne, if_false, Bool.false_eq_true]
 refine ⟨trivial, ?_⟩
 by_cases hl : (c.una.length : Int) < c.win
 · rw [if_pos hl]
   have hwn := h.wai hl
   have e1 : nextC c m = { nextC c m with wai := [] } := by
    have : (nextC c m).wai = [] := by rw [(nextC_wai c m).1, hwn]
    cases hq : nextC c m with
    | mk a1 a2 a3 a4 a5 a6 a7 a8 a9 a10 => rw [hq] at this; dsimp only at this; rw [this]
   rw [e1]
   have hn0 : c.nxt = k := by rw [hwn] at hc; simpa using hc
   have g0 := g0_next h.toG0 m [] (.inr ⟨by omega, hwn, rfl⟩) hm hl
   refine ⟨{ toG0 := g0, wai := fun _ => rfl }, pr_next h.toG0 hp m [] hm (by rw [hn0]; exact hM) (fun i x hx => by simp at hx) (by simp; omega) (by omega)⟩
 · rw [if_neg hl]
   refine ⟨{ h with nxt := by show c.nxt + ((c.wai ++ [m]).length : Int) ≤ 10000; rw [List.length_append]; simp; omega, wt := mem_snoc h.wt hm, wai := fun h' => absurd h' hl }, { cnt := by show c.nxt + ((c.wai ++ [m]).length : Int) = ((k + 1 : Nat) : Int); rw [List.length_append]; simp; omega, wai := fun i x hx => ?_, una := hp.una, del := hp.del, ear := hp.ear, tos := hp.tos }⟩
   rcases snoc_get hx with hx | ⟨rfl, rfl⟩
   · exact hp.wai i x hx
   · show M[c.nxt.toNat + c.wai.length]? = some x
     rw [show c.nxt.toNat + c.wai.length = k by omega]; exact hM
theorem pr_new {n : Int} (h0 : 1 ≤ n) (h1 : n ≤ 16) : newE n = 0 ∧ newS n = newC n ∧ (newC n).Gd ∧ Pr M 0 (newC n) := by
 have hb : (decide (n < 1) || decide (n > 16)) = false := by simp; omega
 refine ⟨by unfold newE; rw [hb]; rfl, by unfold newS; rw [hb]; rfl, ?_, ?_⟩
 · exact { win0 := h0, win1 := h1, base0 := Int.le_refl 0, una := rfl, unaw := by show (0 : Int) ≤ n; omega, nxt := by show (0 : Int) + ((0 : Nat) : Int) ≤ 10000; decide, exp0 := Int.le_refl 0, exp1 := Int.le_refl 0, expd := rfl, earb := rfl, ut := (fun x hx => by cases hx), wt := (fun x hx => by cases hx), dt := (fun x hx => by cases hx), tl := Nat.zero_le _, bl := Nat.zero_le _, tt := (fun x hx => by cases hx), bt := (fun x hx => by cases hx), wai := fun _ => rfl }
 · exact { cnt := rfl, wai := (fun i x hx => by simp [newC, zeroC] at hx), una := (fun i x hx => by simp [newC, zeroC] at hx), del := (fun i x hx => by simp [newC, zeroC] at hx), ear := (fun q hq => by cases hq), tos := (fun x hx => by cases hx) }
end
section
variable {c : Ch}
theorem cj4L {n : Nat} {S0 : Reg} {O0 : Owns} {w0 : World} {m0 Bs : List Nat} {ds : List Deferred} {fr : List Fr} {Q : Exit → GS → Prop} {ops : Array Oper} {i : Nat} {l : List Nat} {sl : List (Nat × PV)} {x1 x2 x3 x4 : List PV} {ex : List (List PV)} {t : Nat} {f : FuncId} {args : List PV} {c' : Ch} {p : Pp} {r : PV} (h : cms ops.toList n i sl = some (t, f, args)) (hL : Lad S0 w0) (hc : MtL f args c r c') (hp : p.Ok)
 (hg : ∀ p', p'.Ok → GF ⟨Tryd.prog, n, S0, O0, w0, m0, Bs, ds⟩ fr (.ops ops l) Q ⟨(t, r) :: sansL [5, 6, 7, 8, 9, 10] sl, ChA c' p' 5 6 7 8 9 10 :: x1 :: x2 :: x3 :: x4 :: (ChR c' p' ++ ex)⟩) (hm0 : m0.length ≤ 5 := by omega) (hargs : args = PV.rens (fun b => [0, 5, 6, 7, 8, 9, 10].getD b 0) args := by rfl) (hra : PV.refsBs 7 args = true := by rfl) (hr : r.ren (renN [0, 5, 6, 7, 8, 9, 10] (ChA c p 5 6 7 8 9 10 :: x1 :: x2 :: x3 :: x4 :: (ChR c p ++ ex)).length) = r := by rfl) (hx : exB [5, 6, 7, 8, 9, 10] [x1, x2, x3, x4] = true := by rfl) (hex : exB [5, 6, 7, 8, 9, 10] ex = true := by rfl) : GF ⟨Tryd.prog, n, S0, O0, w0, m0, Bs, ds⟩ fr (.ops ops (i :: l)) Q ⟨sl, ChA c p 5 6 7 8 9 10 :: x1 :: x2 :: x3 :: x4 :: (ChR c p ++ ex)⟩ := by
 refine gJX (jn := 1) [0, 5, 6, 7, 8, 9, 10] h (hc p hp).1 ((hc p hp).2 _ _ hL) hargs (by decide) (fun b hb => ?_) ?_ hra (ChM_refs c p) (fun b hb => ?_) ?_ ?_
 · have : b < 11 := by
    have h : ∀ b ∈ [0, 5, 6, 7, 8, 9, 10], b < 11 := by decide
    exact h b hb
   have h7 : (ChA c p 5 6 7 8 9 10 :: x1 :: x2 :: x3 :: x4 :: (ChR c p ++ ex)).length = 11 + ex.length := by simp [ChR]; omega
   omega
 · rw [ChM_rens]; rfl
 · have h1 : 5 ≤ b := by
    have h : ∀ b ∈ [5, 6, 7, 8, 9, 10], 5 ≤ b := by decide
    exact h b hb
   exact Nat.le_trans hm0 h1
 · have h1 := nrefLM_ex [5, 6, 7, 8, 9, 10] [0, 5, 6, 7, 8, 9, 10] ex 11 hex
   have h2 := nrefLM_ex [5, 6, 7, 8, 9, 10] [0, 5, 6, 7, 8, 9, 10] [x1, x2, x3, x4] 1 hx
   have h3 := nrefLM_app [5, 6, 7, 8, 9, 10] [0, 5, 6, 7, 8, 9, 10] ([x1, x2, x3, x4]) (ChR c p ++ ex) 1 h2 (nrefLM_app [5, 6, 7, 8, 9, 10] [0, 5, 6, 7, 8, 9, 10] (ChR c p) ex 5 (nrefLM_ex [5, 6, 7, 8, 9, 10] [0, 5, 6, 7, 8, 9, 10] (ChR c p) 5 (ChR_exB _ c p)) h1)
   show ((true || _) && _) = true
   rw [Bool.true_or, Bool.true_and]
   exact h3
 · rintro q m ⟨rfl, p', hp', rfl⟩ _
   have h2 : stJ 1 [0, 5, 6, 7, 8, 9, 10] sl (ChA c p 5 6 7 8 9 10 :: x1 :: x2 :: x3 :: x4 :: (ChR c p ++ ex)) t q (ChM c' p') = ⟨(t, q) :: sansL [5, 6, 7, 8, 9, 10] sl, ChA c' p' 5 6 7 8 9 10 :: x1 :: x2 :: x3 :: x4 :: (ChR c' p' ++ ex)⟩ := by
    unfold stJ
    rw [hr]
    refine Z21 ?_
    rw [show (ChM c' p').take (List.length [0, 5, 6, 7, 8, 9, 10]) = ChM c' p' from rfl, show (ChM c' p').drop (List.length [0, 5, 6, 7, 8, 9, 10]) = [] from rfl, ChM_rens, List.map_nil, List.append_nil]
    rfl
   rw [h2]
   exact hg p' hp'
def allT : Nat → Ch → Ch
 | 0, c => c
 | n + 1, c => match c.tos with
  | [] => c
  | x :: _ => allT n (rcvC { c with tos := c.tos.eraseIdx 0 } x)
def allB : Nat → Ch → Ch
 | 0, c => c
 | n + 1, c => match c.bak with
  | [] => c
  | x :: _ => allB n (ackC { c with bak := c.bak.eraseIdx 0 } x)
theorem dueN_tos : ∀ (n : Nat) (c : Ch), (dueN n c).tos = c.tos ∧ (dueN n c).wai = c.wai ∧ (dueN n c).una = c.una ∧ (dueN n c).win = c.win ∧ (dueN n c).base = c.base ∧ (dueN n c).nxt = c.nxt ∧ (dueN n c).bak = c.bak
 | 0, c => ⟨rfl, rfl, rfl, rfl, rfl, rfl, rfl⟩
 | n + 1, c => by
  unfold dueN
  cases hw : c.ear with
  | nil => exact ⟨rfl, rfl, rfl, rfl, rfl, rfl, rfl⟩
  | cons q r =>
   show Ch.tos (if _ then _ else _) = _ ∧ Ch.wai (if _ then _ else _) = _ ∧ Ch.una (if _ then _ else _) = _ ∧ Ch.win (if _ then _ else _) = _ ∧ Ch.base (if _ then _ else _) = _ ∧ Ch.nxt (if _ then _ else _) = _ ∧ Ch.bak (if _ then _ else _) = _
   by_cases hq : (q.nu == c.exp) = true
   · simp only [hq, if_true]
     exact dueN_tos n _
   · simp only [hq, if_false]
     exact ⟨rfl, rfl, rfl, rfl, rfl, rfl, rfl⟩
theorem rcvD_tos (c : Ch) (q : Pk) : (rcvD c q).tos = c.tos ∧ (rcvD c q).wai = c.wai ∧ (rcvD c q).una = c.una ∧ (rcvD c q).win = c.win ∧ (rcvD c q).base = c.base ∧ (rcvD c q).nxt = c.nxt ∧ (rcvD c q).bak = c.bak := by
 unfold rcvD
 split
 · exact ⟨rfl, rfl, rfl, rfl, rfl, rfl, rfl⟩
 · split
   · exact dueN_tos _ _
   · split
     · split <;> exact ⟨rfl, rfl, rfl, rfl, rfl, rfl, rfl⟩
     · exact ⟨rfl, rfl, rfl, rfl, rfl, rfl, rfl⟩
theorem ansC_tos (c : Ch) : (ansC c).tos = c.tos ∧ (ansC c).wai = c.wai ∧ (ansC c).una = c.una ∧ (ansC c).win = c.win ∧ (ansC c).base = c.base ∧ (ansC c).nxt = c.nxt := by
 unfold ansC sendB
 split <;> exact ⟨rfl, rfl, rfl, rfl, rfl, rfl⟩
theorem rcvC_tos (c : Ch) (s : ByteArray) : (rcvC c s).tos = c.tos ∧ (rcvC c s).wai = c.wai ∧ (rcvC c s).una = c.una ∧ (rcvC c s).win = c.win ∧ (rcvC c s).base = c.base ∧ (rcvC c s).nxt = c.nxt := by
 unfold rcvC
 split
 · obtain ⟨h1, h2, h3, h4, h5, h6⟩ := ansC_tos (rcvD c (deP s))
   obtain ⟨g1, g2, g3, g4, g5, g6, _⟩ := rcvD_tos c (deP s)
   exact ⟨h1.trans g1, h2.trans g2, h3.trans g3, h4.trans g4, h5.trans g5, h6.trans g6⟩
 · exact ⟨rfl, rfl, rfl, rfl, rfl, rfl⟩
theorem gd_hd (h : c.Gd) : Ch.Gd { c with tos := c.tos.eraseIdx 0 } := gd_tos h _ (erase_ok 0 h.tl h.tt).1 (erase_ok 0 h.tl h.tt).2
theorem gd_hb (h : c.Gd) : Ch.Gd { c with bak := c.bak.eraseIdx 0 } := gd_bak h _ (erase_ok 0 h.bl h.bt).1 (erase_ok 0 h.bl h.bt).2
theorem nextC_bak (c : Ch) (m : ByteArray) (r : List ByteArray) : Ch.bak { nextC c m with wai := r } = c.bak ∧ Ch.base { nextC c m with wai := r } = c.base ∧ Ch.wai { nextC c m with wai := r } = r := by
 rw [nextC_eq2]; exact ⟨rfl, rfl, rfl⟩
theorem fillN_bak : ∀ (n : Nat) (c : Ch), (fillN n c).bak = c.bak ∧ c.base = (fillN n c).base ∧ (fillN n c).wai.length ≤ c.wai.length ∧ ((fillN n c).wai.length < c.wai.length ∨ (fillN n c).tos = c.tos)
 | 0, c => ⟨rfl, rfl, Nat.le_refl _, .inr rfl⟩
 | n + 1, c => by
  rcases hw : c.wai with _ | ⟨m, r⟩
  · have e : fillN (n + 1) c = c := by unfold fillN; rw [hw]
    rw [e, hw]; exact ⟨rfl, rfl, Nat.le_refl _, .inr rfl⟩
  · have e : fillN (n + 1) c = if (c.una.length : Int) < c.win then fillN n { nextC c m with wai := r } else c := by
     conv => lhs; unfold fillN
     rw [hw]
    by_cases hl : (c.una.length : Int) < c.win
    · have key : ∀ c' : Ch, c'.bak = c.bak → c'.base = c.base → c'.wai = r → (fillN n c').bak = c.bak ∧ c.base = (fillN n c').base ∧ (fillN n c').wai.length ≤ (m :: r).length ∧ ((fillN n c').wai.length < (m :: r).length ∨ (fillN n c').tos = c.tos) := fun c' g1 g2 g3 => by
       obtain ⟨h1, h2, h3, _⟩ := fillN_bak n c'
       rw [g1] at h1
       rw [g2] at h2
       rw [g3] at h3
       exact ⟨h1, h2, by simp only [List.length_cons]; omega, .inl (by simp only [List.length_cons]; omega)⟩
      rw [e, if_pos hl]
      exact key _ (nextC_bak c m r).1 (nextC_bak c m r).2.1 (nextC_bak c m r).2.2
    · rw [e, if_neg hl, hw]; exact ⟨rfl, rfl, Nat.le_refl _, .inr rfl⟩
theorem ackC_bak {s : ByteArray} : (ackC c s).bak = c.bak := by
 unfold ackC
 split
 · rfl
 · exact (fillN_bak _ _).1
set_option maxRecDepth 100000 in
theorem c53t (c : Ch) (hg : c.Gd) : MtL 53 [.ref 0 0, .d (.bool false)] c (.tup []) (allT c.tos.length c) := by
 intro p hp
 generalize hF : allT c.tos.length c = F
 refine glB 1 7 Tryd.func53 Tryd.ntmps53 Tryd.results53 (fun S0 O0 w0 m0 hL hm0 => ?_)
 repeat' first | refine s_ ?_ | fail
 refine fz true (by exact rfl) ?_ (by rw [hm0]; decide) (ChM_refs c p)
 refine gLo (fun x : Ch × Pp => ⟨[(0, .ref 0 0), (4, .d (.ptr (.agg [.int .i64 1, .bool false, .int .i64 0, .int .i64 0])))], ChM x.1 x.2⟩) (fun x => x.1.tos.length) (fun x => x.2.Ok ∧ x.1.Gd ∧ allT x.1.tos.length x.1 = F) (c, p) ⟨hp, hg, hF⟩ (leKp ⟨rfl, rfl, trivial⟩) (fun x hx Q' hn he hr hp2 => ?_)
 obtain ⟨c3, p3⟩ := x
 obtain ⟨hp3, hg3, hF3⟩ : p3.Ok ∧ c3.Gd ∧ allT c3.tos.length c3 = F := hx
 have q44 := c44tf c3 1 0 0
 unfold acD at q44
 refine (show GF _ _ _ _ ⟨[(0, .ref 0 0), (4, .d (.ptr (.agg [.int .i64 1, .bool false, .int .i64 0, .int .i64 0])))], ChM c3 p3 ++ []⟩ from ?_)
 repeat' first | refine s_ ?_ | fail
 refine cjf (by exact rfl) q44 hp3 ?_
 repeat' first | refine s_ ?_ | fail
 refine d_ (fun hb => ?_) (fun hb => ?_)
 · have hpos : 0 < c3.tos.length := by have := oR hb; rw [sD_len] at this; omega
   obtain ⟨x, hx0⟩ : ∃ x, c3.tos[0]? = some x := ⟨_, gE hpos⟩
   have q45 := c45t c3 1 0 0 hx0 hg3.few (rcv_ofG hg3)
   unfold acD at q45
   repeat' first | refine s_ ?_ | fail
   refine kp [(15, .d (.agg [.int .i64 1, .bool false, .int .i64 0, .int .i64 0])), (14, .ref 0 0), (0, .ref 0 0), (4, .d (.ptr (.agg [.int .i64 1, .bool false, .int .i64 0, .int .i64 0])))] ⟨rfl, rfl, rfl, rfl, trivial⟩ ?_
   refine cjL (by exact rfl) hL q45 hp3 (fun p4 hp4 => ?_)
   have hF4 : allT (rcvC { c3 with tos := c3.tos.eraseIdx 0 } x).tos.length (rcvC { c3 with tos := c3.tos.eraseIdx 0 } x) = F := by
    rw [← hF3]
    obtain ⟨y, r, hr⟩ : ∃ y r, c3.tos = y :: r := by
     cases hq : c3.tos with
     | nil => rw [hq] at hpos; simp at hpos
     | cons y r => exact ⟨y, r, rfl⟩
    have hxy : x = y := by rw [hr] at hx0; injection hx0 with h; exact h.symm
    have hl : (rcvC { c3 with tos := c3.tos.eraseIdx 0 } x).tos.length = r.length := by
     rw [(rcvC_tos _ _).1]
     show (c3.tos.eraseIdx 0).length = r.length
     rw [hr]; rfl
    rw [hl]
    conv => rhs; rw [hr]
    show _ = allT (r.length + 1) c3
    conv => rhs; unfold allT
    rw [hr]
    subst hxy
    rfl
   have hlt : (rcvC { c3 with tos := c3.tos.eraseIdx 0 } x).tos.length < c3.tos.length := by
    rw [(rcvC_tos _ _).1]
    show (c3.tos.eraseIdx 0).length < _
    rw [List.length_eraseIdx]
    rw [if_pos hpos]; omega
   have hg4 := gd_rcv (gd_hd hg3) x
   generalize rcvC { c3 with tos := c3.tos.eraseIdx 0 } x = c4 at hF4 hlt hg4 ⊢
   iterate 11 refine s_ ?_
   refine fz true (by exact rfl) ?_ (by rw [hm0]; decide) (ChM_refs c4 p4)
   repeat' first | refine s_ ?_ | fail
   exact toL (hn _ (c4, p4) ⟨hp4, hg4, hF4⟩ hlt (leKp ⟨rfl, rfl, trivial⟩))
 · have hnil : c3.tos.length = 0 := by have := of_decide_eq_false hb; rw [sD_len] at this; omega
   rw [hnil] at hF3
   have hF5 : c3 = F := hF3
   subst hF5
   repeat' first | refine s_ ?_ | fail
   refine Z15 ?_
   repeat' first | refine s_ ?_ | fail
   exact Y4
set_option maxRecDepth 100000 in
theorem c53b (c : Ch) (hg : c.Gd) : MtL 53 [.ref 0 0, .d (.bool true)] c (.tup []) (allB c.bak.length c) := by
 intro p hp
 generalize hF : allB c.bak.length c = F
 refine glB 1 7 Tryd.func53 Tryd.ntmps53 Tryd.results53 (fun S0 O0 w0 m0 hL hm0 => ?_)
 repeat' first | refine s_ ?_ | fail
 refine fz true (by exact rfl) ?_ (by rw [hm0]; decide) (ChM_refs c p)
 refine gLo (fun x : Ch × Pp => ⟨[(0, .ref 0 0), (4, .d (.ptr (.agg [.int .i64 1, .bool true, .int .i64 0, .int .i64 0])))], ChM x.1 x.2⟩) (fun x => x.1.bak.length) (fun x => x.2.Ok ∧ x.1.Gd ∧ allB x.1.bak.length x.1 = F) (c, p) ⟨hp, hg, hF⟩ (leKp ⟨rfl, rfl, trivial⟩) (fun x hx Q' hn he hr hp2 => ?_)
 obtain ⟨c3, p3⟩ := x
 obtain ⟨hp3, hg3, hF3⟩ : p3.Ok ∧ c3.Gd ∧ allB c3.bak.length c3 = F := hx
 have q44 := c44bf c3 1 0 0
 unfold acD at q44
 refine (show GF _ _ _ _ ⟨[(0, .ref 0 0), (4, .d (.ptr (.agg [.int .i64 1, .bool true, .int .i64 0, .int .i64 0])))], ChM c3 p3 ++ []⟩ from ?_)
 repeat' first | refine s_ ?_ | fail
 refine cjf (by exact rfl) q44 hp3 ?_
 repeat' first | refine s_ ?_ | fail
 refine d_ (fun hb => ?_) (fun hb => ?_)
 · have hpos : 0 < c3.bak.length := by have := oR hb; rw [sD_len] at this; omega
   obtain ⟨x, hx0⟩ : ∃ x, c3.bak[0]? = some x := ⟨_, gE hpos⟩
   have q45 := c45b c3 1 0 0 hx0 hg3.few (by have := hg3.win1; omega) hg3.base0 (by have := hg3.una; have := hg3.exp1; omega)
   unfold acD at q45
   repeat' first | refine s_ ?_ | fail
   refine kp [(15, .d (.agg [.int .i64 1, .bool true, .int .i64 0, .int .i64 0])), (14, .ref 0 0), (0, .ref 0 0), (4, .d (.ptr (.agg [.int .i64 1, .bool true, .int .i64 0, .int .i64 0])))] ⟨rfl, rfl, rfl, rfl, trivial⟩ ?_
   refine cjL (by exact rfl) hL q45 hp3 (fun p4 hp4 => ?_)
   have hF4 : allB (ackC { c3 with bak := c3.bak.eraseIdx 0 } x).bak.length (ackC { c3 with bak := c3.bak.eraseIdx 0 } x) = F := by
    rw [← hF3]
    obtain ⟨y, r, hr⟩ : ∃ y r, c3.bak = y :: r := by
     cases hq : c3.bak with
     | nil => rw [hq] at hpos; simp at hpos
     | cons y r => exact ⟨y, r, rfl⟩
    have hxy : x = y := by rw [hr] at hx0; injection hx0 with h; exact h.symm
    have hl : (ackC { c3 with bak := c3.bak.eraseIdx 0 } x).bak.length = r.length := by
     rw [ackC_bak]
     show (c3.bak.eraseIdx 0).length = r.length
     rw [hr]; rfl
    rw [hl]
    conv => rhs; rw [hr]
    show _ = allB (r.length + 1) c3
    conv => rhs; unfold allB
    rw [hr]
    subst hxy
    rfl
   have hlt : (ackC { c3 with bak := c3.bak.eraseIdx 0 } x).bak.length < c3.bak.length := by
    rw [ackC_bak]
    show (c3.bak.eraseIdx 0).length < _
    rw [List.length_eraseIdx]
    rw [if_pos hpos]; omega
   have hg4 := gd_ack (gd_hb hg3) x
   generalize ackC { c3 with bak := c3.bak.eraseIdx 0 } x = c4 at hF4 hlt hg4 ⊢
   iterate 11 refine s_ ?_
   refine fz true (by exact rfl) ?_ (by rw [hm0]; decide) (ChM_refs c4 p4)
   repeat' first | refine s_ ?_ | fail
   exact toL (hn _ (c4, p4) ⟨hp4, hg4, hF4⟩ hlt (leKp ⟨rfl, rfl, trivial⟩))
 · have hnil : c3.bak.length = 0 := by have := of_decide_eq_false hb; rw [sD_len] at this; omega
   rw [hnil] at hF3
   have hF5 : c3 = F := hF3
   subst hF5
   repeat' first | refine s_ ?_ | fail
   refine Z15 ?_
   repeat' first | refine s_ ?_ | fail
   exact Y4
end
section
theorem allT_ok : ∀ (n : Nat) (c : Ch), c.tos.length ≤ n → c.Gd → (allT n c).Gd ∧ (allT n c).tos = [] ∧ (allT n c).wai = c.wai ∧ (allT n c).una = c.una ∧ (allT n c).win = c.win ∧ (allT n c).base = c.base ∧ (allT n c).nxt = c.nxt
 | 0, c, hn, h => ⟨h, List.eq_nil_of_length_eq_zero (show c.tos.length = 0 by omega), rfl, rfl, rfl, rfl, rfl⟩
 | n + 1, c, hn, h => by
  rcases hw : c.tos with _ | ⟨x, r⟩
  · have e : allT (n + 1) c = c := by unfold allT; rw [hw]
    rw [e]; exact ⟨h, hw, rfl, rfl, rfl, rfl, rfl⟩
  · have e : allT (n + 1) c = allT n (rcvC { c with tos := c.tos.eraseIdx 0 } x) := by
     conv => lhs; unfold allT
     rw [hw]
    obtain ⟨g1, g2, g3, g4, g5, g6⟩ := rcvC_tos { c with tos := c.tos.eraseIdx 0 } x
    have hl : (rcvC { c with tos := c.tos.eraseIdx 0 } x).tos.length ≤ n := by
     rw [g1]
     show (c.tos.eraseIdx 0).length ≤ n
     rw [hw] at hn ⊢
     simp at hn ⊢; exact hn
    obtain ⟨f1, f2, f3, f4, f5, f6, f7⟩ := allT_ok n _ hl (gd_rcv (gd_hd h) x)
    rw [e]
    exact ⟨f1, f2, f3.trans g2, f4.trans g3, f5.trans g4, f6.trans g5, f7.trans g6⟩
theorem ackC_wai (c : Ch) (s : ByteArray) : (ackC c s).wai.length ≤ c.wai.length ∧ ((ackC c s).wai.length < c.wai.length ∨ (ackC c s).tos = c.tos) ∧ c.base ≤ (ackC c s).base := by
 unfold ackC
 split
 · exact ⟨Nat.le_refl _, .inr rfl, Int.le_refl _⟩
 · rename_i hn
   have hn' := eq_false_of_ne_true hn
   simp only [Bool.or_eq_false_iff, decide_eq_false_iff_not] at hn'
   obtain ⟨h1, h2, h3, h4⟩ := fillN_bak c.wai.length { c with una := c.una.drop ((deP s).nu - c.base).toNat, base := (deP s).nu }
   refine ⟨h3, h4, ?_⟩
   rw [← h2]
   show c.base ≤ (deP s).nu
   omega
theorem allB_ok : ∀ (n : Nat) (c : Ch), c.bak.length ≤ n → c.Gd → (allB n c).Gd ∧ (allB n c).bak = [] ∧ (allB n c).wai.length ≤ c.wai.length ∧ ((allB n c).wai.length < c.wai.length ∨ (allB n c).tos = c.tos) ∧ c.base ≤ (allB n c).base
 | 0, c, hn, h => ⟨h, List.eq_nil_of_length_eq_zero (show c.bak.length = 0 by omega), Nat.le_refl _, .inr rfl, Int.le_refl _⟩
 | n + 1, c, hn, h => by
  rcases hw : c.bak with _ | ⟨x, r⟩
  · have e : allB (n + 1) c = c := by unfold allB; rw [hw]
    rw [e]; exact ⟨h, hw, Nat.le_refl _, .inr rfl, Int.le_refl _⟩
  · have e : allB (n + 1) c = allB n (ackC { c with bak := c.bak.eraseIdx 0 } x) := by
     conv => lhs; unfold allB
     rw [hw]
    obtain ⟨g1, g2, g3⟩ := ackC_wai { c with bak := c.bak.eraseIdx 0 } x
    have g1' : (ackC { c with bak := c.bak.eraseIdx 0 } x).wai.length ≤ c.wai.length := g1
    have g2' : (ackC { c with bak := c.bak.eraseIdx 0 } x).wai.length < c.wai.length ∨ (ackC { c with bak := c.bak.eraseIdx 0 } x).tos = c.tos := g2
    have g3' : c.base ≤ (ackC { c with bak := c.bak.eraseIdx 0 } x).base := g3
    have hl : (ackC { c with bak := c.bak.eraseIdx 0 } x).bak.length ≤ n := by
     rw [ackC_bak]
     show (c.bak.eraseIdx 0).length ≤ n
     rw [hw] at hn ⊢
     simp at hn ⊢; exact hn
    obtain ⟨f1, f2, f3, f4, f5⟩ := allB_ok n _ hl (gd_ack (gd_hb h) x)
    rw [e]
    refine ⟨f1, f2, by omega, ?_, by omega⟩
    rcases f4 with f4 | f4
    · left; omega
    · rcases g2' with g | g
      · left; omega
      · right; exact f4.trans g
def roundC (c : Ch) : Ch := allB (allT c.tos.length c).bak.length (allT c.tos.length c)
def muC (c : Ch) : Nat := c.wai.length + (if c.tos = [] ∧ c.bak = [] then 0 else 1)
def drainF : Nat → Ch → Ch
 | 0, c => c
 | n + 1, c => if c.tos = [] ∧ c.bak = [] then c else drainF n (roundC c)
def drainS (c : Ch) : Ch := drainF (muC c) c
variable {c : Ch}
theorem round_ok (h : c.Gd) : (roundC c).Gd ∧ (roundC c).bak = [] ∧ c.base ≤ (roundC c).base ∧ (¬ (c.tos = [] ∧ c.bak = []) → muC (roundC c) < muC c) := by
 obtain ⟨f1, f2, f3, f4, f5, f6, f7⟩ := allT_ok c.tos.length c (Nat.le_refl _) h
 obtain ⟨g1, g2, g3, g4, g5⟩ := allB_ok (allT c.tos.length c).bak.length (allT c.tos.length c) (Nat.le_refl _) f1
 refine ⟨g1, g2, by rw [f6] at g5; exact g5, fun hne => ?_⟩
 have hb : (roundC c).bak = [] := g2
 rw [f3] at g3 g4
 have g3' : (roundC c).wai.length ≤ c.wai.length := g3
 have g4' : (roundC c).wai.length < c.wai.length ∨ (roundC c).tos = [] := by
  rcases g4 with g | g
  · exact .inl g
  · exact .inr (g.trans f2)
 unfold muC
 rw [if_neg hne]
 rcases g4' with g | g
 · split <;> omega
 · rw [if_pos ⟨g, hb⟩]; omega
theorem drain_step {n : Nat} (h : c.Gd) (hn : muC c ≤ n) (hne : ¬ (c.tos = [] ∧ c.bak = [])) : ∃ m, muC (roundC c) ≤ m ∧ drainF n c = drainF m (roundC c) := by
 have h1 := (round_ok h).2.2.2 hne
 cases n with
 | zero => omega
 | succ m =>
  refine ⟨m, by omega, ?_⟩
  conv => lhs; unfold drainF
  rw [if_neg hne]
theorem drain_end (n : Nat) (he : c.tos = [] ∧ c.bak = []) : drainF n c = c := by
 cases n with
 | zero => rfl
 | succ m => unfold drainF; rw [if_pos he]
theorem drain_ok : ∀ (n : Nat) {c : Ch}, muC c ≤ n → c.Gd → (drainF n c).Gd ∧ (drainF n c).tos = [] ∧ (drainF n c).bak = [] ∧ c.base ≤ (drainF n c).base
 | 0, c, hn, h => by
  by_cases he : c.tos = [] ∧ c.bak = []
  · exact ⟨h, he.1, he.2, Int.le_refl _⟩
  · exfalso; unfold muC at hn; rw [if_neg he] at hn; omega
 | n + 1, c, hn, h => by
  by_cases he : c.tos = [] ∧ c.bak = []
  · rw [drain_end _ he]; exact ⟨h, he.1, he.2, Int.le_refl _⟩
  · obtain ⟨h1, h2, h3, h4⟩ := round_ok h
    have := h4 he
    obtain ⟨g1, g2, g3, g4⟩ := drain_ok n (c := roundC c) (by omega) h1
    have e : drainF (n + 1) c = drainF n (roundC c) := by conv => lhs; unfold drainF; rw [if_neg he]
    rw [e]
    exact ⟨g1, g2, g3, by omega⟩
def settleF : Nat → Nat → Int × Int → Ch → Ch × Int × Int
 | 0, _, _, _ => (zeroC, 0, 8)
 | n + 1, t, last, c => if (drainS c).una = [] then (drainS c, (t : Int), 0) else if t = 20000 ∨ ((drainS c).base = last.1 ∧ (drainS c).exp = last.2) then (zeroC, 0, 8) else settleF n (t + 1) ((drainS c).base, (drainS c).exp) (tickC (drainS c))
def settleS (c : Ch) : Ch × Int × Int := if chkC c = true then (zeroC, 0, 331) else settleF 20001 0 (-1, -1) c
theorem und94 : Tryd.prog.underlying 94 = some (.array 2 3) := by kernel_rfl
theorem eq_arr (a b c d : Int) (w : World) : (Op.equalIn 10000 94 (.agg #[.int .i64 a, .int .i64 b]) (.agg #[.int .i64 c, .int .i64 d])).run Tryd.prog w = .ok (a == c && b == d) w := by
 obtain ⟨i0, hi0⟩ := Option.isSome_iff_exists.1 (show (Tryd.prog.info? 3).isSome = true by kernel_rfl)
 rw [run_equalIn_array w 9999 _ _ und94 hi0]
 have hpk : Tryd.prog.plainKey 3 = true := by kernel_rfl
 have hc1 : Tryd.prog.cellsOf 3 = 1 := by kernel_rfl
 have p0 : ∀ x y : Int, (part 3 #[.int .i64 x, .int .i64 y] 0).run Tryd.prog w = .ok (.int .i64 x) w := fun x y => run_part_plain w hpk rfl
 have p1 : ∀ x y : Int, (part 3 #[.int .i64 x, .int .i64 y] 1).run Tryd.prog w = .ok (.int .i64 y) w := fun x y => run_part_plain w hpk rfl
 have q : ∀ x y : Int, (Op.equalIn 9999 3 (.int .i64 x) (.int .i64 y)).run Tryd.prog w = .ok (x == y) w := fun x y => run_equalIn_int (P := Tryd.prog) w 9998 3 .i64 .i64 x y u3
 rw [hc1, show List.range 2 = [0, 1] from rfl]
 simp only [Op.eqItems, Sem.run_bind, Nat.zero_mul, Nat.one_mul, p0, p1, q, Result.andThen_ok]
 cases hac : (a == c) <;> cases hbd : (b == d) <;> simp [p1, q, hbd]
theorem Q_arreq {K : Ctx} {s : GS} {t : Nat} {yt rt : TypeId} {x y : Operand} {pos : String} {af : Array Edge} {g : Option (Nat × Bool)} {a b c d : Int} (hP : K.P = Tryd.prog)
 (hx : s.ev x = .d (.agg [.int .i64 a, .int .i64 b])) (hy : s.ev y = .d (.agg [.int .i64 c, .int .i64 d])) : Qy K ⟨some t, .binOp .eql 94 x y yt, rt, pos, af, g⟩ s t (.d (.bool (a == c && b == d))) := by
 refine fun S O m ac w h => ⟨.bool (a == c && b == d), fun w _ => ?_, .d _ _ _ (.bool _)⟩
 have h1 := rd_leafs (h.evd hx) (vs := [.int .i64 a, .int .i64 b]) rfl
 have h2 := rd_leafs (h.evd hy) (vs := [.int .i64 c, .int .i64 d]) rfl
 have hm : Tryd.prog.eqGuardType Tryd.prog.depth 94 = false := by kernel_rfl
 rw [hP]
 simp only [execOp, h1, h2]
 have h3 := eq_arr a b c d w
 simp only [Sem.run_bind, run_eqGuard_agg w .eql 94 x y #[.int .i64 a, .int .i64 b] #[.int .i64 c, .int .i64 d] hm, Result.andThen_ok, run_eql_struct, h3]
 rfl
theorem leSt {K : Ctx} {sl sl' : List (Nat × PV)} {p : Pp} {a : List PV} {more : List (List PV)} (hm : K.m0.length = 0) (ha : CSub 12 a a) (hs : Sub ⟨sl, ChA c p 5 6 7 8 9 10 :: zcel :: unk 10 :: unk 10 :: unk 5 :: (ChR c p ++ (a :: more))⟩ 12 sl') : Le K ⟨sl, ChA c p 5 6 7 8 9 10 :: zcel :: unk 10 :: unk 10 :: unk 5 :: (ChR c p ++ (a :: more))⟩ ⟨sl', ChA c p 5 6 7 8 9 10 :: zcel :: unk 10 :: unk 10 :: unk 5 :: (ChR c p ++ [a])⟩ := Le_0 hm (.cons CSa (.cons CSa (.cons (CSub_unk _ (unk 10)) (.cons (CSub_unk _ (unk 10)) (.cons (CSub_unk _ (unk 5)) (.cons (CSub_flat _ _) (.cons (CSub_flat _ _) (.cons (CSub_flat _ _) (.cons (CSub_flat _ _) (.cons (CSub_flat _ _) (.cons (CSub_flat _ _) (.cons ha .nil)))))))))))) hs
set_option maxRecDepth 100000 in
theorem c30 (c : Ch) (hc : c.Few) : PL 30 [c.d] (.tup [.d (settleS c).1.d, .d (.int .i64 (settleS c).2.1), .d (.int .i64 (settleS c).2.2)]) := by
 have hc' := hc
 obtain ⟨h0, h1, h2, h3, h4, h5⟩ := hc'
 have q16 := c16 c (by omega) (by omega) (by omega) (by omega) (by omega) (by omega)
 have q40 := c40 c hc
 unfold settleS
 cases hk : chkC c with
 | true =>
  rw [if_pos hk] at q16
  rw [if_pos rfl]
  unfold Ch.d at q16 ⊢
  refine plB Tryd.func30 Tryd.ntmps30 Tryd.results30 (fun S0 O0 w0 m0 hL hm0 => ?_)
  repeat' first | refine s_ ?_ | refine c_ q16 ?_ | fail
  refine Z24 ?_
  repeat' first | refine s_ ?_ | fail
  exact e_
 | false =>
 have hg := gd_of hc hk
 rw [if_neg (by rw [hk]; decide)] at q16
 rw [if_neg (by decide)]
 generalize hF : settleF 20001 0 (-1, -1) c = F
 unfold Ch.d at q16 q40
 refine plB Tryd.func30 Tryd.ntmps30 Tryd.results30 (fun S0 O0 w0 m0 hL hm0 => ?_)
 repeat' first | refine s_ ?_ | refine c_ q16 ?_ | fail
 refine Z10 ?_
 repeat' first | refine s_ ?_ | fail
 refine cn (by exact rfl) q40 (r' := .agg (ChA c p0 5 6 7 8 9 10)) (mem' := (chD c :: zcel :: unk 10 :: unk 10 :: unk 5 :: ChR c p0)) ?_ rfl (by rw [List.map_append, ChR_rens]; rfl)
 repeat' first | refine s_ ?_ | fail
 refine gLo (fun x : Nat × Ch × Pp × Int × Int => ⟨[(1, .ref 0 0), (2, .ref 1 0), (3, .d (.int .i64 0)), (4, .d (.int .i64 0)), (6, .ref 11 0), (7, .d (.int .i64 (x.1 : Int)))], ChA x.2.1 x.2.2.1 5 6 7 8 9 10 :: zcel :: unk 10 :: unk 10 :: unk 5 :: (ChR x.2.1 x.2.2.1 ++ [[.d (.int .i64 x.2.2.2.1), .d (.int .i64 x.2.2.2.2)]])⟩) (fun x => 20000 - x.1) (fun x => x.1 ≤ 20000 ∧ x.2.2.1.Ok ∧ x.2.1.Gd ∧ settleF (20001 - x.1) x.1 (x.2.2.2.1, x.2.2.2.2) x.2.1 = F) (0, c, p0, -1, -1) ⟨Nat.zero_le _, p0_ok, hg, hF⟩ ?_ (fun x hx Q' hn he hr hp => ?_)
 · exact leSt (more := []) hm0 CSa SSa
 obtain ⟨tk, c1, p1, l1, l2⟩ := x
 obtain ⟨htk, hp1, hg1, hF1⟩ : tk ≤ 20000 ∧ p1.Ok ∧ c1.Gd ∧ settleF (20001 - tk) tk (l1, l2) c1 = F := hx
 refine (show GF _ _ _ _ ⟨[(1, .ref 0 0), (2, .ref 1 0), (3, .d (.int .i64 0)), (4, .d (.int .i64 0)), (6, .ref 11 0), (7, .d (.int .i64 (tk : Int)))], ChA c1 p1 5 6 7 8 9 10 :: zcel :: unk 10 :: unk 10 :: unk 5 :: (ChR c1 p1 ++ [[.d (.int .i64 l1), .d (.int .i64 l2)]])⟩ from ?_)
 repeat' first | refine s_ ?_ | fail
 refine gLo (fun x : Ch × Pp => ⟨[(1, .ref 0 0), (2, .ref 1 0), (3, .d (.int .i64 0)), (4, .d (.int .i64 0)), (6, .ref 11 0), (7, .d (.int .i64 (tk : Int)))], ChA x.1 x.2 5 6 7 8 9 10 :: zcel :: unk 10 :: unk 10 :: unk 5 :: (ChR x.1 x.2 ++ [[.d (.int .i64 l1), .d (.int .i64 l2)]])⟩) (fun x => muC x.1) (fun x => x.2.Ok ∧ x.1.Gd ∧ ∃ n, muC x.1 ≤ n ∧ drainF n x.1 = drainS c1) (c1, p1) ⟨hp1, hg1, muC c1, Nat.le_refl _, rfl⟩ ?_ (fun x hx Q' hn2 he2 hr2 hp2 => ?_)
 · exact leSt (more := []) hm0 CSa SSa
 obtain ⟨c2, p2⟩ := x
 obtain ⟨hp2', hg2, n2, hn2', hd2⟩ : p2.Ok ∧ c2.Gd ∧ ∃ n, muC c2 ≤ n ∧ drainF n c2 = drainS c1 := hx
 refine (show GF _ _ _ _ ⟨[(1, .ref 0 0), (2, .ref 1 0), (3, .d (.int .i64 0)), (4, .d (.int .i64 0)), (6, .ref 11 0), (7, .d (.int .i64 (tk : Int)))], ChA c2 p2 5 6 7 8 9 10 :: zcel :: unk 10 :: unk 10 :: unk 5 :: (ChR c2 p2 ++ [[.d (.int .i64 l1), .d (.int .i64 l2)]])⟩ from ?_)
 repeat' first | refine s_ ?_ | fail
 refine d_ (fun hb => ?_) (fun hb => ?_)
 · have hne : ¬ (c2.tos = [] ∧ c2.bak = []) := by
    rintro ⟨g1, g2⟩
    rw [g1, g2] at hb
    simp [sD] at hb
   have q1 := c53t c2 hg2
   obtain ⟨f1, _⟩ := allT_ok c2.tos.length c2 (Nat.le_refl _) hg2
   have q2 := c53b (allT c2.tos.length c2) f1
   obtain ⟨m2, hm2, hd3⟩ := drain_step hg2 hn2' hne
   obtain ⟨g1, g2, g3, g4⟩ := round_ok hg2
   have hlt := g4 hne
   rw [hd3] at hd2
   unfold roundC at g1 hm2 hd2 hlt
   repeat' first | refine s_ ?_ | fail
   refine kp [(1, .ref 0 0), (2, .ref 1 0), (3, .d (.int .i64 0)), (4, .d (.int .i64 0)), (6, .ref 11 0), (7, .d (.int .i64 (tk : Int)))] ⟨rfl, rfl, rfl, rfl, rfl, rfl, trivial⟩ ?_
   refine cj4L (by exact rfl) hL q1 hp2' (fun p3 hp3 => ?_)
   repeat' first | refine s_ ?_ | fail
   refine cj4L (by exact rfl) hL q2 hp3 (fun p4 hp4 => ?_)
   repeat' first | refine s_ ?_ | fail
   exact toL (hn2 _ (_, p4) ⟨hp4, g1, m2, hm2, hd2⟩ hlt (leSt (more := []) hm0 CSa SSa))
 · have hnil : c2.tos = [] ∧ c2.bak = [] := by
    rw [Bool.or_eq_false_iff] at hb
    have e1 := of_decide_eq_false hb.1
    have e2 := of_decide_eq_false hb.2
    rw [sD_len] at e1 e2
    exact ⟨List.eq_nil_of_length_eq_zero (by omega), List.eq_nil_of_length_eq_zero (by omega)⟩
   rw [drain_end n2 hnil] at hd2
   have hF2 : settleF (20000 - tk + 1) tk (l1, l2) c1 = F := by rw [show 20000 - tk + 1 = 20001 - tk by omega]; exact hF1
   unfold settleF at hF2
   rw [← hd2] at hF2
   repeat' first | refine s_ ?_ | fail
   refine toL (he2 _ _ ?_)
   repeat' first | refine s_ ?_ | fail
   refine d_ (fun hb => ?_) (fun hb => ?_)
   · have hu : c2.una = [] := by
      have h : ((sD c2.una).length : Int) = 0 := by simpa using hb
      rw [sD_len] at h
      exact List.eq_nil_of_length_eq_zero (by omega)
     rw [if_pos hu] at hF2
     subst hF2
     refine gLe (s' := ⟨[(1, .ref 0 0), (2, .ref 1 0), (3, .d (.int .i64 0)), (4, .d (.int .i64 0)), (7, .d (.int .i64 (tk : Int)))], ChA c2 p2 5 6 7 8 9 10 :: zcel :: unk 10 :: unk 10 :: unk 5 :: ChR c2 p2⟩) (Le_0 hm0 (.cons CSa (.cons CSa (.cons (CSub_unk _ (unk 10)) (.cons (CSub_unk _ (unk 10)) (.cons (CSub_unk _ (unk 5)) (.cons (CSub_flat _ _) (.cons (CSub_flat _ _) (.cons (CSub_flat _ _) (.cons (CSub_flat _ _) (.cons (CSub_flat _ _) (.cons (CSub_flat _ _) .nil))))))))))) SSa) ?_ rfl
     refine gChD4 hp2' ?_ (by rw [hm0]; exact Nat.zero_le _)
     repeat' first | refine s_ ?_ | fail
     refine Z27 ?_
     repeat' first | refine s_ ?_ | fail
     exact e_
   · have hu : ¬ c2.una = [] := by
      intro h
      rw [h] at hb
      simp [sD] at hb
     rw [if_neg hu] at hF2
     have q49 := c49 c2 (acD 0 false 0 0) ⟨0, false, 0, 0, rfl⟩ hg2.few.una
     have hg5 := gd_tick hg2
     unfold acD at q49
     repeat' first | refine s_ ?_ | refine gq (p := .d (.bool (c2.base == l1 && c2.exp == l2))) (by exact rfl) (fun _ _ => by exact Q_arreq rfl rfl rfl) ?_ | fail
     refine d_ (fun hb => ?_) (fun hb => ?_)
     · have h20 : tk = 20000 ∨ (c2.base = l1 ∧ c2.exp = l2) := by
        rw [Bool.or_eq_true, Bool.and_eq_true] at hb
        rcases hb with hb | hb
        · left
          have : (tk : Int) = 20000 := by simpa using hb
          omega
        · right; exact ⟨by simpa using hb.1, by simpa using hb.2⟩
       rw [if_pos h20] at hF2
       subst hF2
       repeat' first | refine s_ ?_ | fail
       refine Z27 ?_
       repeat' first | refine s_ ?_ | fail
       exact e_
     · have h20 : ¬ (tk = 20000 ∨ (c2.base = l1 ∧ c2.exp = l2)) := by
        rw [Bool.or_eq_false_iff] at hb
        rintro (h | ⟨h, h'⟩)
        · subst h; simp at hb
        · rw [h, h'] at hb; simp at hb
       rw [if_neg h20] at hF2
       repeat' first | refine s_ ?_ | fail
       refine kp ((52, .d (.agg [.int .i64 0, .bool false, .int .i64 0, .int .i64 0])) :: [(1, .ref 0 0), (2, .ref 1 0), (3, .d (.int .i64 0)), (4, .d (.int .i64 0)), (6, .ref 11 0), (7, .d (.int .i64 (tk : Int)))]) ⟨rfl, rfl, rfl, rfl, rfl, rfl, rfl, trivial⟩ ?_
       refine (show GF _ _ _ _ ⟨_, ChA c2 p2 5 6 7 8 9 10 :: zcel :: unk 10 :: unk 10 :: unk 5 :: (ChR c2 p2 ++ [[.d (.int .i64 c2.base), .d (.int .i64 c2.exp)], [.d (.int .i64 c2.base), .d (.int .i64 c2.exp)]])⟩ from ?_)
       refine cj4 (by exact rfl) q49 hp2' (fun p5 hp5 => ?_)
       generalize tickC c2 = c5 at hg5 hF2 ⊢
       repeat' first | refine s_ ?_ | fail
       rw [show IntKind.i64.wrap ((tk : Int) + 1) = ((tk + 1 : Nat) : Int) by rw [wrap_i64 (by omega) (by omega)]; rfl]
       have htk2 : tk + 1 ≤ 20000 := by omega
       exact toL (hn _ (tk + 1, c5, p5, c2.base, c2.exp) ⟨htk2, hp5, hg5, by show settleF (20001 - (tk + 1)) (tk + 1) _ _ = _; rw [show 20001 - (tk + 1) = 20000 - tk by omega]; exact hF2⟩ (by dsimp only; omega) (leSt (more := [[.d (.int .i64 c2.base), .d (.int .i64 c2.exp)]]) hm0 CSa SSa))
end
end Go.Proofs.YtoonleefemkalaaDoor
