import Derived.Test.YtoonleefemkalaaDoorM29
/- Contracts of functions. Conditions: none. -/
set_option linter.unusedSimpArgs false
set_option linter.unusedVariables false
set_option maxRecDepth 20000
namespace Go.Proofs.YtoonleefemkalaaDoor
open Go Go.Proofs.YtoonleefemkalaaDoor.E
section
def PlayedR (M : List ByteArray) (q : PV) (m : List (List PV)) : Prop := m = [] ∧ ∃ c : Ch, c.Gd ∧ Pr M M.length c ∧ q = .tup [.d c.d, .d (.bool true)]
theorem wrap_nn {n : Nat} (h : n ≤ 1000000) : IntKind.i64.wrap (n : Int) = (n : Int) := by simp [IntKind.wrap, IntKind.signed, IntKind.bits]; omega
theorem aD_one {l : List Ac} {i : Nat} {a : Ac} (h : l[i]? = some a) : ((aD l).take (i + 1)).drop i = aD [a] := by
 have h1 : (aD l).take (i + 1) = aD (l.take (i + 1)) := by unfold aD; rw [List.map_take]
 have h2 : (aD (l.take (i + 1))).drop i = aD ((l.take (i + 1)).drop i) := by unfold aD; rw [List.map_drop]
 have hlt := (lG h)
 have h3 : (l.take (i + 1)).drop i = [a] := by
  rw [List.take_add_one, h]
  rw [List.drop_append_of_le_length (by rw [List.length_take]; omega), List.drop_of_length_le (by rw [List.length_take]; omega)]
  rfl
 rw [h1, h2, h3]
set_option maxRecDepth 100000 in
theorem c27 (M : List ByteArray) (l : List Ac) (w : Int) (hw : 0 ≤ w) (hw2 : w < 256) (hM : M.length ≤ 30) (hs : ∀ x ∈ M, x.size ≤ 200) (hl : l.length ≤ 80) : GL 0 27 [.d (.int .i64 w), .d (.sl (sD M)), .d (.sl (aD l))] [] (PlayedR M) := by
 have hr0 : 0 ≤ w.tmod 16 := Int.tmod_nonneg _ hw
 have hr1 : w.tmod 16 < 16 := Int.tmod_lt_of_pos _ (by decide)
 have hwr : IntKind.i64.wrap (1 + w.tmod 16) = 1 + w.tmod 16 := by simp [IntKind.wrap, IntKind.signed, IntKind.bits]; omega
 obtain ⟨e1, e2, hg0, hp0⟩ := pr_new (M := M) (n := 1 + w.tmod 16) (by omega) (by omega)
 have q24 := c24 (1 + w.tmod 16)
 rw [e1, e2] at q24
 generalize newC (1 + w.tmod 16) = cN at q24 hg0 hp0
 unfold Ch.d at q24
 refine glB 0 0 Tryd.func27 Tryd.ntmps27 Tryd.results27 (fun S0 O0 w0 m0 hL hm0 => ?_)
 repeat' first | refine s_ ?_ | fail
 rw [hwr]
 repeat' first | refine s_ ?_ | refine c_ q24 ?_ | fail
 refine Z10 ?_
 repeat' first | refine s_ ?_ | fail
 refine gLo (fun x : Nat × Nat × Ch => ⟨[(1, .d (.sl (sD M))), (2, .d (.sl (aD l))), (6, .ref 0 0), (7, .d (.bool false)), (8, .ref 1 0), (10, .d (.int .i64 (x.1 : Int))), (11, .d (.int .i64 (x.2.1 : Int)))], [zcel, chD x.2.2]⟩) (fun x => l.length + 1 - x.2.1) (fun x => x.2.2.Gd ∧ Pr M x.1 x.2.2 ∧ x.1 ≤ M.length ∧ x.2.1 ≤ l.length + 1 ∧ (x.2.1 = l.length + 1 → x.1 = M.length)) (0, 0, cN) ⟨hg0, hp0, Nat.zero_le _, Nat.zero_le _, fun h => by simp at h⟩ ?_ (fun x hx Q' hn he hr hp => ?_)
 · exact Le_0 hm0 (.cons CSa (.cons CSa .nil)) SSa
 obtain ⟨k0, i, c0⟩ := x
 obtain ⟨hg, hpr, hk, hi, hlast⟩ : c0.Gd ∧ Pr M k0 c0 ∧ k0 ≤ M.length ∧ i ≤ l.length + 1 ∧ (i = l.length + 1 → k0 = M.length) := hx
 refine (show GF _ _ _ _ ⟨[(1, .d (.sl (sD M))), (2, .d (.sl (aD l))), (6, .ref 0 0), (7, .d (.bool false)), (8, .ref 1 0), (10, .d (.int .i64 (k0 : Int))), (11, .d (.int .i64 (i : Int)))], [zcel, chD c0]⟩ from ?_)
 repeat' first | refine s_ ?_ | fail
 refine d_ (fun hb => ?_) (fun hb => ?_)
 rotate_left
 · have hgt : ¬ (i : Int) ≤ (l.length : Int) := by have := of_decide_eq_false hb; rw [aD_len] at this; exact this
   have hkM : k0 = M.length := hlast (by omega)
   subst hkM
   repeat' first | refine s_ ?_ | fail
   refine Z15 ?_
   repeat' first | refine s_ ?_ | fail
   rw [sD_len, beq_self_eq_true]
   exact enj (mem' := []) (by exact rfl) ⟨rfl, c0, hg, hpr, rfl⟩ .nil
 have hil : i ≤ l.length := by have := oR hb; rw [aD_len] at this; omega
 clear hb
 repeat' first | refine s_ ?_ | fail
 refine gLo (fun x : Nat × Ch => ⟨[(1, .d (.sl (sD M))), (2, .d (.sl (aD l))), (6, .ref 0 0), (7, .d (.bool false)), (8, .ref 1 0), (10, .d (.int .i64 (x.1 : Int))), (11, .d (.int .i64 (i : Int)))], [zcel, chD x.2]⟩) (fun x => M.length - x.1) (fun x => x.2.Gd ∧ Pr M x.1 x.2 ∧ x.1 ≤ M.length) (k0, c0) ⟨hg, hpr, hk⟩ ?_ (fun x hx Q' hn2 he2 hr2 hp2 => ?_)
 · exact Le_0 hm0 (.cons CSa (.cons CSa .nil)) SSa
 clear hg hpr hk hlast
 obtain ⟨k, c⟩ := x
 obtain ⟨hg, hpr, hk⟩ : c.Gd ∧ Pr M k c ∧ k ≤ M.length := hx
 refine (show GF _ _ _ _ ⟨[(1, .d (.sl (sD M))), (2, .d (.sl (aD l))), (6, .ref 0 0), (7, .d (.bool false)), (8, .ref 1 0), (10, .d (.int .i64 (k : Int))), (11, .d (.int .i64 (i : Int)))], [zcel, chD c]⟩ from ?_)
 have hkl : k * l.length ≤ 30 * 80 := Nat.mul_le_mul (by omega) hl
 have hiM : i * M.length ≤ 80 * 30 := Nat.mul_le_mul (by omega) hM
 have hw3 : IntKind.i64.wrap ((k : Int) * ((aD l).length : Int)) = ((k * l.length : Nat) : Int) := by
  rw [aD_len, ← Int.natCast_mul]; exact wrap_nn (by omega)
 have hw4 : IntKind.i64.wrap ((i : Int) * ((sD M).length : Int)) = ((i * M.length : Nat) : Int) := by
  rw [sD_len, ← Int.natCast_mul]; exact wrap_nn (by omega)
 repeat' first | refine s_ ?_ | fail
 refine d_ (fun hb => ?_) (fun hb => ?_)
 · rw [Bool.and_eq_true] at hb
   have hkM : k < M.length := by have := oR hb.1; rw [sD_len] at this; omega
   obtain ⟨m, hm⟩ : ∃ m, M[k]? = some m := ⟨_, gE hkM⟩
   have hmD := sD_get hm
   obtain ⟨s1, s2, s3⟩ := pr_send hg hpr m (hs m (mG hm)) hm (by omega)
   have q18 := c18 c m hg.few
   rw [s1] at q18
   generalize sendS c m = c2 at q18 s2 s3
   unfold Ch.d at q18
   repeat' first | refine s_ ?_ | fail
   refine kp [(1, .d (.sl (sD M))), (2, .d (.sl (aD l))), (6, .ref 0 0), (7, .d (.bool false)), (8, .ref 1 0), (10, .d (.int .i64 (k : Int))), (11, .d (.int .i64 (i : Int)))] ⟨rfl, rfl, rfl, rfl, rfl, rfl, rfl, trivial⟩ ?_
   refine zo [] [9] [[zcel, [.d (.int .i64 c.win), .d (.int .i64 c.base), .d (.int .i64 c.nxt), .d (strs c.una), .d (strs c.wai), .d (.int .i64 c.exp), .d (.sl (c.ear.map Pk.d)), .d (strs c.del), .d (strs c.tos), .d (strs c.bak)]], [zcel, [.d (.int .i64 c2.win), .d (.int .i64 c2.base), .d (.int .i64 c2.nxt), .d (strs c2.una), .d (strs c2.wai), .d (.int .i64 c2.exp), .d (.sl (c2.ear.map Pk.d)), .d (strs c2.del), .d (strs c2.tos), .d (strs c2.bak)]]] (hc := ?_)
   refine za 0 (hc := ?_)
   iterate 2 refine zv (hc := ?_)
   refine zi (hd := hmD) (hc := ?_)
   refine zv (hc := ?_)
   refine zc (hcl := q18) (hc := ?_)
   iterate 3 refine zv (hc := ?_)
   refine zs 0 (hc := ?_)
   refine zv (hc := ?_)
   refine ze (hc := ?_)
   repeat' first | refine s_ ?_ | fail
   refine Z10 ?_
   repeat' first | refine s_ ?_ | fail
   rw [show IntKind.i64.wrap ((k : Int) + 1) = ((k + 1 : Nat) : Int) by rw [wrap_i64 (by omega) (by omega)]; rfl]
   exact toL (hn2 _ (k + 1, c2) ⟨s2, s3, hkM⟩ (by dsimp only; omega) (Le_0 hm0 (.cons CSa (.cons CSa .nil)) SSa))
 · have hno : ¬ (k < M.length ∧ k * l.length ≤ i * M.length) := by
    rintro ⟨g1, g2⟩
    rw [Bool.and_eq_false_iff] at hb
    rcases hb with hb | hb
    · have := of_decide_eq_false hb; rw [sD_len] at this; omega
    · have := of_decide_eq_false hb; rw [hw3, hw4] at this; omega
   repeat' first | refine s_ ?_ | fail
   refine toL (he2 _ _ ?_)
   repeat' first | refine s_ ?_ | fail
   refine d_ (fun hb => ?_) (fun hb => ?_)
   · have hil2 : i < l.length := by have := oR hb; rw [aD_len] at this; omega
     obtain ⟨a, ha⟩ : ∃ a, l[i]? = some a := ⟨_, gE hil2⟩
     have q28 : PL 28 [c.d, .sl (aD [a])] (.tup ([(playS c [a]).1.d, D.int .i64 (playS c [a]).2, D.int .i64 (playE c)].map .d)) := c28 c [a] hg.few (by simp)
     have hpE : playE c = 0 := by unfold playE; rw [chk_of hg]; rfl
     have hpS : (playS c [a]).1 = (playF [a] (c, 0)).1 := by unfold playS; rw [chk_of hg]; rfl
     obtain ⟨g1, g2⟩ := pr_play [a] (c, 0) hg hpr
     rw [← hpS] at g1 g2
     rw [hpE] at q28
     generalize (playS c [a]).1 = c2 at q28 g1 g2
     generalize (playS c [a]).2 = n2 at q28
     have gf := g1.few
     have q16 := c16 c2 (by have := gf.una; omega) (by have := gf.wai; omega) (by have := gf.ear; omega) (by have := gf.del; omega) (by have := gf.tos; omega) (by have := gf.bak; omega)
     rw [chk_of g1] at q16
     have q22 := c22 [a] (by simp)
     have hwi : IntKind.i64.wrap ((i : Int) + 1) = ((i + 1 : Nat) : Int) := by rw [wrap_i64 (by omega) (by omega)]; rfl
     unfold Ch.d at q28 q16
     repeat' first | refine s_ ?_ | fail
     refine kp [(1, .d (.sl (sD M))), (2, .d (.sl (aD l))), (6, .ref 0 0), (7, .d (.bool false)), (8, .ref 1 0), (10, .d (.int .i64 (k : Int))), (11, .d (.int .i64 (i : Int)))] ⟨rfl, rfl, rfl, rfl, rfl, rfl, rfl, trivial⟩ ?_
     refine zo [] [12] [[zcel, [.d (.int .i64 c.win), .d (.int .i64 c.base), .d (.int .i64 c.nxt), .d (strs c.una), .d (strs c.wai), .d (.int .i64 c.exp), .d (.sl (c.ear.map Pk.d)), .d (strs c.del), .d (strs c.tos), .d (strs c.bak)]], [zcel, [.d (.int .i64 c2.win), .d (.int .i64 c2.base), .d (.int .i64 c2.nxt), .d (strs c2.una), .d (strs c2.wai), .d (.int .i64 c2.exp), .d (.sl (c2.ear.map Pk.d)), .d (strs c2.del), .d (strs c2.tos), .d (strs c2.bak)]]] (hc := ?_)
     refine za 0 (hc := ?_)
     iterate 3 refine zv (hc := ?_)
     refine zv (hc := ?_)
     rw [hwi]
     refine zq (hcc := ?_) (hc := ?_)
     · exact ⟨⟨by omega, by omega, by rw [aD_len]; omega⟩, aD_k l⟩
     rw [show List.drop (Int.toNat (i : Int)) (List.take (Int.toNat ((i + 1 : Nat) : Int)) (aD l)) = aD [a] from aD_one ha]
     refine zc (hcl := q22) (hc := ?_)
     refine zcl hL (by exact rfl) (by exact rfl) (by exact fun _ => rfl) q28 (by exact rfl) ?_
     iterate 4 refine zv (hc := ?_)
     refine zs 0 (hc := ?_)
     refine zv (hc := ?_)
     refine ze (hc := ?_)
     repeat' first | refine s_ ?_ | refine clg (by exact rfl) (fun _ => q16) ?_ | fail
     refine Z10 ?_
     repeat' first | refine s_ ?_ | fail
     rw [hwi]
     exact toL (hn _ (k, i + 1, c2) ⟨g1, g2, hk, by show i + 1 ≤ l.length + 1; omega, fun (h : i + 1 = l.length + 1) => absurd h (by omega)⟩ (by dsimp only; omega) (Le_0 hm0 (.cons CSa (.cons CSa .nil)) SSa))
   · have hkM : i = l.length → k = M.length := fun e => by
      rw [e] at hno
      rcases Nat.lt_or_ge k M.length with h | h
      · exact absurd ⟨h, by rw [Nat.mul_comm]; exact Nat.mul_le_mul_left _ (by omega)⟩ hno
      · omega
     have hge : ¬ i < l.length := by have := of_decide_eq_false hb; rw [aD_len] at this; omega
     repeat' first | refine s_ ?_ | fail
     rw [show IntKind.i64.wrap ((i : Int) + 1) = ((i + 1 : Nat) : Int) by rw [wrap_i64 (by omega) (by omega)]; rfl]
     exact toL (hn _ (k, i + 1, c) ⟨hg, hpr, hk, by show i + 1 ≤ l.length + 1; omega, fun (h : i + 1 = l.length + 1) => hkM (by omega)⟩ (by dsimp only; omega) (Le_0 hm0 (.cons CSa (.cons CSa .nil)) SSa))
end
section
variable {M : List ByteArray} {k : Nat}
theorem pr_allT : ∀ (n : Nat) (c : Ch), c.tos.length ≤ n → c.Gd → Pr M k c → Pr M k (allT n c)
 | 0, c, _, _, hp => hp
 | n + 1, c, hn, h, hp => by
  rcases hw : c.tos with _ | ⟨x, r⟩
  · have e : allT (n + 1) c = c := by unfold allT; rw [hw]
    rw [e]; exact hp
  · have e : allT (n + 1) c = allT n (rcvC { c with tos := c.tos.eraseIdx 0 } x) := by
     conv => lhs; unfold allT
     rw [hw]
    have hl : (rcvC { c with tos := c.tos.eraseIdx 0 } x).tos.length ≤ n := by
     rw [(rcvC_tos _ _).1]
     show (c.tos.eraseIdx 0).length ≤ n
     rw [hw] at hn ⊢
     simp at hn ⊢; exact hn
    rw [e]
    refine pr_allT n _ hl (gd_rcv (gd_hd h) x) (pr_rcv (gd_hd h) (pr_tos hp _ fun y hy => hp.tos y (List.mem_of_mem_eraseIdx hy)) x ?_)
    exact hp.tos x (by rw [hw]; exact List.mem_cons_self)
theorem pr_allB : ∀ (n : Nat) (c : Ch), c.bak.length ≤ n → c.Gd → Pr M k c → Pr M k (allB n c)
 | 0, c, _, _, hp => hp
 | n + 1, c, hn, h, hp => by
  rcases hw : c.bak with _ | ⟨x, r⟩
  · have e : allB (n + 1) c = c := by unfold allB; rw [hw]
    rw [e]; exact hp
  · have e : allB (n + 1) c = allB n (ackC { c with bak := c.bak.eraseIdx 0 } x) := by
     conv => lhs; unfold allB
     rw [hw]
    have hl : (ackC { c with bak := c.bak.eraseIdx 0 } x).bak.length ≤ n := by
     rw [ackC_bak]
     show (c.bak.eraseIdx 0).length ≤ n
     rw [hw] at hn ⊢
     simp at hn ⊢; exact hn
    rw [e]
    exact pr_allB n _ hl (gd_ack (gd_hb h) x) (pr_ack (gd_hb h) (pr_bak hp _) x)
variable {c : Ch}
theorem pr_round (h : c.Gd) (hp : Pr M k c) : Pr M k (roundC c) :=
 pr_allB _ _ (Nat.le_refl _) (allT_ok _ c (Nat.le_refl _) h).1 (pr_allT _ c (Nat.le_refl _) h hp)
theorem pr_drain : ∀ (n : Nat) {c : Ch}, c.Gd → Pr M k c → Pr M k (drainF n c)
 | 0, _, _, hp => hp
 | n + 1, c, h, hp => by
  unfold drainF
  split
  · exact hp
  · exact pr_drain n (round_ok h).1 (pr_round h hp)
def Done (M : List ByteArray) (c : Ch) : Prop := c.Gd ∧ c.del = M ∧ c.tos = [] ∧ c.bak = [] ∧ c.una = [] ∧ c.wai = []
theorem done_of (h : c.Gd) (hp : Pr M M.length c) (h1 : c.tos = []) (h2 : c.bak = []) (h3 : c.una = []) : Done M c := by
 have hw : c.wai = [] := h.wai (by rw [h3]; have := h.win0; simp; omega)
 refine ⟨h, ?_, h1, h2, h3, hw⟩
 have e1 := hp.cnt
 rw [hw] at e1
 have e2 := h.una
 rw [h3] at e2
 have e3 := h.exp0; have e4 := h.exp1; have e5 := h.expd
 simp at e1 e2
 have hl : c.del.length = M.length := by omega
 apply List.ext_getElem? 
 intro i
 by_cases hi : i < c.del.length
 · rw [gE hi]
   exact (hp.del i _ (gE hi)).symm
 · rw [List.getElem?_eq_none (by omega), List.getElem?_eq_none (by omega)]
theorem dueN_exp : ∀ (n : Nat) (c : Ch), 0 ≤ c.exp → c.exp + (c.ear.length : Int) ≤ 100000 → c.exp ≤ (dueN n c).exp
 | 0, c, _, _ => Int.le_refl _
 | n + 1, c, h0, h1 => by
  rcases hw : c.ear with _ | ⟨q, r⟩
  · have e : dueN (n + 1) c = c := by unfold dueN; rw [hw]
    rw [e]; exact Int.le_refl _
  · have e : dueN (n + 1) c = if q.nu == c.exp then dueN n (delC { c with ear := r } q) else c := by
     conv => lhs; unfold dueN
     rw [hw]
    rw [hw] at h1
    simp only [List.length_cons] at h1
    rw [e]
    split
    · have hwr := wrap1 (n := c.exp) h0 (by omega)
      have e1 : (delC { c with ear := r } q).exp = c.exp + 1 := hwr
      have := dueN_exp n (delC { c with ear := r } q) (by rw [e1]; omega) (by rw [e1]; show c.exp + 1 + (r.length : Int) ≤ 100000; omega)
      omega
    · exact Int.le_refl _
theorem rcv_step (h : c.Gd) (n : Int) (m : ByteArray) (hn0 : 0 ≤ n) (hn : n < c.nxt) (hm : m.size ≤ 200) (hne : n ≤ c.exp) (hbl : c.bak.length < 200) : n + 1 ≤ (rcvC c (enB ⟨1, n, m⟩)).exp ∧ c.exp ≤ (rcvC c (enB ⟨1, n, m⟩)).exp ∧ (rcvC c (enB ⟨1, n, m⟩)).bak = c.bak ++ [enB ⟨2, (rcvC c (enB ⟨1, n, m⟩)).exp, ByteArray.empty⟩] := by
 have h3 := h.nxt; have h4 := h.base0; have h10 := h.exp0; have h7 := h.exp1
 have hr := right_dat hn0 (by omega) hm
 obtain ⟨e1, e2⟩ := dec_enc hr
 have hc : rcvC c (enB ⟨1, n, m⟩) = ansC (rcvD c ⟨1, n, m⟩) := by
  unfold rcvC
  rw [e1, e2]
  rw [if_pos (by rfl)]
 have hsm := sm_of h.toG0.few (chk_of h)
 have hD : n + 1 ≤ (rcvD c ⟨1, n, m⟩).exp ∧ c.exp ≤ (rcvD c ⟨1, n, m⟩).exp := by
  unfold rcvD
  by_cases hA : c.nxt ≤ n ∨ n < c.exp
  · rw [if_pos hA]
    constructor
    · omega
    · exact Int.le_refl _
  · rw [if_neg hA]
    have hB : n = c.exp := by omega
    rw [if_pos hB]
    have hwr := wrap1 (n := c.exp) (by omega) (by omega)
    have e3 : (delC c ⟨1, n, m⟩).exp = c.exp + 1 := hwr
    have := dueN_exp c.ear.length (delC c ⟨1, n, m⟩) (by rw [e3]; omega) (by rw [e3]; show c.exp + 1 + (c.ear.length : Int) ≤ 100000; have := hsm.ear; omega)
    rw [e3] at this
    omega
 have hgd : (rcvC c (enB ⟨1, n, m⟩)).Gd := gd_rcv h _
 have hbk : (rcvD c ⟨1, n, m⟩).bak = c.bak := (rcvD_tos c _).2.2.2.2.2.2
 have hans : (ansC (rcvD c ⟨1, n, m⟩)).exp = (rcvD c ⟨1, n, m⟩).exp ∧ (ansC (rcvD c ⟨1, n, m⟩)).bak = c.bak ++ [enC ⟨2, (rcvD c ⟨1, n, m⟩).exp, ByteArray.empty⟩] := by
  unfold ansC sendB
  rw [if_pos (by rw [hbk]; exact hbl)]
  exact ⟨rfl, by show (rcvD c ⟨1, n, m⟩).bak ++ _ = _; rw [hbk]⟩
 rw [hc] at hgd ⊢
 have hx1 := hgd.exp1
 have hx2 := hgd.nxt
 have hx3 := hgd.exp0
 have hx4 := hgd.base0
 rw [hans.1] at hx1 hx3 ⊢
 refine ⟨hD.1, hD.2, ?_⟩
 rw [hans.2]
 have hrt : (⟨2, (rcvD c ⟨1, n, m⟩).exp, ByteArray.empty⟩ : Pk).right = true := by
  unfold Pk.right
  simp
  omega
 rw [show enC ⟨2, (rcvD c ⟨1, n, m⟩).exp, ByteArray.empty⟩ = enB ⟨2, (rcvD c ⟨1, n, m⟩).exp, ByteArray.empty⟩ from if_pos hrt]
def tosOf (b : Int) : List ByteArray → List ByteArray
 | [] => []
 | m :: r => enB ⟨1, b, m⟩ :: tosOf (b + 1) r
theorem allT_all : ∀ (l : List ByteArray) (b : Int) (n : Nat) (c : Ch), c.tos.length ≤ n → c.Gd → c.tos = tosOf b l → 0 ≤ b → b + (l.length : Int) ≤ c.nxt → (∀ x ∈ l, x.size ≤ 200) → b ≤ c.exp → c.bak.length + l.length ≤ 200 → b + (l.length : Int) ≤ (allT n c).exp ∧ (l ≠ [] → ∃ B, (allT n c).bak = B ++ [enB ⟨2, (allT n c).exp, ByteArray.empty⟩])
 | [], b, n, c, hn, h, ht, _, _, _, hbe, _ => by
  have e : allT n c = c := by
   cases n with
   | zero => rfl
   | succ n => unfold allT; rw [ht]; rfl
  rw [e]
  exact ⟨by simpa using hbe, fun h => absurd rfl h⟩
 | m :: r, b, n, c, hn, h, ht, hb0, hbn, hsz, hbe, hbl => by
  simp only [List.length_cons] at hbn hbl
  have ht2 : c.tos = enB ⟨1, b, m⟩ :: tosOf (b + 1) r := ht
  cases n with
  | zero => rw [ht2] at hn; simp at hn
  | succ n =>
   have e : allT (n + 1) c = allT n (rcvC { c with tos := c.tos.eraseIdx 0 } (enB ⟨1, b, m⟩)) := by
    conv => lhs; unfold allT
    rw [ht2]
   have e0 : c.tos.eraseIdx 0 = tosOf (b + 1) r := by rw [ht2]; rfl
   have hg1 := gd_hd h
   obtain ⟨f1, f2, f3⟩ := rcv_step hg1 b m hb0 (by show b < c.nxt; omega) (hsz m List.mem_cons_self) hbe (by show c.bak.length < 200; omega)
   obtain ⟨t1, _, _, _, _, t6⟩ := rcvC_tos { c with tos := c.tos.eraseIdx 0 } (enB ⟨1, b, m⟩)
   have hg2 := gd_rcv hg1 (enB ⟨1, b, m⟩)
   generalize rcvC { c with tos := c.tos.eraseIdx 0 } (enB ⟨1, b, m⟩) = c2 at e f1 f2 f3 t1 t6 hg2
   have t1' : c2.tos = tosOf (b + 1) r := by rw [t1]; exact e0
   have t6' : c2.nxt = c.nxt := t6
   have f3' : c2.bak = c.bak ++ [enB ⟨2, c2.exp, ByteArray.empty⟩] := f3
   have hl2 : c2.tos.length ≤ n := by
    rw [t1', ← e0, ht2] 
    rw [ht2] at hn
    simp at hn ⊢; exact hn
   obtain ⟨g1, g2⟩ := allT_all r (b + 1) n c2 hl2 hg2 t1' (by omega) (by rw [t6']; omega) (fun x hx => hsz x (List.mem_cons_of_mem _ hx)) f1 (by rw [f3', List.length_append]; simp; omega)
   rw [e]
   refine ⟨by simp only [List.length_cons]; omega, fun _ => ?_⟩
   by_cases hr : r = []
   · subst hr
     have e2 : allT n c2 = c2 := by
      cases n with
      | zero => rfl
      | succ n => unfold allT; rw [t1']; rfl
     rw [e2]; exact ⟨c.bak, f3'⟩
   · exact g2 hr
theorem ackC_exp (c : Ch) (s : ByteArray) : (ackC c s).exp = c.exp := by
 have key : ∀ (n : Nat) (c : Ch), (fillN n c).exp = c.exp := by
  intro n
  induction n with
  | zero => exact fun c => rfl
  | succ n ih =>
   intro c
   rcases hw : c.wai with _ | ⟨m, r⟩
   · have e : fillN (n + 1) c = c := by unfold fillN; rw [hw]
     rw [e]
   · have e : fillN (n + 1) c = if (c.una.length : Int) < c.win then fillN n { nextC c m with wai := r } else c := by
      conv => lhs; unfold fillN
      rw [hw]
     rw [e]
     split
     · rw [ih, nextC_eq2]
     · rfl
 unfold ackC
 split
 · rfl
 · exact key _ _
theorem allB_all : ∀ (B : List ByteArray) (n : Nat) (c : Ch) (E : Int), c.bak.length ≤ n → c.Gd → 0 ≤ E → E ≤ c.exp → c.bak = B ++ [enB ⟨2, E, ByteArray.empty⟩] → E ≤ (allB n c).base
 | B, 0, c, E, hn, h, _, _, hb => by rw [hb] at hn; simp at hn
 | [], n + 1, c, E, hn, h, h0, hE, hb => by
  have hb2 : c.bak = [enB ⟨2, E, ByteArray.empty⟩] := hb
  have e : allB (n + 1) c = allB n (ackC { c with bak := c.bak.eraseIdx 0 } (enB ⟨2, E, ByteArray.empty⟩)) := by
   conv => lhs; unfold allB
   rw [hb2]
  have h3 := h.nxt; have h7 := h.exp1
  have hrt : (⟨2, E, ByteArray.empty⟩ : Pk).right = true := by
   unfold Pk.right
   simp
   omega
  obtain ⟨e1, e2⟩ := dec_enc hrt
  have hbase : E ≤ (ackC { c with bak := c.bak.eraseIdx 0 } (enB ⟨2, E, ByteArray.empty⟩)).base := by
   unfold ackC
   rw [e1, e2]
   split
   · rename_i hc
     have hc' : ((!((0 : Int) == 0 && (2 : Int) == 2) || decide (E ≤ c.base)) || decide (E > c.exp)) = true := hc
     rw [Bool.or_eq_true, Bool.or_eq_true] at hc'
     rcases hc' with (hc' | hc') | hc'
     · simp at hc'
     · exact oR hc'
     · have := oR hc'; omega
   · rw [← (fillN_bak _ _).2.1]
     exact Int.le_refl _
  have hl : (ackC { c with bak := c.bak.eraseIdx 0 } (enB ⟨2, E, ByteArray.empty⟩)).bak.length ≤ n := by
   rw [ackC_bak]
   show (c.bak.eraseIdx 0).length ≤ n
   rw [hb2]; exact Nat.zero_le _
  have := (allB_ok n _ hl (gd_ack (gd_hb h) _)).2.2.2.2
  rw [e]; omega
 | y :: B, n + 1, c, E, hn, h, h0, hE, hb => by
  have hb2 : c.bak = y :: (B ++ [enB ⟨2, E, ByteArray.empty⟩]) := hb
  have e : allB (n + 1) c = allB n (ackC { c with bak := c.bak.eraseIdx 0 } y) := by
   conv => lhs; unfold allB
   rw [hb2]
  have e0 : c.bak.eraseIdx 0 = B ++ [enB ⟨2, E, ByteArray.empty⟩] := by rw [hb2]; rfl
  have hl : (ackC { c with bak := c.bak.eraseIdx 0 } y).bak.length ≤ n := by
   rw [ackC_bak]
   show (c.bak.eraseIdx 0).length ≤ n
   rw [hb2] at hn ⊢
   simp at hn ⊢; exact hn
  rw [e]
  exact allB_all B n _ E hl (gd_ack (gd_hb h) _) h0 (by rw [ackC_exp]; exact hE) (by rw [ackC_bak]; exact e0)
theorem tickL_of (b : Int) : ∀ (l : List ByteArray) (z : Nat) (T : List ByteArray), 0 ≤ b → b + (z : Int) + (l.length : Int) ≤ 100000 → T.length + l.length ≤ 200 → (∀ x ∈ l, x.size ≤ 200) → tickL b z l T = T ++ tosOf (b + (z : Int)) l
 | [], z, T, _, _, _, _ => by unfold tickL tosOf; rw [List.append_nil]
 | m :: r, z, T, hb, hz, hl, hs => by
  simp only [List.length_cons] at hz hl
  have hw : IntKind.i64.wrap (b + (z : Int)) = b + (z : Int) := by simp [IntKind.wrap, IntKind.signed, IntKind.bits]; omega
  have hr := right_dat (n := b + (z : Int)) (m := m) (by omega) (by omega) (hs m List.mem_cons_self)
  unfold tickL
  rw [hw]
  have hp : pushT T ⟨1, b + (z : Int), m⟩ = T ++ [enB ⟨1, b + (z : Int), m⟩] := by
   unfold pushT
   rw [if_pos (by omega), show enC ⟨1, b + (z : Int), m⟩ = enB ⟨1, b + (z : Int), m⟩ from if_pos hr]
  rw [hp, tickL_of b r (z + 1) _ hb (by push_cast; omega) (by rw [List.length_append]; simp; omega) (fun x hx => hs x (List.mem_cons_of_mem _ hx))]
  rw [List.append_assoc]
  show _ = T ++ (enB ⟨1, b + (z : Int), m⟩ :: tosOf (b + (z : Int) + 1) r)
  rw [show b + ((z + 1 : Nat) : Int) = b + (z : Int) + 1 by push_cast; omega]
  rfl
theorem tick_on (h : c.Gd) (h1 : c.tos = []) (h2 : c.bak = []) (h3 : c.una ≠ []) : c.base + 1 ≤ (drainS (tickC c)).base := by
 have g1 := h.unaw; have g2 := h.win1; have g3 := h.nxt; have g4 := h.base0; have g5 := h.una; have g7 := h.exp1; have g10 := h.exp0
 have hpos : 0 < c.una.length := Nat.pos_of_ne_zero (fun e => h3 (List.eq_nil_of_length_eq_zero e))
 have hgt := gd_tick h
 have htos : (tickC c).tos = tosOf c.base c.una := by
  show tickL c.base 0 c.una c.tos = _
  rw [tickL_of c.base c.una 0 c.tos g4 (by simp; omega) (by rw [h1]; simp; omega) h.ut, h1]
  simp
 obtain ⟨f1, f2⟩ := allT_all c.una c.base (tickC c).tos.length (tickC c) (Nat.le_refl _) hgt htos g4 (by show c.base + (c.una.length : Int) ≤ c.nxt; omega) h.ut g10 (by show c.bak.length + c.una.length ≤ 200; rw [h2]; simp; omega)
 obtain ⟨B, hB⟩ := f2 h3
 obtain ⟨k1, k2, k3, k4, k5, k6, k7⟩ := allT_ok (tickC c).tos.length (tickC c) (Nat.le_refl _) hgt
 have hr : (allT (tickC c).tos.length (tickC c)).exp ≤ (roundC (tickC c)).base := allB_all B _ _ _ (Nat.le_refl _) k1 (by omega) (Int.le_refl _) hB
 have hne : ¬ ((tickC c).tos = [] ∧ (tickC c).bak = []) := by
  rintro ⟨e, _⟩
  rw [htos] at e
  cases hu : c.una with
  | nil => exact h3 hu
  | cons m r => rw [hu] at e; cases e
 obtain ⟨m, hm, hd⟩ := drain_step hgt (Nat.le_refl _) hne
 have hdr := (drain_ok m hm (round_ok hgt).1).2.2.2
 show c.base + 1 ≤ (drainF (muC (tickC c)) (tickC c)).base
 rw [hd]
 omega
theorem settle_all : ∀ (n t : Nat) (last : Int × Int) (c : Ch), c.Gd → Pr M M.length c → last.1 < (drainS c).base → (t : Int) ≤ (drainS c).base → 10001 ≤ (n : Int) + (drainS c).base → Done M (settleF n t last c).1 ∧ (settleF n t last c).2.2 = 0
 | 0, t, last, c, h, hp, _, _, hn => by
  exfalso
  obtain ⟨g1, _⟩ := drain_ok (muC c) (Nat.le_refl _) h
  have e1 := g1.nxt; have e2 := g1.exp0; have e3 := g1.exp1
  have : (drainS c).base = (drainF (muC c) c).base := rfl
  simp at hn
  omega
 | n + 1, t, last, c, h, hp, hlast, ht, hn => by
  obtain ⟨g1, g2, g3, _⟩ := drain_ok (muC c) (Nat.le_refl _) h
  have hpd : Pr M M.length (drainS c) := pr_drain _ h hp
  have g1' : (drainS c).Gd := g1
  have e1 := g1'.nxt; have e2 := g1'.exp0; have e3 := g1'.exp1
  unfold settleF
  by_cases hu : (drainS c).una = []
  · rw [if_pos hu]
    exact ⟨done_of g1' hpd g2 g3 hu, rfl⟩
  · rw [if_neg hu, if_neg (by rintro (h | ⟨h, _⟩) <;> omega)]
    have hto := tick_on g1' g2 g3 hu
    exact settle_all n (t + 1) _ (tickC (drainS c)) (gd_tick g1') (pr_tick g1' hpd) (by dsimp only; omega) (by push_cast; omega) (by push_cast at hn; omega)
theorem settle_done (h : c.Gd) (hp : Pr M M.length c) : Done M (settleS c).1 ∧ (settleS c).2.2 = 0 := by
 unfold settleS
 rw [chk_of h, if_neg (by decide)]
 obtain ⟨g1, _, _, g4⟩ := drain_ok (muC c) (Nat.le_refl _) h
 have e1 := g1.base0
 have e2 : (drainS c).base = (drainF (muC c) c).base := rfl
 exact settle_all 20001 0 _ c h hp (by dsimp only; omega) (by show ((0 : Nat) : Int) ≤ _; omega) (by show (10001 : Int) ≤ ((20001 : Nat) : Int) + _; omega)
set_option maxRecDepth 100000 in
theorem c8 (w : Int) (M : List ByteArray) (l : List Ac) (hw : 0 ≤ w) (hw2 : w < 256) (hM0 : M.length ≤ 140737488355328) (hl0 : l.length ≤ 140737488355328) : PL 8 [.int .u8 w, .sl (sD M), .sl (aD l)] (.d (.bool true)) := by
 refine plB Tryd.func8 Tryd.ntmps8 Tryd.results8 (fun S0 O0 w0 m0 hL hm0 => ?_)
 repeat' first | refine s_ ?_ | fail
 refine d_ (fun hb => ?_) (fun hb => ?_)
 · repeat' first | refine s_ ?_ | refine c_ c9 ?_ | fail
   exact e_
 rw [Bool.or_eq_false_iff] at hb
 have hM : M.length ≤ 30 := by have := of_decide_eq_false hb.1; rw [sD_len] at this; omega
 have hl : l.length ≤ 80 := by have := of_decide_eq_false hb.2; rw [aD_len] at this; omega
 clear hb
 repeat' first | refine s_ ?_ | fail
 refine gLo (fun x : Nat => ⟨[(0, .d (.int .u8 w)), (1, .d (.sl (sD M))), (2, .d (.sl (aD l))), (7, .d (.int .i64 (x : Int)))], []⟩) (fun x => M.length - x) (fun x => x ≤ M.length ∧ ∀ (j : Nat) y, j < x → M[j]? = some y → y.size ≤ 200) 0 ⟨Nat.zero_le _, fun j y h => by omega⟩ ?_ (fun x hx Q' hn he hr hp => ?_)
 · exact Le_0 hm0 .nil SSa
 obtain ⟨hx1, hx2⟩ := hx
 repeat' first | refine s_ ?_ | fail
 refine d_ (fun hb => ?_) (fun hb => ?_)
 · have hlt : x < M.length := by have := oR hb; rw [sD_len] at this; omega
   obtain ⟨m, hm⟩ : ∃ m, M[x]? = some m := ⟨_, gE hlt⟩
   have hmD := sD_get hm
   repeat' first | refine s_ ?_ | refine el (by exact rfl) hmD ?_ | fail
   refine d_ (fun hb => ?_) (fun hb => ?_)
   · repeat' first | refine s_ ?_ | refine c_ c9 ?_ | fail
     refine Z27 ?_
     repeat' first | refine s_ ?_ | fail
     exact e_
   · have hms : m.size ≤ 200 := by have := of_decide_eq_false hb; omega
     repeat' first | refine s_ ?_ | fail
     rw [show IntKind.i64.wrap ((x : Int) + 1) = ((x + 1 : Nat) : Int) by rw [wrap_i64 (by omega) (by omega)]; rfl]
     refine toL (hn _ (x + 1) ⟨hlt, fun j y hj hy => ?_⟩ (by omega) (Le_0 hm0 .nil SSa))
     by_cases hjx : j = x
     · subst hjx; rw [hm] at hy; injection hy with hy; subst hy; exact hms
     · exact hx2 j y (by omega) hy
 have hle : M.length ≤ x := by have := of_decide_eq_false hb; rw [sD_len] at this; omega
 have hs : ∀ y ∈ M, y.size ≤ 200 := fun y hy => by
  obtain ⟨j, hj⟩ := List.getElem?_of_mem hy
  exact hx2 j y (by have := (lG hj); omega) hj
 clear hx1 hx2 hn hle hb
 have q27 := c27 M l w hw hw2 hM hs hl
 repeat' first | refine s_ ?_ | fail
 refine Z15 ?_
 repeat' first | refine s_ ?_ | fail
 have hcv : IntKind.i64.wrap w = w := by simp [IntKind.wrap, IntKind.signed, IntKind.bits]; omega
 rw [hcv]
 refine gJX (jn := 0) [] (by exact rfl) q27.1 (q27.2 _ _ hL) rfl (by decide) (fun b hb => by cases hb) rfl rfl rfl (fun b hb => by cases hb) rfl ?_
 rintro q m ⟨rfl, c, hg, hpr, rfl⟩ _
 obtain ⟨hdn, he0⟩ := settle_done hg hpr
 have q30 := c30 c hg.few
 rw [he0] at q30
 generalize (settleS c).1 = d at q30 hdn
 generalize (settleS c).2.1 = tk at q30
 obtain ⟨hgd, d1, d2, d3, d4, d5⟩ := hdn
 have q32 := c32 d.del M (by rw [d1]; exact hM0) hM0
 rw [show decide (d.del = M) = true from decide_eq_true d1] at q32
 unfold Ch.d at q30
 rw [d2, d3, d4, d5] at q30
 unfold stJ
 rw [show List.drop 0 ([] : List Nat) = [] from rfl, sansL_nil]
 refine (show GF _ _ _ _ ⟨(39, .tup [.d (.agg [.int .i64 c.win, .int .i64 c.base, .int .i64 c.nxt, strs c.una, strs c.wai, .int .i64 c.exp, .sl (c.ear.map Pk.d), strs c.del, strs c.tos, strs c.bak]), .d (.bool true)]) :: _, []⟩ from ?_)
 repeat' first | refine s_ ?_ | refine c_ c9 ?_ | fail
 refine Z10 ?_
 repeat' first | refine s_ ?_ | refine clL hL (by exact rfl) q30 ?_ | fail
 repeat' first | refine s_ ?_ | refine clg (by exact rfl) (fun _ => q32) ?_ | refine clg (by exact rfl) (fun _ => c9) ?_ | fail
 exact e_
end
end Go.Proofs.YtoonleefemkalaaDoor
