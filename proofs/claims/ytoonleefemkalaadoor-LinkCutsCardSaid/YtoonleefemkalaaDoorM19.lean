import Derived.Test.YtoonleefemkalaaDoorM18
import Derived.Test.YtoonleefemkalaaDoorM15
import Derived.Test.YtoonleefemkalaaDoorM17
/- Contracts of functions. Conditions: none. -/
set_option linter.unusedSimpArgs false
set_option linter.unusedVariables false
set_option maxRecDepth 20000
namespace Go.Proofs.YtoonleefemkalaaDoor
open Go Go.Proofs.YtoonleefemkalaaDoor.E
theorem frz_nref (n : Nat) (F : Nat → PV) (H : Nat → Nat → Nat → PV) (X : PV) : ∀ p : PV, PV.nref n p = true → PV.frz n F H X p = p := by
 have key : ∀ {b : Nat}, (!(b == n)) = true → ¬ b = n := fun {b} h e => by subst e; simp at h
 intro p
 induction p using PV.rec (motive_2 := fun ps => PV.nrefs n ps = true → PV.frzs n F H X ps = ps) with
 | d x => exact fun _ => rfl
 | nils => exact fun _ => rfl
 | osl k xs => exact fun _ => rfl
 | ref b off => intro h; exact if_neg (key h)
 | rsl b off c k => intro h; exact if_neg (key h)
 | mref b => intro h; exact if_neg (key h)
 | mapc kvs => exact fun _ => rfl
 | fn f a c iha ihc =>
  intro h
  have h' : (PV.nrefs n a && PV.nrefs n c) = true := h
  rw [Bool.and_eq_true] at h'
  show PV.fn f (PV.frzs n F H X a) (PV.frzs n F H X c) = _
  rw [iha h'.1, ihc h'.2]
 | agg cs ih => intro h; show PV.agg (PV.frzs n F H X cs) = _; rw [ih h]
 | tup cs ih => intro h; show PV.tup (PV.frzs n F H X cs) = _; rw [ih h]
 | when b p ih => intro h; show PV.when b (PV.frz n F H X p) = _; rw [ih h]
 | undef => exact fun _ => rfl
 | nil => exact rfl
 | cons p ps ih1 ih2 =>
  rename_i h
  have h' : (PV.nref n p && PV.nrefs n ps) = true := h
  rw [Bool.and_eq_true] at h'
  show PV.frz n F H X p :: PV.frzs n F H X ps = _
  rw [ih1 h'.1, ih2 h'.2]
theorem frzs_nref (n : Nat) (F : Nat → PV) (H : Nat → Nat → Nat → PV) (X : PV) : ∀ ps : List PV, PV.nrefs n ps = true → PV.frzs n F H X ps = ps
 | [], _ => rfl
 | p :: ps, h => by
  have h' : (PV.nref n p && PV.nrefs n ps) = true := h
  rw [Bool.and_eq_true] at h'
  show PV.frz n F H X p :: PV.frzs n F H X ps = _
  rw [frz_nref n F H X p h'.1, frzs_nref n F H X ps h'.2]
variable {n : Nat}
theorem frz_slots {F : Nat → PV} {H : Nat → Nat → Nat → PV} {X : PV} {L : List Nat} (hn : n ∈ L) : ∀ {sl : List (Nat × PV)}, sl.all (fun x => nrefL L x.2) = true → (sl.map fun x => (x.1, PV.frz n F H X x.2)) = sl
 | [], _ => rfl
 | x :: sl, h => by
  rw [List.all_cons, Bool.and_eq_true] at h
  rw [List.map_cons, frz_slots hn h.2, frz_nref n F H X x.2 (nrefL_of h.1 hn)]
theorem frz_ex {F : Nat → PV} {H : Nat → Nat → Nat → PV} {X : PV} {L : List Nat} (hn : n ∈ L) : ∀ {ms : List (List PV)}, exB L ms = true → ms.map (PV.frzs n F H X) = ms
 | [], _ => rfl
 | x :: ms, h => by
  have h' : ((L.all fun b => PV.nrefs b x) && exB L ms) = true := h
  rw [Bool.and_eq_true] at h'
  rw [List.map_cons, frz_ex hn h'.2, frzs_nref n F H X x (List.all_eq_true.1 h'.1 n hn)]
theorem frz_flat (n : Nat) (F : Nat → PV) (H : Nat → Nat → Nat → PV) (X : PV) (xs : List D) : PV.frzs n F H X (flat xs) = flat xs := frzs_nref n F H X _ (nrefs_flat n xs)
theorem fl_nil : ∀ c ∈ ([] : List (List PV)), ∃ ds : List D, c = flat ds := fun c h => by cases h
theorem fl_cons (ds : List D) {rs : List (List PV)} (h : ∀ c ∈ rs, ∃ ds : List D, c = flat ds) : ∀ c ∈ flat ds :: rs, ∃ ds : List D, c = flat ds := fun c hc => by
 rcases List.mem_cons.1 hc with rfl | hc
 · exact ⟨ds, rfl⟩
 · exact h c hc
def chD (c : Ch) : List PV := [.d (.int .i64 c.win), .d (.int .i64 c.base), .d (.int .i64 c.nxt), .d (strs c.una), .d (strs c.wai), .d (.int .i64 c.exp), .d (.sl (pD c.ear)), .d (strs c.del), .d (strs c.tos), .d (strs c.bak)]
variable {p : Pp}
theorem ok_u (h : p.Ok) (l : List ByteArray) : ∀ x ∈ p.u1 ++ sD l ++ p.u2, x.cells.length = 1 := row_k h.u1 (sD_k _) h.u2
theorem ok_w (h : p.Ok) (l : List ByteArray) : ∀ x ∈ p.w1 ++ sD l ++ p.w2, x.cells.length = 1 := row_k h.w1 (sD_k _) h.w2
theorem ok_d (h : p.Ok) (l : List ByteArray) : ∀ x ∈ p.d1 ++ sD l ++ p.d2, x.cells.length = 1 := row_k h.d1 (sD_k _) h.d2
theorem ok_t (h : p.Ok) (l : List ByteArray) : ∀ x ∈ p.t1 ++ sD l ++ p.t2, x.cells.length = 1 := row_k h.t1 (sD_k _) h.t2
theorem ok_b (h : p.Ok) (l : List ByteArray) : ∀ x ∈ p.b1 ++ sD l ++ p.b2, x.cells.length = 1 := row_k h.b1 (sD_k _) h.b2
theorem ok_e (h : p.Ok) (l : List Pk) : ∀ x ∈ p.e1 ++ pD l ++ p.e2, x.cells.length = 3 := row_k h.e1 (pD_k _) h.e2
theorem nrefLM_app (L sel : List Nat) : ∀ (a b : List (List PV)) (k : Nat), nrefLM L sel k a = true → nrefLM L sel (k + a.length) b = true → nrefLM L sel k (a ++ b) = true
 | [], b, k, _, h => h
 | x :: a, b, k, h1, h2 => by
  have h1' : ((sel.contains k || L.all fun b => PV.nrefs b x) && nrefLM L sel (k + 1) a) = true := h1
  rw [Bool.and_eq_true] at h1'
  show ((sel.contains k || L.all fun b => PV.nrefs b x) && nrefLM L sel (k + 1) (a ++ b)) = true
  rw [h1'.1, nrefLM_app L sel a b (k + 1) h1'.2 (by rw [show k + 1 + a.length = k + (x :: a).length by simp; omega]; exact h2)]
  rfl
theorem ChR_exB (L : List Nat) (c : Ch) (p : Pp) : exB L (ChR c p) = true := by
 unfold exB ChR
 simp only [List.all_cons, nrefL_flat, List.all_nil, Bool.and_self]
variable {fr : List Fr} {sl : List (Nat × PV)} {x1 x2 x3 x4 : List PV} {c : Ch}
theorem cj4 {S0 : Reg} {O0 : Owns} {w0 : World} {m0 Bs : List Nat} {ds : List Deferred} {Q : Exit → GS → Prop} {ops : Array Oper} {i : Nat} {l : List Nat} {ex : List (List PV)} {t : Nat} {f : FuncId} {args : List PV} {c' : Ch} {r : PV} (h : cms ops.toList n i sl = some (t, f, args)) (hc : Mt f args c r c') (hp : p.Ok)
 (hg : ∀ p', p'.Ok → GF ⟨Tryd.prog, n, S0, O0, w0, m0, Bs, ds⟩ fr (.ops ops l) Q ⟨(t, r) :: sansL [5, 6, 7, 8, 9, 10] sl, ChA c' p' 5 6 7 8 9 10 :: x1 :: x2 :: x3 :: x4 :: (ChR c' p' ++ ex)⟩) (hm0 : m0.length ≤ 1 := by omega) (hargs : args = PV.rens (fun b => [0, 5, 6, 7, 8, 9, 10].getD b 0) args := by rfl) (hra : PV.refsBs 7 args = true := by rfl) (hr : r.ren (renN [0, 5, 6, 7, 8, 9, 10] (ChA c p 5 6 7 8 9 10 :: x1 :: x2 :: x3 :: x4 :: (ChR c p ++ ex)).length) = r := by rfl) (hx : exB [5, 6, 7, 8, 9, 10] [x1, x2, x3, x4] = true := by rfl) (hex : exB [5, 6, 7, 8, 9, 10] ex = true := by rfl) : GF ⟨Tryd.prog, n, S0, O0, w0, m0, Bs, ds⟩ fr (.ops ops (i :: l)) Q ⟨sl, ChA c p 5 6 7 8 9 10 :: x1 :: x2 :: x3 :: x4 :: (ChR c p ++ ex)⟩ := by
 refine gJ (jn := 1) [0, 5, 6, 7, 8, 9, 10] h (hc p hp) hargs (by decide) (fun b hb => ?_) ?_ hra (ChM_refs c p) (fun b hb => ?_) ?_ ?_
 · have : b < 11 := by
    have h : ∀ b ∈ [0, 5, 6, 7, 8, 9, 10], b < 11 := by decide
    exact h b hb
   have h7 : (ChA c p 5 6 7 8 9 10 :: x1 :: x2 :: x3 :: x4 :: (ChR c p ++ ex)).length = 11 + ex.length := by simp [ChR]; omega
   omega
 · rw [ChM_rens]; rfl
 · have h1 : 1 ≤ b := by
    have h : ∀ b ∈ [5, 6, 7, 8, 9, 10], 1 ≤ b := by decide
    exact h b hb
   exact Nat.le_trans hm0 h1
 · have h1 := nrefLM_ex [5, 6, 7, 8, 9, 10] [0, 5, 6, 7, 8, 9, 10] ex 11 hex
   have h2 := nrefLM_ex [5, 6, 7, 8, 9, 10] [0, 5, 6, 7, 8, 9, 10] [x1, x2, x3, x4] 1 hx
   have h3 := nrefLM_app [5, 6, 7, 8, 9, 10] [0, 5, 6, 7, 8, 9, 10] ([x1, x2, x3, x4]) (ChR c p ++ ex) 1 h2 (nrefLM_app [5, 6, 7, 8, 9, 10] [0, 5, 6, 7, 8, 9, 10] (ChR c p) ex 5 (nrefLM_ex [5, 6, 7, 8, 9, 10] [0, 5, 6, 7, 8, 9, 10] (ChR c p) 5 (ChR_exB _ c p)) h1)
   show ((true || _) && _) = true
   rw [Bool.true_or, Bool.true_and]
   exact h3
 · rintro q m ⟨rfl, p', hp', rfl⟩ _
   have h2 : stJ 1 [0, 5, 6, 7, 8, 9, 10] sl (ChA c p 5 6 7 8 9 10 :: x1 :: x2 :: x3 :: x4 :: (ChR c p ++ ex)) t q (ChM c' p') = ⟨(t, q) :: sansL [5, 6, 7, 8, 9, 10] sl, ChA c' p' 5 6 7 8 9 10 :: x1 :: x2 :: x3 :: x4 :: (ChR c' p' ++ ex)⟩ := by
    unfold stJ
    rw [hr]
    refine congrArg (GS.mk _) ?_
    rw [show (ChM c' p').take (List.length [0, 5, 6, 7, 8, 9, 10]) = ChM c' p' from rfl, show (ChM c' p').drop (List.length [0, 5, 6, 7, 8, 9, 10]) = [] from rfl, ChM_rens, List.map_nil, List.append_nil]
    rfl
   rw [h2]
   exact hg p' hp'
theorem gChD4 {K : Ctx} {cf : Cf} {Q : Exit → GS → Prop} (hp : p.Ok) (hg : GF K fr cf Q ⟨sl, [chD c, x1, x2, x3, x4]⟩) (hm : K.m0.length ≤ 5) (hsl : sl.all (fun x => nrefL [5, 6, 7, 8, 9, 10] x.2) = true := by rfl) (hx : exB [5, 6, 7, 8, 9, 10] [x1, x2, x3, x4] = true := by rfl) (hc : goes cf = true := by rfl) : GF K fr cf Q ⟨sl, ChA c p 5 6 7 8 9 10 :: x1 :: x2 :: x3 :: x4 :: ChR c p⟩ := by
 have he : ∀ (n : Nat), n ∈ [5, 6, 7, 8, 9, 10] → ∀ (k : Nat) (pre xs post : List D) (rs : List (List PV)), (∀ c ∈ rs, ∃ ds, c = flat ds) → (x1 :: x2 :: x3 :: x4 :: rs).map (PV.frzs n noF (rowHG k pre xs post) .undef) = x1 :: x2 :: x3 :: x4 :: rs := by
  intro n hn k pre xs post rs hrs
  have h1 := frz_ex (n := n) (F := noF) (H := rowHG k pre xs post) (X := .undef) hn hx
  have h2 : rs.map (PV.frzs n noF (rowHG k pre xs post) .undef) = rs := by
   clear h1 hg
   induction rs with
   | nil => rfl
   | cons a rs ih =>
    obtain ⟨ds, rfl⟩ := hrs a (by simp)
    rw [List.map_cons, frz_flat, ih (fun c hc => hrs c (by simp [hc]))]
  rw [show (x1 :: x2 :: x3 :: x4 :: rs) = [x1, x2, x3, x4] ++ rs from rfl, List.map_append, h1, h2]
 refine (show GF _ _ _ _ ⟨_, ([.d (.int .i64 c.win), .d (.int .i64 c.base), .d (.int .i64 c.nxt), rowV 5 1 p.u1 (sD c.una) p.u2, rowV 6 1 p.w1 (sD c.wai) p.w2, .d (.int .i64 c.exp), rowV 10 3 p.e1 (pD c.ear) p.e2, rowV 7 1 p.d1 (sD c.del) p.d2, rowV 8 1 p.t1 (sD c.tos) p.t2, rowV 9 1 p.b1 (sD c.bak) p.b2] :: x1 :: x2 :: x3 :: x4 :: [flat (p.u1 ++ sD c.una ++ p.u2), flat (p.w1 ++ sD c.wai ++ p.w2), flat (p.d1 ++ sD c.del ++ p.d2), flat (p.t1 ++ sD c.tos ++ p.t2), flat (p.b1 ++ sD c.bak ++ p.b2)]) ++ [flat (p.e1 ++ pD c.ear ++ p.e2)]⟩ from ?_)
 refine gFrG (keep' := ([.d (.int .i64 c.win), .d (.int .i64 c.base), .d (.int .i64 c.nxt), rowV 5 1 p.u1 (sD c.una) p.u2, rowV 6 1 p.w1 (sD c.wai) p.w2, .d (.int .i64 c.exp), .d (.sl (pD c.ear)), rowV 7 1 p.d1 (sD c.del) p.d2, rowV 8 1 p.t1 (sD c.tos) p.t2, rowV 9 1 p.b1 (sD c.bak) p.b2] :: x1 :: x2 :: x3 :: x4 :: [flat (p.u1 ++ sD c.una ++ p.u2), flat (p.w1 ++ sD c.wai ++ p.w2), flat (p.d1 ++ sD c.del ++ p.d2), flat (p.t1 ++ sD c.tos ++ p.t2), flat (p.b1 ++ sD c.bak ++ p.b2)])) p.e1 (pD c.ear) p.e2 3 10 rfl (ok_e hp _) (by decide) (Nat.le_trans hm (by decide)) (frz_slots (L := [5, 6, 7, 8, 9, 10]) (by decide) hsl) (by rw [List.map_cons, he 10 (by decide) _ _ _ _ _ (fl_cons _ (fl_cons _ (fl_cons _ (fl_cons _ (fl_cons _ fl_nil)))))]; refine congrArg (· :: _) ?_; simp [PV.frzs, PV.frz, rowV, rowHG]) hc ?_
 refine (show GF _ _ _ _ ⟨_, ([.d (.int .i64 c.win), .d (.int .i64 c.base), .d (.int .i64 c.nxt), rowV 5 1 p.u1 (sD c.una) p.u2, rowV 6 1 p.w1 (sD c.wai) p.w2, .d (.int .i64 c.exp), .d (.sl (pD c.ear)), rowV 7 1 p.d1 (sD c.del) p.d2, rowV 8 1 p.t1 (sD c.tos) p.t2, rowV 9 1 p.b1 (sD c.bak) p.b2] :: x1 :: x2 :: x3 :: x4 :: [flat (p.u1 ++ sD c.una ++ p.u2), flat (p.w1 ++ sD c.wai ++ p.w2), flat (p.d1 ++ sD c.del ++ p.d2), flat (p.t1 ++ sD c.tos ++ p.t2)]) ++ [flat (p.b1 ++ sD c.bak ++ p.b2)]⟩ from ?_)
 refine gFrG (keep' := ([.d (.int .i64 c.win), .d (.int .i64 c.base), .d (.int .i64 c.nxt), rowV 5 1 p.u1 (sD c.una) p.u2, rowV 6 1 p.w1 (sD c.wai) p.w2, .d (.int .i64 c.exp), .d (.sl (pD c.ear)), rowV 7 1 p.d1 (sD c.del) p.d2, rowV 8 1 p.t1 (sD c.tos) p.t2, .d (.sl (sD c.bak))] :: x1 :: x2 :: x3 :: x4 :: [flat (p.u1 ++ sD c.una ++ p.u2), flat (p.w1 ++ sD c.wai ++ p.w2), flat (p.d1 ++ sD c.del ++ p.d2), flat (p.t1 ++ sD c.tos ++ p.t2)])) p.b1 (sD c.bak) p.b2 1 9 rfl (ok_b hp _) (by decide) (Nat.le_trans hm (by decide)) (frz_slots (L := [5, 6, 7, 8, 9, 10]) (by decide) hsl) (by rw [List.map_cons, he 9 (by decide) _ _ _ _ _ (fl_cons _ (fl_cons _ (fl_cons _ (fl_cons _ fl_nil))))]; refine congrArg (· :: _) ?_; simp [PV.frzs, PV.frz, rowV, rowHG]) hc ?_
 refine (show GF _ _ _ _ ⟨_, ([.d (.int .i64 c.win), .d (.int .i64 c.base), .d (.int .i64 c.nxt), rowV 5 1 p.u1 (sD c.una) p.u2, rowV 6 1 p.w1 (sD c.wai) p.w2, .d (.int .i64 c.exp), .d (.sl (pD c.ear)), rowV 7 1 p.d1 (sD c.del) p.d2, rowV 8 1 p.t1 (sD c.tos) p.t2, .d (.sl (sD c.bak))] :: x1 :: x2 :: x3 :: x4 :: [flat (p.u1 ++ sD c.una ++ p.u2), flat (p.w1 ++ sD c.wai ++ p.w2), flat (p.d1 ++ sD c.del ++ p.d2)]) ++ [flat (p.t1 ++ sD c.tos ++ p.t2)]⟩ from ?_)
 refine gFrG (keep' := ([.d (.int .i64 c.win), .d (.int .i64 c.base), .d (.int .i64 c.nxt), rowV 5 1 p.u1 (sD c.una) p.u2, rowV 6 1 p.w1 (sD c.wai) p.w2, .d (.int .i64 c.exp), .d (.sl (pD c.ear)), rowV 7 1 p.d1 (sD c.del) p.d2, .d (.sl (sD c.tos)), .d (.sl (sD c.bak))] :: x1 :: x2 :: x3 :: x4 :: [flat (p.u1 ++ sD c.una ++ p.u2), flat (p.w1 ++ sD c.wai ++ p.w2), flat (p.d1 ++ sD c.del ++ p.d2)])) p.t1 (sD c.tos) p.t2 1 8 rfl (ok_t hp _) (by decide) (Nat.le_trans hm (by decide)) (frz_slots (L := [5, 6, 7, 8, 9, 10]) (by decide) hsl) (by rw [List.map_cons, he 8 (by decide) _ _ _ _ _ (fl_cons _ (fl_cons _ (fl_cons _ fl_nil)))]; refine congrArg (· :: _) ?_; simp [PV.frzs, PV.frz, rowV, rowHG]) hc ?_
 refine (show GF _ _ _ _ ⟨_, ([.d (.int .i64 c.win), .d (.int .i64 c.base), .d (.int .i64 c.nxt), rowV 5 1 p.u1 (sD c.una) p.u2, rowV 6 1 p.w1 (sD c.wai) p.w2, .d (.int .i64 c.exp), .d (.sl (pD c.ear)), rowV 7 1 p.d1 (sD c.del) p.d2, .d (.sl (sD c.tos)), .d (.sl (sD c.bak))] :: x1 :: x2 :: x3 :: x4 :: [flat (p.u1 ++ sD c.una ++ p.u2), flat (p.w1 ++ sD c.wai ++ p.w2)]) ++ [flat (p.d1 ++ sD c.del ++ p.d2)]⟩ from ?_)
 refine gFrG (keep' := ([.d (.int .i64 c.win), .d (.int .i64 c.base), .d (.int .i64 c.nxt), rowV 5 1 p.u1 (sD c.una) p.u2, rowV 6 1 p.w1 (sD c.wai) p.w2, .d (.int .i64 c.exp), .d (.sl (pD c.ear)), .d (.sl (sD c.del)), .d (.sl (sD c.tos)), .d (.sl (sD c.bak))] :: x1 :: x2 :: x3 :: x4 :: [flat (p.u1 ++ sD c.una ++ p.u2), flat (p.w1 ++ sD c.wai ++ p.w2)])) p.d1 (sD c.del) p.d2 1 7 rfl (ok_d hp _) (by decide) (Nat.le_trans hm (by decide)) (frz_slots (L := [5, 6, 7, 8, 9, 10]) (by decide) hsl) (by rw [List.map_cons, he 7 (by decide) _ _ _ _ _ (fl_cons _ (fl_cons _ fl_nil))]; refine congrArg (· :: _) ?_; simp [PV.frzs, PV.frz, rowV, rowHG]) hc ?_
 refine (show GF _ _ _ _ ⟨_, ([.d (.int .i64 c.win), .d (.int .i64 c.base), .d (.int .i64 c.nxt), rowV 5 1 p.u1 (sD c.una) p.u2, rowV 6 1 p.w1 (sD c.wai) p.w2, .d (.int .i64 c.exp), .d (.sl (pD c.ear)), .d (.sl (sD c.del)), .d (.sl (sD c.tos)), .d (.sl (sD c.bak))] :: x1 :: x2 :: x3 :: x4 :: [flat (p.u1 ++ sD c.una ++ p.u2)]) ++ [flat (p.w1 ++ sD c.wai ++ p.w2)]⟩ from ?_)
 refine gFrG (keep' := ([.d (.int .i64 c.win), .d (.int .i64 c.base), .d (.int .i64 c.nxt), rowV 5 1 p.u1 (sD c.una) p.u2, .d (.sl (sD c.wai)), .d (.int .i64 c.exp), .d (.sl (pD c.ear)), .d (.sl (sD c.del)), .d (.sl (sD c.tos)), .d (.sl (sD c.bak))] :: x1 :: x2 :: x3 :: x4 :: [flat (p.u1 ++ sD c.una ++ p.u2)])) p.w1 (sD c.wai) p.w2 1 6 rfl (ok_w hp _) (by decide) (Nat.le_trans hm (by decide)) (frz_slots (L := [5, 6, 7, 8, 9, 10]) (by decide) hsl) (by rw [List.map_cons, he 6 (by decide) _ _ _ _ _ (fl_cons _ fl_nil)]; refine congrArg (· :: _) ?_; simp [PV.frzs, PV.frz, rowV, rowHG]) hc ?_
 refine (show GF _ _ _ _ ⟨_, ([.d (.int .i64 c.win), .d (.int .i64 c.base), .d (.int .i64 c.nxt), rowV 5 1 p.u1 (sD c.una) p.u2, .d (.sl (sD c.wai)), .d (.int .i64 c.exp), .d (.sl (pD c.ear)), .d (.sl (sD c.del)), .d (.sl (sD c.tos)), .d (.sl (sD c.bak))] :: x1 :: x2 :: x3 :: x4 :: []) ++ [flat (p.u1 ++ sD c.una ++ p.u2)]⟩ from ?_)
 refine gFrG (keep' := ([.d (.int .i64 c.win), .d (.int .i64 c.base), .d (.int .i64 c.nxt), .d (.sl (sD c.una)), .d (.sl (sD c.wai)), .d (.int .i64 c.exp), .d (.sl (pD c.ear)), .d (.sl (sD c.del)), .d (.sl (sD c.tos)), .d (.sl (sD c.bak))] :: x1 :: x2 :: x3 :: x4 :: [])) p.u1 (sD c.una) p.u2 1 5 rfl (ok_u hp _) (by decide) (Nat.le_trans hm (by decide)) (frz_slots (L := [5, 6, 7, 8, 9, 10]) (by decide) hsl) (by rw [List.map_cons, he 5 (by decide) _ _ _ _ _ fl_nil]; refine congrArg (· :: _) ?_; simp [PV.frzs, PV.frz, rowV, rowHG]) hc ?_
 exact hg
theorem cj5 {S0 : Reg} {O0 : Owns} {w0 : World} {m0 Bs : List Nat} {ds : List Deferred} {Q : Exit → GS → Prop} {ops : Array Oper} {i : Nat} {l : List Nat} {x5 : List PV} {ex : List (List PV)} {t : Nat} {f : FuncId} {args : List PV} {c' : Ch} {r : PV} (h : cms ops.toList n i sl = some (t, f, args)) (hc : Mt f args c r c') (hp : p.Ok)
 (hg : ∀ p', p'.Ok → GF ⟨Tryd.prog, n, S0, O0, w0, m0, Bs, ds⟩ fr (.ops ops l) Q ⟨(t, r) :: sansL [6, 7, 8, 9, 10, 11] sl, ChA c' p' 6 7 8 9 10 11 :: x1 :: x2 :: x3 :: x4 :: x5 :: (ChR c' p' ++ ex)⟩) (hm0 : m0.length ≤ 1 := by omega) (hargs : args = PV.rens (fun b => [0, 6, 7, 8, 9, 10, 11].getD b 0) args := by rfl) (hra : PV.refsBs 7 args = true := by rfl) (hr : r.ren (renN [0, 6, 7, 8, 9, 10, 11] (ChA c p 6 7 8 9 10 11 :: x1 :: x2 :: x3 :: x4 :: x5 :: (ChR c p ++ ex)).length) = r := by rfl) (hx : exB [6, 7, 8, 9, 10, 11] [x1, x2, x3, x4, x5] = true := by rfl) (hex : exB [6, 7, 8, 9, 10, 11] ex = true := by rfl) : GF ⟨Tryd.prog, n, S0, O0, w0, m0, Bs, ds⟩ fr (.ops ops (i :: l)) Q ⟨sl, ChA c p 6 7 8 9 10 11 :: x1 :: x2 :: x3 :: x4 :: x5 :: (ChR c p ++ ex)⟩ := by
 refine gJ (jn := 1) [0, 6, 7, 8, 9, 10, 11] h (hc p hp) hargs (by decide) (fun b hb => ?_) ?_ hra (ChM_refs c p) (fun b hb => ?_) ?_ ?_
 · have : b < 12 := by
    have h : ∀ b ∈ [0, 6, 7, 8, 9, 10, 11], b < 12 := by decide
    exact h b hb
   have h7 : (ChA c p 6 7 8 9 10 11 :: x1 :: x2 :: x3 :: x4 :: x5 :: (ChR c p ++ ex)).length = 12 + ex.length := by simp [ChR]; omega
   omega
 · rw [ChM_rens]; rfl
 · have h1 : 1 ≤ b := by
    have h : ∀ b ∈ [6, 7, 8, 9, 10, 11], 1 ≤ b := by decide
    exact h b hb
   exact Nat.le_trans hm0 h1
 · have h1 := nrefLM_ex [6, 7, 8, 9, 10, 11] [0, 6, 7, 8, 9, 10, 11] ex 12 hex
   have h2 := nrefLM_ex [6, 7, 8, 9, 10, 11] [0, 6, 7, 8, 9, 10, 11] [x1, x2, x3, x4, x5] 1 hx
   have h3 := nrefLM_app [6, 7, 8, 9, 10, 11] [0, 6, 7, 8, 9, 10, 11] ([x1, x2, x3, x4, x5]) (ChR c p ++ ex) 1 h2 (nrefLM_app [6, 7, 8, 9, 10, 11] [0, 6, 7, 8, 9, 10, 11] (ChR c p) ex 6 (nrefLM_ex [6, 7, 8, 9, 10, 11] [0, 6, 7, 8, 9, 10, 11] (ChR c p) 6 (ChR_exB _ c p)) h1)
   show ((true || _) && _) = true
   rw [Bool.true_or, Bool.true_and]
   exact h3
 · rintro q m ⟨rfl, p', hp', rfl⟩ _
   have h2 : stJ 1 [0, 6, 7, 8, 9, 10, 11] sl (ChA c p 6 7 8 9 10 11 :: x1 :: x2 :: x3 :: x4 :: x5 :: (ChR c p ++ ex)) t q (ChM c' p') = ⟨(t, q) :: sansL [6, 7, 8, 9, 10, 11] sl, ChA c' p' 6 7 8 9 10 11 :: x1 :: x2 :: x3 :: x4 :: x5 :: (ChR c' p' ++ ex)⟩ := by
    unfold stJ
    rw [hr]
    refine congrArg (GS.mk _) ?_
    rw [show (ChM c' p').take (List.length [0, 6, 7, 8, 9, 10, 11]) = ChM c' p' from rfl, show (ChM c' p').drop (List.length [0, 6, 7, 8, 9, 10, 11]) = [] from rfl, ChM_rens, List.map_nil, List.append_nil]
    rfl
   rw [h2]
   exact hg p' hp'
theorem gChD5 {K : Ctx} {cf : Cf} {Q : Exit → GS → Prop} {x5 : List PV} (hp : p.Ok) (hg : GF K fr cf Q ⟨sl, [chD c, x1, x2, x3, x4, x5]⟩) (hm : K.m0.length ≤ 6) (hsl : sl.all (fun x => nrefL [6, 7, 8, 9, 10, 11] x.2) = true := by rfl) (hx : exB [6, 7, 8, 9, 10, 11] [x1, x2, x3, x4, x5] = true := by rfl) (hc : goes cf = true := by rfl) : GF K fr cf Q ⟨sl, ChA c p 6 7 8 9 10 11 :: x1 :: x2 :: x3 :: x4 :: x5 :: ChR c p⟩ := by
 have he : ∀ (n : Nat), n ∈ [6, 7, 8, 9, 10, 11] → ∀ (k : Nat) (pre xs post : List D) (rs : List (List PV)), (∀ c ∈ rs, ∃ ds, c = flat ds) → (x1 :: x2 :: x3 :: x4 :: x5 :: rs).map (PV.frzs n noF (rowHG k pre xs post) .undef) = x1 :: x2 :: x3 :: x4 :: x5 :: rs := by
  intro n hn k pre xs post rs hrs
  have h1 := frz_ex (n := n) (F := noF) (H := rowHG k pre xs post) (X := .undef) hn hx
  have h2 : rs.map (PV.frzs n noF (rowHG k pre xs post) .undef) = rs := by
   clear h1 hg
   induction rs with
   | nil => rfl
   | cons a rs ih =>
    obtain ⟨ds, rfl⟩ := hrs a (by simp)
    rw [List.map_cons, frz_flat, ih (fun c hc => hrs c (by simp [hc]))]
  rw [show (x1 :: x2 :: x3 :: x4 :: x5 :: rs) = [x1, x2, x3, x4, x5] ++ rs from rfl, List.map_append, h1, h2]
 refine (show GF _ _ _ _ ⟨_, ([.d (.int .i64 c.win), .d (.int .i64 c.base), .d (.int .i64 c.nxt), rowV 6 1 p.u1 (sD c.una) p.u2, rowV 7 1 p.w1 (sD c.wai) p.w2, .d (.int .i64 c.exp), rowV 11 3 p.e1 (pD c.ear) p.e2, rowV 8 1 p.d1 (sD c.del) p.d2, rowV 9 1 p.t1 (sD c.tos) p.t2, rowV 10 1 p.b1 (sD c.bak) p.b2] :: x1 :: x2 :: x3 :: x4 :: x5 :: [flat (p.u1 ++ sD c.una ++ p.u2), flat (p.w1 ++ sD c.wai ++ p.w2), flat (p.d1 ++ sD c.del ++ p.d2), flat (p.t1 ++ sD c.tos ++ p.t2), flat (p.b1 ++ sD c.bak ++ p.b2)]) ++ [flat (p.e1 ++ pD c.ear ++ p.e2)]⟩ from ?_)
 refine gFrG (keep' := ([.d (.int .i64 c.win), .d (.int .i64 c.base), .d (.int .i64 c.nxt), rowV 6 1 p.u1 (sD c.una) p.u2, rowV 7 1 p.w1 (sD c.wai) p.w2, .d (.int .i64 c.exp), .d (.sl (pD c.ear)), rowV 8 1 p.d1 (sD c.del) p.d2, rowV 9 1 p.t1 (sD c.tos) p.t2, rowV 10 1 p.b1 (sD c.bak) p.b2] :: x1 :: x2 :: x3 :: x4 :: x5 :: [flat (p.u1 ++ sD c.una ++ p.u2), flat (p.w1 ++ sD c.wai ++ p.w2), flat (p.d1 ++ sD c.del ++ p.d2), flat (p.t1 ++ sD c.tos ++ p.t2), flat (p.b1 ++ sD c.bak ++ p.b2)])) p.e1 (pD c.ear) p.e2 3 11 rfl (ok_e hp _) (by decide) (Nat.le_trans hm (by decide)) (frz_slots (L := [6, 7, 8, 9, 10, 11]) (by decide) hsl) (by rw [List.map_cons, he 11 (by decide) _ _ _ _ _ (fl_cons _ (fl_cons _ (fl_cons _ (fl_cons _ (fl_cons _ fl_nil)))))]; refine congrArg (· :: _) ?_; simp [PV.frzs, PV.frz, rowV, rowHG]) hc ?_
 refine (show GF _ _ _ _ ⟨_, ([.d (.int .i64 c.win), .d (.int .i64 c.base), .d (.int .i64 c.nxt), rowV 6 1 p.u1 (sD c.una) p.u2, rowV 7 1 p.w1 (sD c.wai) p.w2, .d (.int .i64 c.exp), .d (.sl (pD c.ear)), rowV 8 1 p.d1 (sD c.del) p.d2, rowV 9 1 p.t1 (sD c.tos) p.t2, rowV 10 1 p.b1 (sD c.bak) p.b2] :: x1 :: x2 :: x3 :: x4 :: x5 :: [flat (p.u1 ++ sD c.una ++ p.u2), flat (p.w1 ++ sD c.wai ++ p.w2), flat (p.d1 ++ sD c.del ++ p.d2), flat (p.t1 ++ sD c.tos ++ p.t2)]) ++ [flat (p.b1 ++ sD c.bak ++ p.b2)]⟩ from ?_)
 refine gFrG (keep' := ([.d (.int .i64 c.win), .d (.int .i64 c.base), .d (.int .i64 c.nxt), rowV 6 1 p.u1 (sD c.una) p.u2, rowV 7 1 p.w1 (sD c.wai) p.w2, .d (.int .i64 c.exp), .d (.sl (pD c.ear)), rowV 8 1 p.d1 (sD c.del) p.d2, rowV 9 1 p.t1 (sD c.tos) p.t2, .d (.sl (sD c.bak))] :: x1 :: x2 :: x3 :: x4 :: x5 :: [flat (p.u1 ++ sD c.una ++ p.u2), flat (p.w1 ++ sD c.wai ++ p.w2), flat (p.d1 ++ sD c.del ++ p.d2), flat (p.t1 ++ sD c.tos ++ p.t2)])) p.b1 (sD c.bak) p.b2 1 10 rfl (ok_b hp _) (by decide) (Nat.le_trans hm (by decide)) (frz_slots (L := [6, 7, 8, 9, 10, 11]) (by decide) hsl) (by rw [List.map_cons, he 10 (by decide) _ _ _ _ _ (fl_cons _ (fl_cons _ (fl_cons _ (fl_cons _ fl_nil))))]; refine congrArg (· :: _) ?_; simp [PV.frzs, PV.frz, rowV, rowHG]) hc ?_
 refine (show GF _ _ _ _ ⟨_, ([.d (.int .i64 c.win), .d (.int .i64 c.base), .d (.int .i64 c.nxt), rowV 6 1 p.u1 (sD c.una) p.u2, rowV 7 1 p.w1 (sD c.wai) p.w2, .d (.int .i64 c.exp), .d (.sl (pD c.ear)), rowV 8 1 p.d1 (sD c.del) p.d2, rowV 9 1 p.t1 (sD c.tos) p.t2, .d (.sl (sD c.bak))] :: x1 :: x2 :: x3 :: x4 :: x5 :: [flat (p.u1 ++ sD c.una ++ p.u2), flat (p.w1 ++ sD c.wai ++ p.w2), flat (p.d1 ++ sD c.del ++ p.d2)]) ++ [flat (p.t1 ++ sD c.tos ++ p.t2)]⟩ from ?_)
 refine gFrG (keep' := ([.d (.int .i64 c.win), .d (.int .i64 c.base), .d (.int .i64 c.nxt), rowV 6 1 p.u1 (sD c.una) p.u2, rowV 7 1 p.w1 (sD c.wai) p.w2, .d (.int .i64 c.exp), .d (.sl (pD c.ear)), rowV 8 1 p.d1 (sD c.del) p.d2, .d (.sl (sD c.tos)), .d (.sl (sD c.bak))] :: x1 :: x2 :: x3 :: x4 :: x5 :: [flat (p.u1 ++ sD c.una ++ p.u2), flat (p.w1 ++ sD c.wai ++ p.w2), flat (p.d1 ++ sD c.del ++ p.d2)])) p.t1 (sD c.tos) p.t2 1 9 rfl (ok_t hp _) (by decide) (Nat.le_trans hm (by decide)) (frz_slots (L := [6, 7, 8, 9, 10, 11]) (by decide) hsl) (by rw [List.map_cons, he 9 (by decide) _ _ _ _ _ (fl_cons _ (fl_cons _ (fl_cons _ fl_nil)))]; refine congrArg (· :: _) ?_; simp [PV.frzs, PV.frz, rowV, rowHG]) hc ?_
 refine (show GF _ _ _ _ ⟨_, ([.d (.int .i64 c.win), .d (.int .i64 c.base), .d (.int .i64 c.nxt), rowV 6 1 p.u1 (sD c.una) p.u2, rowV 7 1 p.w1 (sD c.wai) p.w2, .d (.int .i64 c.exp), .d (.sl (pD c.ear)), rowV 8 1 p.d1 (sD c.del) p.d2, .d (.sl (sD c.tos)), .d (.sl (sD c.bak))] :: x1 :: x2 :: x3 :: x4 :: x5 :: [flat (p.u1 ++ sD c.una ++ p.u2), flat (p.w1 ++ sD c.wai ++ p.w2)]) ++ [flat (p.d1 ++ sD c.del ++ p.d2)]⟩ from ?_)
 refine gFrG (keep' := ([.d (.int .i64 c.win), .d (.int .i64 c.base), .d (.int .i64 c.nxt), rowV 6 1 p.u1 (sD c.una) p.u2, rowV 7 1 p.w1 (sD c.wai) p.w2, .d (.int .i64 c.exp), .d (.sl (pD c.ear)), .d (.sl (sD c.del)), .d (.sl (sD c.tos)), .d (.sl (sD c.bak))] :: x1 :: x2 :: x3 :: x4 :: x5 :: [flat (p.u1 ++ sD c.una ++ p.u2), flat (p.w1 ++ sD c.wai ++ p.w2)])) p.d1 (sD c.del) p.d2 1 8 rfl (ok_d hp _) (by decide) (Nat.le_trans hm (by decide)) (frz_slots (L := [6, 7, 8, 9, 10, 11]) (by decide) hsl) (by rw [List.map_cons, he 8 (by decide) _ _ _ _ _ (fl_cons _ (fl_cons _ fl_nil))]; refine congrArg (· :: _) ?_; simp [PV.frzs, PV.frz, rowV, rowHG]) hc ?_
 refine (show GF _ _ _ _ ⟨_, ([.d (.int .i64 c.win), .d (.int .i64 c.base), .d (.int .i64 c.nxt), rowV 6 1 p.u1 (sD c.una) p.u2, rowV 7 1 p.w1 (sD c.wai) p.w2, .d (.int .i64 c.exp), .d (.sl (pD c.ear)), .d (.sl (sD c.del)), .d (.sl (sD c.tos)), .d (.sl (sD c.bak))] :: x1 :: x2 :: x3 :: x4 :: x5 :: [flat (p.u1 ++ sD c.una ++ p.u2)]) ++ [flat (p.w1 ++ sD c.wai ++ p.w2)]⟩ from ?_)
 refine gFrG (keep' := ([.d (.int .i64 c.win), .d (.int .i64 c.base), .d (.int .i64 c.nxt), rowV 6 1 p.u1 (sD c.una) p.u2, .d (.sl (sD c.wai)), .d (.int .i64 c.exp), .d (.sl (pD c.ear)), .d (.sl (sD c.del)), .d (.sl (sD c.tos)), .d (.sl (sD c.bak))] :: x1 :: x2 :: x3 :: x4 :: x5 :: [flat (p.u1 ++ sD c.una ++ p.u2)])) p.w1 (sD c.wai) p.w2 1 7 rfl (ok_w hp _) (by decide) (Nat.le_trans hm (by decide)) (frz_slots (L := [6, 7, 8, 9, 10, 11]) (by decide) hsl) (by rw [List.map_cons, he 7 (by decide) _ _ _ _ _ (fl_cons _ fl_nil)]; refine congrArg (· :: _) ?_; simp [PV.frzs, PV.frz, rowV, rowHG]) hc ?_
 refine (show GF _ _ _ _ ⟨_, ([.d (.int .i64 c.win), .d (.int .i64 c.base), .d (.int .i64 c.nxt), rowV 6 1 p.u1 (sD c.una) p.u2, .d (.sl (sD c.wai)), .d (.int .i64 c.exp), .d (.sl (pD c.ear)), .d (.sl (sD c.del)), .d (.sl (sD c.tos)), .d (.sl (sD c.bak))] :: x1 :: x2 :: x3 :: x4 :: x5 :: []) ++ [flat (p.u1 ++ sD c.una ++ p.u2)]⟩ from ?_)
 refine gFrG (keep' := ([.d (.int .i64 c.win), .d (.int .i64 c.base), .d (.int .i64 c.nxt), .d (.sl (sD c.una)), .d (.sl (sD c.wai)), .d (.int .i64 c.exp), .d (.sl (pD c.ear)), .d (.sl (sD c.del)), .d (.sl (sD c.tos)), .d (.sl (sD c.bak))] :: x1 :: x2 :: x3 :: x4 :: x5 :: [])) p.u1 (sD c.una) p.u2 1 6 rfl (ok_u hp _) (by decide) (Nat.le_trans hm (by decide)) (frz_slots (L := [6, 7, 8, 9, 10, 11]) (by decide) hsl) (by rw [List.map_cons, he 6 (by decide) _ _ _ _ _ fl_nil]; refine congrArg (· :: _) ?_; simp [PV.frzs, PV.frz, rowV, rowHG]) hc ?_
 exact hg
end Go.Proofs.YtoonleefemkalaaDoor
namespace Go.Proofs.YtoonleefemkalaaDoor
open Go Go.Proofs.YtoonleefemkalaaDoor.E
def zeroC : Ch := ⟨0, 0, 0, [], [], 0, [], [], [], []⟩
def zcel : List PV := [.d (.int .i64 0), .d (.int .i64 0), .d (.int .i64 0), .nils, .nils, .d (.int .i64 0), .nils, .nils, .nils, .nils]
def newC (n : Int) : Ch := { zeroC with win := n }
def newE (n : Int) : Int := cond (decide (n < 1) || decide (n > 16)) 4 0
def newS (n : Int) : Ch := cond (decide (n < 1) || decide (n > 16)) zeroC (newC n)
theorem c24 (n : Int) : Pf Tryd.prog 24 [.int .i64 n] (.tup [.d (newS n).d, .d (.int .i64 (newE n))]) := by
 unfold newS newE
 refine pfb Tryd.func24 Tryd.ntmps24 Tryd.results24 (fun S0 O0 w0 m0 hm0 => ?_)
 repeat' first | refine st (by exact rfl) ?_ | fail
 refine cd (by exact rfl) (fun hb => ?_) (fun hb => ?_)
 · rw [hb]
   repeat' first | refine st (by exact rfl) ?_ | fail
   exact Y0
 · rw [hb]
   repeat' first | refine st (by exact rfl) ?_ | fail
   exact Y0
def sendE (c : Ch) (m : ByteArray) : Int := if chkC c = true then 331 else if (m.size : Int) > 200 then 7 else if IntKind.i64.wrap (c.nxt + (c.wai.length : Int)) = 10000 then 5 else 0
def sendS (c : Ch) (m : ByteArray) : Ch := if chkC c = true then zeroC else if (m.size : Int) > 200 then zeroC else if IntKind.i64.wrap (c.nxt + (c.wai.length : Int)) = 10000 then zeroC else if (c.una.length : Int) < c.win then nextC c m else { c with wai := c.wai ++ [m] }
theorem c18 (c : Ch) (m : ByteArray) (hc : c.Few) : Pf Tryd.prog 18 [c.d, .str m] (.tup [.d (sendS c m).d, .d (.int .i64 (sendE c m))]) := by
 have hc' := hc
 obtain ⟨h0, h1, h2, h3, h4, h5⟩ := hc'
 have q16 := c16 c (by omega) (by omega) (by omega) (by omega) (by omega) (by omega)
 have q40 := c40 c hc
 have q41 := c41 c m hc
 unfold sendS sendE
 unfold Ch.d at q16 q40 ⊢
 refine pfb Tryd.func18 Tryd.ntmps18 Tryd.results18 (fun S0 O0 w0 m0 hm0 => ?_)
 repeat' first | refine st (by exact rfl) ?_ | refine cl (by exact rfl) q16 ?_ | fail
 refine cd (by exact rfl) (fun hb => ?_) (fun hb => ?_)
 · have hk : chkC c = true := by
    cases hq : chkC c with
    | true => rfl
    | false => rw [hq] at hb; simp at hb
   rw [if_pos hk, if_pos hk, hk]
   repeat' first | refine st (by exact rfl) ?_ | fail
   exact Y0
 have hk : ¬ chkC c = true := by
  intro hq
  rw [hq] at hb; simp at hb
 rw [if_neg hk, if_neg hk, if_neg hk]
 repeat' first | refine st (by exact rfl) ?_ | fail
 refine cd (by exact rfl) (fun hb => ?_) (fun hb => ?_)
 · have h7 : (m.size : Int) > 200 := of_decide_eq_true hb
   rw [if_pos h7, if_pos h7]
   repeat' first | refine st (by exact rfl) ?_ | fail
   exact Y0
 have h7 : ¬ (m.size : Int) > 200 := of_decide_eq_false hb
 rw [if_neg h7, if_neg h7]
 repeat' first | refine st (by exact rfl) ?_ | fail
 refine cd (by exact rfl) (fun hb => ?_) (fun hb => ?_)
 · have h9 : IntKind.i64.wrap (c.nxt + (c.wai.length : Int)) = 10000 := by rw [List.length_map] at hb; simpa using hb
   rw [if_pos h9, if_pos h9]
   repeat' first | refine st (by exact rfl) ?_ | fail
   exact Y0
 have h9 : ¬ IntKind.i64.wrap (c.nxt + (c.wai.length : Int)) = 10000 := by rw [List.length_map] at hb; simpa using hb
 rw [if_neg h9, if_neg h9]
 repeat' first | refine st (by exact rfl) ?_ | fail
 refine cn (by exact rfl) q40 (r' := .agg (ChA c p0 5 6 7 8 9 10)) (mem' := (chD c :: zcel :: unk 10 :: unk 10 :: unk 5 :: ChR c p0)) ?_ rfl (by rw [List.map_append, ChR_rens]; rfl)
 repeat' first | refine st (by exact rfl) ?_ | fail
 refine cd (by exact rfl) (fun hb => ?_) (fun hb => ?_)
 · have hu : (c.una.length : Int) < c.win := by have := of_decide_eq_true hb; rwa [sD_len] at this
   rw [if_pos hu]
   repeat' first | refine st (by exact rfl) ?_ | fail
   refine kp [(2, .ref 0 0), (4, .ref 1 0), (33, .d (.str m))] ⟨rfl, rfl, rfl, trivial⟩ ?_
   refine (show GF _ _ _ _ ⟨_, ChA c p0 5 6 7 8 9 10 :: zcel :: unk 10 :: unk 10 :: unk 5 :: (ChR c p0 ++ [])⟩ from ?_)
   refine cj4 (by exact rfl) q41 p0_ok (fun p' hp' => ?_)
   rw [List.append_nil]
   refine gChD4 hp' ?_ (by show m0.length ≤ 5; omega)
   repeat' first | refine st (by exact rfl) ?_ | fail
   exact Y0
 have hu : ¬ (c.una.length : Int) < c.win := by have := of_decide_eq_false hb; rwa [sD_len] at this
 rw [if_neg hu]
 repeat' first | refine st (by exact rfl) ?_ | refine bs (by exact rfl) ?_ | fail
 refine gCell 0 4 rfl rfl ?_ rfl rfl
 refine gApG (pre := p0.w1) (xs := sD c.wai) (post := p0.w2) (ys := [.str m]) rfl rfl rfl rfl rfl (by rw [hm0]; decide) (by simp only [ChR, List.set_cons_zero, List.set_cons_succ, nrefM, nrefs_flat, Bool.or_true, Bool.true_and, Bool.and_true] <;> rfl) rfl (by simp) (row_k p0_ok.w1 (sD_k _) p0_ok.w2) (by simp [D.cells]) (by decide) u35 inf9 rfl (by simp [Value.cells, Value.oneCell']) (by rw [sD_len]; unfold lim; simp; omega) (by rw [sD_len]; unfold lim; simp; omega) (Nat.le_of_ble_eq_true rfl) (fun a b hab => ?_)
 rw [← List.length_append, sD_snoc]
 iterate 2 refine st (by exact rfl) ?_
 refine kp [(2, .ref 0 0), (4, .ref 1 0)] ⟨rfl, rfl, trivial⟩ ?_
 refine (show GF _ _ _ _ ⟨_, ChA { c with wai := c.wai ++ [m] } { p0 with w1 := a, w2 := b } 5 6 7 8 9 10 :: zcel :: unk 10 :: unk 10 :: unk 5 :: ChR { c with wai := c.wai ++ [m] } { p0 with w1 := a, w2 := b }⟩ from ?_)
 refine gChD4 { p0_ok with w1 := fun x hx => hab x (List.mem_append_left _ (List.mem_append_left _ hx)), w2 := fun x hx => hab x (List.mem_append_right _ hx) } ?_ (by show m0.length ≤ 5; omega)
 repeat' first | refine st (by exact rfl) ?_ | fail
 exact Y0
end Go.Proofs.YtoonleefemkalaaDoor
namespace Go.Proofs.YtoonleefemkalaaDoor
open Go Go.Proofs.YtoonleefemkalaaDoor.E
theorem tab5 (X tX : Nat) (es es2 : List (Nat × Nat × PV)) (nums : List Nat) {n : Nat} {S0 : Reg} {O0 : Owns} {w0 : World} {m0 Bs : List Nat} {ds : List Deferred} {fr : List Fr} {Q : Exit → GS → Prop} {id : Nat} {ops : Array Oper} {sl base : List (Nat × PV)} {ds' : List Nat} {x1 x2 x3 x4 x5 : List PV} {ex : List (List PV)} {f : FuncId} {args : List PV} {c c' : Ch} {p : Pp} {r : PV} {preX : List (Nat × PV)}
 (hb : baseK ops.toList sl = some (ds', base)) (hsX : pick (es ++ es2) (dsK [] ops X) ++ base = preX) (h : ∀ rest, cms ops.toList n X (preX ++ rest) = some (tX, f, args)) (hc : Mt f args c r c') (hp : p.Ok)
 (hst : ∀ a : { q : Pp // q.Ok }, eachN (TabOp ⟨Tryd.prog, n, S0, O0, w0, m0, Bs, ds⟩ ops [] base (es ++ (X, tX, r) :: es2) X ops.size (ChA c p 6 7 8 9 10 11 :: x1 :: x2 :: x3 :: x4 :: x5 :: (ChR c p ++ ex)) (ChA c' a.1 6 7 8 9 10 11 :: x1 :: x2 :: x3 :: x4 :: x5 :: (ChR c' a.1 ++ ex)) (ChA c' a.1 6 7 8 9 10 11 :: x1 :: x2 :: x3 :: x4 :: x5 :: (ChR c' a.1 ++ ex))) nums)
 (hg : ∀ p', p'.Ok → GF ⟨Tryd.prog, n, S0, O0, w0, m0, Bs, ds⟩ fr (.leave .normal) Q ⟨((es ++ (X, tX, r) :: es2).filter fun (x : Nat × Nat × PV) => (([] : List (Nat × Nat)).lookup x.1).isNone).map (·.2) ++ base, ChA c' p' 6 7 8 9 10 11 :: x1 :: x2 :: x3 :: x4 :: x5 :: (ChR c' p' ++ ex)⟩)
 (hdep : ((List.range ops.size).all fun i => (depsOf ops i).all fun d => Nat.blt d i) = true := by kernel_rfl) (hXn : Nat.blt X ops.size = true := by rfl) (hnums : ((List.range ops.size).all fun i => Nat.beq i X || memN i nums) = true := by kernel_rfl)
 (hall : ((es ++ es2).map (fun (x : Nat × Nat × PV) => x.1)).all (fun i => !Nat.beq i X) = true := by rfl) (hnd : nodupB (tX :: (es ++ es2).map (fun (x : Nat × Nat × PV) => x.2.1)) = true := by rfl) (hbase : (base.map (fun (x : Nat × PV) => x.1)).all (fun t => !(tX :: (es ++ es2).map (fun (x : Nat × Nat × PV) => x.2.1)).contains t) = true := by rfl) (hfi : ((es ++ es2).map (fun (x : Nat × Nat × PV) => x.1)).all (fun i => Nat.blt i ops.size) = true := by rfl)
 (hgd : (es ++ es2).all (fun (e : Nat × Nat × PV) => nrefL [6, 7, 8, 9, 10, 11] e.2.2 || (match ([] : List (Nat × Nat)).lookup e.1 with | some m => Nat.beq m X | none => false)) = true := by rfl) (hgb : base.all (fun (x : Nat × PV) => nrefL [6, 7, 8, 9, 10, 11] x.2) = true := by rfl)
 (hm0 : m0.length ≤ 1 := by omega) (hargs : args = PV.rens (fun b => [0, 6, 7, 8, 9, 10, 11].getD b 0) args := by rfl) (hra : PV.refsBs 7 args = true := by rfl) (hr : r.ren (renN [0, 6, 7, 8, 9, 10, 11] (ChA c p 6 7 8 9 10 11 :: x1 :: x2 :: x3 :: x4 :: x5 :: (ChR c p ++ ex)).length) = r := by rfl) (hx : exB [6, 7, 8, 9, 10, 11] [x1, x2, x3, x4, x5] = true := by rfl) (hex : exB [6, 7, 8, 9, 10, 11] ex = true := by rfl) : GF ⟨Tryd.prog, n, S0, O0, w0, m0, Bs, ds⟩ fr (.code (.region id ops true)) Q ⟨sl, ChA c p 6 7 8 9 10 11 :: x1 :: x2 :: x3 :: x4 :: x5 :: (ChR c p ++ ex)⟩ :=
 gTab (A := { q : Pp // q.Ok }) X ops.size [] (nrefL [6, 7, 8, 9, 10, 11]) es es2 tX (fun _ => r) (fun a => ChA c' a.1 6 7 8 9 10 11 :: x1 :: x2 :: x3 :: x4 :: x5 :: (ChR c' a.1 ++ ex)) (fun a => ChA c' a.1 6 7 8 9 10 11 :: x1 :: x2 :: x3 :: x4 :: x5 :: (ChR c' a.1 ++ ex)) ⟨p0, p0_ok⟩ nums hb mixed hdep hXn hnums hall hnd hbase rfl hfi hgd hgb hsX
  (fun rest Q' hQ => cj5 (h rest) hc hp (fun p' hp' => hQ ⟨p', hp'⟩) hm0 hargs hra hr hx hex) hst (by rw [Nat.ble_eq]; exact Nat.le_refl _) (by rw [beq_yes]; rfl) (fun _ _ => rfl) (fun a => hg a.1 a.2)
theorem und88 : Tryd.prog.underlying 88 = some (.func #[90, 54] #[25] false) := by kernel_rfl
theorem und91 : Tryd.prog.underlying 91 = some (.array 6 88) := by kernel_rfl
theorem c44Dt (c : Ch) (k ix at_ : Int) : Gm Tryd.prog 44 [.ref 0 0, .d (acD k false ix at_)] [chD c] (.ref 0 8) [chD c] := by
 unfold acD
 refine gmB 1 Tryd.func44 Tryd.ntmps44 Tryd.results44 (fun S0 O0 w0 m0 hm0 => ?_)
 iterate 3 refine st (by exact rfl) ?_
 refine fz true (by exact rfl) ?_ (by rw [hm0]; decide) rfl
 repeat' first | refine st (by exact rfl) ?_ | fail
 refine cf (by exact rfl) ?_ rfl
 repeat' first | refine st (by exact rfl) ?_ | fail
 exact enm (mem' := [chD c]) (by exact rfl) rfl (msame rfl)
set_option maxRecDepth 100000 in
theorem c21_1t (c c' : Ch) (ix at_ e : Int) (hc : c.Few) (hk : chkC c = false) (h0 : 0 ≤ ix) (h1 : ix < (c.tos.length : Int)) (hm : Mt 45 [.ref 0 0, .d (acD 1 false ix at_)] c (.d (.int .i64 e)) c') : Pf Tryd.prog 21 [c.d, acD 1 false ix at_] (.tup [.d (if e = 0 then c' else zeroC).d, .d (.int .i64 e)]) := by
 have hc' := hc
 obtain ⟨g0, g1, g2, g3, g4, g5⟩ := hc'
 have q16 := c16 c (by omega) (by omega) (by omega) (by omega) (by omega) (by omega)
 rw [hk] at q16
 have q40 := c40 c hc
 have q44 := c44Dt c 1 ix at_
 unfold acD at q44 hm ⊢
 unfold Ch.d at q16 q40 ⊢
 refine pfb Tryd.func21 Tryd.ntmps21 Tryd.results21 (fun S0 O0 w0 m0 hm0 => ?_)
 repeat' first | refine st (by exact rfl) ?_ | refine cl (by exact rfl) q16 ?_ | fail
 refine cf (by exact rfl) ?_ rfl
 repeat' first | refine st (by exact rfl) ?_ | fail
 refine cf (by exact rfl) ?_ rfl
 repeat' first | refine st (by exact rfl) ?_ | fail
 have hgd : (1 != 5 && decide (ix < 0) == false) = true := by simp; omega
 refine kp [(2, .ref 0 0), (3, .ref 1 0), (4, .ref 2 0)] ⟨rfl, rfl, rfl, trivial⟩ ?_
 refine Z6 ?_
 iterate 10 refine ov (hc := ?_)
 refine oStep (p := .d (.agg [.int .i64 1, .bool false, .int .i64 ix, .int .i64 at_])) (by exact rfl) (by exact rfl) (by exact rfl) ?_ (fun rest _ hg => gOn (by exact rfl) hgd rfl rfl rfl rfl rfl (of_decide_eq_true rfl) (st (by exact rfl) (gOnEnd hg)))
 refine oStep (p := .ref 0 8) (by exact rfl) (by exact rfl) (by exact rfl) ?_ (fun rest _ hg => gOn (by exact rfl) hgd rfl rfl rfl rfl rfl (of_decide_eq_true rfl) (cs [0] (by exact rfl) q44 (gOnEnd hg)))
 iterate 6 refine ov (hc := ?_)
 refine Z7 ?_;refine Z2 ?_
 refine cf (by exact rfl) ?_ (by rw [List.length_map]; simp; omega)
 repeat' first | refine st (by exact rfl) ?_ | fail
 refine cn (by exact rfl) q40 (r' := .agg (ChA c p0 6 7 8 9 10 11)) (mem' := (chD c :: [.d (.int .i64 1), .d (.bool false), .d (.int .i64 ix), .d (.int .i64 at_)] :: zcel :: unk 10 :: unk 10 :: unk 5 :: ChR c p0)) ?_ rfl (by rw [List.map_append, ChR_rens]; rfl)
 repeat' first | refine st (by exact rfl) ?_ | fail
 refine kp [(2, .ref 0 0), (3, .ref 1 0), (4, .ref 2 0), (7, .ref 12 0)] ⟨rfl, rfl, rfl, rfl, trivial⟩ ?_
 refine (show GF _ _ _ _ ⟨_, ChA c p0 6 7 8 9 10 11 :: [.d (.int .i64 1), .d (.bool false), .d (.int .i64 ix), .d (.int .i64 at_)] :: zcel :: unk 10 :: unk 10 :: unk 5 :: (ChR c p0 ++ [[.d .nilF, .d (.fn (.func 45) [] []), .d (.fn (.func 46) [] []), .d (.fn (.func 47) [] []), .d (.fn (.func 48) [] []), .d (.fn (.func 49) [] [])]])⟩ from ?_)
 refine tab5 5 51 [(0, 46, .ref 1 0), (1, 47, .d (.int .i64 1)), (2, 48, .ref 12 (0 + (1 : Int).toNat * 1)), (3, 49, .d (.fn (.func 45) [] [])), (4, 50, .d (.agg [.int .i64 1, .bool false, .int .i64 ix, .int .i64 at_]))] [(6, 8, .d (.int .i64 e))] [0, 1, 2, 3, 4, 6] (by exact rfl) (by exact rfl) (fun rest => rfl) hm p0_ok (fun a => ?_) (fun p' hp' => ?_)
 · refine ⟨?_, ?_, ?_, ?_, ?_, ?_, trivial⟩
   iterate 2 exact ta (by exact rfl) (by exact rfl) rfl rfl (by kernel_rfl) (by exact fun _ => rfl)
   · exact tav (pre := (47, .d (.int .i64 1)) :: [(2, .ref 0 0), (3, .ref 1 0), (4, .ref 2 0), (7, .ref 12 0)]) rfl rfl rfl rfl (by kernel_rfl) (fun _ => rfl) (fun rest ht => by exact Q_arrAddr (b := 12) (o := 0) (m := 1) (k := .i64) (i := 1) rfl rfl und91 (by kernel_rfl) (by decide) (by decide))
   · exact tav (pre := (48, .ref 12 (0 + (1 : Int).toNat * 1)) :: [(2, .ref 0 0), (3, .ref 1 0), (4, .ref 2 0), (7, .ref 12 0)]) rfl rfl rfl rfl (by kernel_rfl) (fun _ => rfl) (fun rest ht => by exact Q_load_leaf (b := 12) (off := 0 + (1 : Int).toNat * 1) (p := .d (.fn (.func 45) [] [])) rfl rfl rfl und88 rfl rfl rfl ht)
   · exact ta (by exact rfl) (by exact rfl) rfl rfl (by kernel_rfl) (by exact fun _ => rfl)
   · exact tq3 (by exact rfl) (by exact rfl) rfl rfl (by exact fun _ _ => rfl)
 · refine st (by exact rfl) ?_
   refine kp [(8, .d (.int .i64 e)), (2, .ref 0 0), (4, .ref 2 0)] ⟨rfl, rfl, rfl, trivial⟩ ?_
   repeat' first | refine st (by exact rfl) ?_ | fail
   refine cd (by exact rfl) (fun hb => ?_) (fun hb => ?_)
   · have he : ¬ e = 0 := by simpa using hb
     rw [if_neg he]
     repeat' first | refine st (by exact rfl) ?_ | fail
     exact Y0
   · have he : e = 0 := by simpa using hb
     subst he
     rw [if_pos rfl]
     refine kp [(2, .ref 0 0), (4, .ref 2 0)] ⟨rfl, rfl, trivial⟩ ?_
     refine fg 12 (by exact rfl) ?_ rfl (by omega) (by show (PV.refsBs 12 (ChA c' p' 6 7 8 9 10 11) && (PV.refsBs 12 _ && (PV.refsBs 12 _ && (PV.refsBs 12 _ && (PV.refsBs 12 _ && (PV.refsBs 12 _ && (ChR c' p').all (PV.refsBs 12))))))) = true; rw [ChR_refs]; rfl)
     refine (show GF _ _ _ _ ⟨_, ChA c' p' 6 7 8 9 10 11 :: [.d (.int .i64 1), .d (.bool false), .d (.int .i64 ix), .d (.int .i64 at_)] :: zcel :: unk 10 :: unk 10 :: unk 5 :: ChR c' p'⟩ from ?_)
     refine gChD5 hp' ?_ (by show m0.length ≤ 6; omega)
     repeat' first | refine st (by exact rfl) ?_ | fail
     exact Y0
end Go.Proofs.YtoonleefemkalaaDoor
namespace Go.Proofs.YtoonleefemkalaaDoor
open Go Go.Proofs.YtoonleefemkalaaDoor.E
def aT : ByteArray := ⟨#[97]⟩
def c1 : Ch := nextC (newC 1) aT
def c2 : Ch := recZ { c1 with tos := [] } (enC ⟨1, 0, aT⟩)
theorem c1_tos : c1.tos = [enC ⟨1, 0, aT⟩] := by kernel_rfl
theorem c1_few : c1.Few := by
 refine ⟨?_, ?_, ?_, ?_, ?_, ?_⟩ <;> decide +kernel
theorem newC_few : (newC 1).Few := by
 refine ⟨?_, ?_, ?_, ?_, ?_, ?_⟩ <;> decide +kernel
theorem chkA : chkC c1 = false := by decide +kernel
theorem de1 : deE (enC ⟨1, 0, aT⟩) = 0 := by decide +kernel
theorem dp1 : deP (enC ⟨1, 0, aT⟩) = ⟨1, 0, aT⟩ := by kernel_rfl
theorem c2_del : c2.del = [aT] := by kernel_rfl
theorem c2_bak : c2.bak.length = 1 := by kernel_rfl
theorem send1 : sendS (newC 1) aT = c1 := by kernel_rfl
theorem send1e : sendE (newC 1) aT = 0 := by decide +kernel
theorem c45a : Mt 45 [.ref 0 0, .d (acD 1 false 0 0)] c1 (.d (.int .i64 0)) c2 := by
 have h := c45z c1 1 0 0 (x := enC ⟨1, 0, aT⟩) (by rw [c1_tos]; rfl) c1_few de1 (by rw [dp1]) (by rw [dp1]; decide +kernel) (by decide +kernel) (by decide +kernel)
 have he : (⟨c1.win, c1.base, c1.nxt, c1.una, c1.wai, c1.exp, c1.ear, c1.del, c1.tos.eraseIdx 0, c1.bak⟩ : Ch) = { c1 with tos := [] } := by rw [c1_tos]; rfl
 rw [show ({ c1 with tos := c1.tos.eraseIdx 0 } : Ch) = { c1 with tos := [] } from he] at h
 exact h
theorem c21a : Pf Tryd.prog 21 [c1.d, acD 1 false 0 0] (.tup [.d c2.d, .d (.int .i64 0)]) := by
 have h := c21_1t c1 c2 0 0 0 c1_few chkA (by decide) (by rw [c1_tos]; decide) c45a
 rwa [if_pos rfl] at h
theorem c18a : Pf Tryd.prog 18 [(newC 1).d, .str aT] (.tup [.d c1.d, .d (.int .i64 0)]) := by
 have h := c18 (newC 1) aT newC_few
 rwa [send1, send1e] at h
theorem c24a : Pf Tryd.prog 24 [.int .i64 1] (.tup [.d (newC 1).d, .d (.int .i64 0)]) := c24 1
theorem c9 : Pf Tryd.prog 9 [] (.d (.bool true)) := by
 have q24 := c24a
 have q18 := c18a
 have q21 := c21a
 have g1 : (newC 1).d = .agg [.int .i64 1, .int .i64 0, .int .i64 0, .sl [], .sl [], .int .i64 0, .sl [], .sl [], .sl [], .sl []] := rfl
 obtain ⟨b1, hb1⟩ : ∃ b, c1.bak = b := ⟨_, rfl⟩
 have g2 : c1.d = .agg [.int .i64 c1.win, .int .i64 c1.base, .int .i64 c1.nxt, strs c1.una, strs c1.wai, .int .i64 c1.exp, .sl (c1.ear.map Pk.d), strs c1.del, .sl [.str (enC ⟨1, 0, aT⟩)], strs c1.bak] := by
  unfold Ch.d; rw [c1_tos]; rfl
 have g3 : c2.d = .agg [.int .i64 c2.win, .int .i64 c2.base, .int .i64 c2.nxt, strs c2.una, strs c2.wai, .int .i64 c2.exp, .sl (c2.ear.map Pk.d), .sl [.str aT], strs c2.tos, strs c2.bak] := by
  unfold Ch.d; rw [c2_del]; rfl
 have hbk := c2_bak
 generalize c2.win = y0 at g3; generalize c2.base = y1 at g3; generalize c2.nxt = y2 at g3; generalize c2.una = y3 at g3; generalize c2.wai = y4 at g3; generalize c2.exp = y5 at g3; generalize c2.ear = y6 at g3; generalize c2.tos = y7 at g3; generalize c2.bak = y8 at g3 hbk
 generalize c1.win = z0 at g2; generalize c1.base = z1 at g2; generalize c1.nxt = z2 at g2; generalize c1.una = z3 at g2; generalize c1.wai = z4 at g2; generalize c1.exp = z5 at g2; generalize c1.ear = z6 at g2; generalize c1.del = z7 at g2; generalize c1.bak = z8 at g2
 rw [g1] at q24 q18
 rw [g2] at q18 q21
 rw [g3] at q21
 unfold acD at q21
 refine pfb Tryd.func9 Tryd.ntmps9 Tryd.results9 (fun S0 O0 w0 m0 hm0 => ?_)
 repeat' first | refine st (by exact rfl) ?_ | refine cl (by exact rfl) q24 ?_ | fail
 refine cf (by exact rfl) ?_ rfl
 repeat' first | refine st (by exact rfl) ?_ | refine cl (by exact rfl) q18 ?_ | fail
 refine cf (by exact rfl) ?_ rfl
 repeat' first | refine st (by exact rfl) ?_ | refine cl (by exact rfl) q21 ?_ | fail
 refine elg (.str aT) (by exact rfl) (fun _ => ⟨by decide, by rfl, by rfl⟩) ?_
 repeat' first | refine st (by exact rfl) ?_ | fail
 exact en (by exact rfl) (by
  have : (y8.map D.str).length = 1 := by rw [List.length_map]; exact hbk
  simp [this]; rfl)
end Go.Proofs.YtoonleefemkalaaDoor
namespace Go.Proofs.YtoonleefemkalaaDoor
open Go Go.Proofs.YtoonleefemkalaaDoor.E
theorem enB_head (p : Pk) : (enB p).extract 0 12 = strOfNums ([114, 100, p.kd % 256] ++ be4 p.nu ++ be4 p.bo.size ++ [58]) := by
 unfold enB
 exact ByteArray.extract_append_eq_left (by rw [strOfNums_size]; rfl)
theorem enB_size (p : Pk) : (enB p).size = 12 + p.bo.size := by
 unfold enB
 rw [ByteArray.size_append, strOfNums_size]; rfl
theorem enB_tail (p : Pk) : (enB p).extract 12 (enB p).size = p.bo := by
 have h := enB_size p
 rw [h]
 unfold enB
 exact ByteArray.extract_append_eq_right (by rw [strOfNums_size]; rfl) (by rw [strOfNums_size]; rfl)
theorem enB_byt (p : Pk) : [byt (enB p) 0, byt (enB p) 1, byt (enB p) 2, byt (enB p) 3, byt (enB p) 4, byt (enB p) 5, byt (enB p) 6, byt (enB p) 7, byt (enB p) 8, byt (enB p) 9, byt (enB p) 10, byt (enB p) 11] = [114, 100, p.kd % 256] ++ be4 p.nu ++ be4 p.bo.size ++ [58] := by
 have h := head_eq (enB p) (by rw [enB_size]; omega)
 rw [enB_head] at h
 refine strOfNums_inj _ _ (fun x hx => ?_) (fun x hx => ?_) (congrArg (fun b : ByteArray => b.data.toList) h.symm)
 · simp only [List.mem_cons, List.not_mem_nil, or_false] at hx
   rcases hx with rfl | rfl | rfl | rfl | rfl | rfl | rfl | rfl | rfl | rfl | rfl | rfl <;> exact byt_lt (enB p) _
 · simp only [List.mem_append, List.mem_cons, List.not_mem_nil, or_false] at hx
   rcases hx with (((rfl | rfl | rfl) | hx) | hx) | rfl
   · decide
   · decide
   · omega
   · exact be4_lt _ x hx
   · exact be4_lt _ x hx
   · decide
variable {p : Pk}
theorem right_bd (h : p.right = true) : 0 ≤ p.nu ∧ p.nu ≤ 1000000000 ∧ (p.kd = 1 ∨ p.kd = 2) := by
 unfold Pk.right at h
 rw [Bool.and_eq_true, Bool.not_eq_true', Bool.or_eq_false_iff] at h
 obtain ⟨⟨h1, h2⟩, h3⟩ := h
 have h1 := of_decide_eq_false h1
 have h2 := of_decide_eq_false h2
 refine ⟨by omega, by omega, ?_⟩
 by_cases hk : p.kd = 1
 · exact .inl hk
 · refine .inr ?_
   rw [show (p.kd == 1) = false by simpa using hk] at h3
   have h4 : (p.kd == 2 && decide (p.bo = ByteArray.empty)) = true := h3
   rw [Bool.and_eq_true] at h4
   simpa using h4.1
theorem enB_back (h : p.right = true) : hdP (enB p) = p ∧ deW (enB p) = false := by
 have hb := enB_byt p
 obtain ⟨h1, h2, h3⟩ := right_bd h
 have hsz := right_size h
 have e : ∀ (i : Nat) (a b : Int), [byt (enB p) 0, byt (enB p) 1, byt (enB p) 2, byt (enB p) 3, byt (enB p) 4, byt (enB p) 5, byt (enB p) 6, byt (enB p) 7, byt (enB p) 8, byt (enB p) 9, byt (enB p) 10, byt (enB p) 11][i]? = some a → ([114, 100, p.kd % 256] ++ be4 p.nu ++ be4 p.bo.size ++ [58])[i]? = some b → a = b := fun i a b ha hb' => by
  rw [hb, hb'] at ha; exact (Option.some.inj ha).symm
 have e0 := e 0 _ _ rfl rfl
 have e1 := e 1 _ _ rfl rfl
 have e2 := e 2 _ _ rfl rfl
 have e11 := e 11 _ _ rfl rfl
 have f1 : be4 p.nu = [byt (enB p) 3, byt (enB p) 4, byt (enB p) 5, byt (enB p) 6] := (congrArg (fun l => (l.drop 3).take 4) hb).symm
 have f2 : be4 p.bo.size = [byt (enB p) 7, byt (enB p) 8, byt (enB p) 9, byt (enB p) 10] := (congrArg (fun l => (l.drop 7).take 4) hb).symm
 have n1 := nb4_be4 h1 (by omega) f1
 have n2 := nb4_be4 (by omega) (by omega) f2
 have hp : hdP (enB p) = p := by
  unfold hdP
  rw [e2, n1, enB_tail, show p.kd % 256 = p.kd by rcases h3 with h3 | h3 <;> rw [h3] <;> rfl]
 refine ⟨hp, ?_⟩
 unfold deW
 rw [hp, h, e0, e1, e11, n2, enB_tail]
 simp
theorem dec_enc (h : p.right = true) : deP (enB p) = p ∧ deE (enB p) = 0 := by
 obtain ⟨h1, h2⟩ := enB_back h
 have hn : ¬ (enB p).size < 12 := by rw [enB_size]; omega
 unfold deP deE
 rw [if_neg hn, if_neg hn, h2]
 exact ⟨h1, rfl⟩
theorem dec_cut (h : p.right = true) (k : Nat) (hk : k < (enB p).size) : deE ((enB p).extract 0 k) = 330 := by
 have hks : ((enB p).extract 0 k).size = k := by rw [ByteArray.size_extract]; omega
 unfold deE
 by_cases h12 : k < 12
 · rw [if_pos (by rw [hks]; exact h12)]
 · rw [if_neg (by rw [hks]; exact h12)]
   have hby : ∀ i, i < 12 → byt ((enB p).extract 0 k) i = byt (enB p) i := fun i hi => by
    unfold byt
    rw [getElem!_pos ((enB p).extract 0 k) i (by omega), getElem!_pos (enB p) i (by omega)]
    congr 2
    simp [ByteArray.getElem_extract]
   have hsz := right_size h
   have f2 : be4 p.bo.size = [byt (enB p) 7, byt (enB p) 8, byt (enB p) 9, byt (enB p) 10] := (congrArg (fun l => (l.drop 7).take 4) (enB_byt p)).symm
   have n2 := nb4_be4 (by omega) (by omega) f2
   have hw : deW ((enB p).extract 0 k) = true := by
    unfold deW
    rw [hby 7 (by omega), hby 8 (by omega), hby 9 (by omega), hby 10 (by omega), n2]
    have hne : ((p.bo.size : Int) != ((((enB p).extract 0 k).extract 12 ((enB p).extract 0 k).size).size : Int)) = true := by
     rw [ByteArray.size_extract, hks, bne_iff_ne]
     have := enB_size p
     omega
    rw [hne]
    simp
   rw [if_pos hw]
theorem eq_pk (a b : Int) (s : ByteArray) (W : World) : (Op.eqFields 9999 #[.int .i64 a, .int .i64 b, .string s] #[.int .i64 a, .int .i64 b, .string s] (Tryd.prog.fieldsOf 28).toList).run Tryd.prog W = .ok true W := by
 have p9 : Tryd.prog.plainKey 9 = true := by kernel_rfl
 have p3 : Tryd.prog.plainKey 3 = true := by kernel_rfl
 simp only [Program.fieldsOf, u28, Op.eqFields]
 have q0 : ∀ W, (part 3 #[.int .i64 a, .int .i64 b, .string s] 0).run Tryd.prog W = .ok (.int .i64 a) W := fun W => run_part_plain W p3 rfl
 have q1 : ∀ W, (part 3 #[.int .i64 a, .int .i64 b, .string s] 1).run Tryd.prog W = .ok (.int .i64 b) W := fun W => run_part_plain W p3 rfl
 have q2 : ∀ W, (part 9 #[.int .i64 a, .int .i64 b, .string s] 2).run Tryd.prog W = .ok (.string s) W := fun W => run_part_plain W p9 rfl
 have e9 : ∀ W d, (Op.equalIn (d + 1) 9 (.string s) (.string s)).run Tryd.prog W = .ok true W := fun W d => by rw [run_equalIn_string W d 9 s s u9]; simp
 have e3 : ∀ W d n, (Op.equalIn (d + 1) 3 (.int .i64 n) (.int .i64 n)).run Tryd.prog W = .ok true W := fun W d n => by rw [run_equalIn_int W d 3 .i64 .i64 n n u3]; simp
 simp [Sem.run_bind, q0, q1, q2, e9 _ 9998, e3 _ 9998, Result.andThen_ok]
set_option maxRecDepth 100000 in
theorem c5 (p : Pk) (k : Int) (h0 : 0 ≤ k) (h1 : k < 256) : Pf Tryd.prog 5 [p.d, .int .u8 k] (.d (.bool true)) := by
 have q10 := c10 p
 have q12 := c12 (enB p)
 by_cases hr : p.right = true
 · obtain ⟨g1, g2⟩ := dec_enc hr
   have hsz := enB_size p
   have hw : IntKind.i64.wrap (12 + (p.bo.size : Int)) = 12 + (p.bo.size : Int) := by
    have := right_size hr
    simp [IntKind.wrap, IntKind.signed, IntKind.bits]; omega
   have hkw : IntKind.i64.wrap k = k := by
    simp [IntKind.wrap, IntKind.signed, IntKind.bits]; omega
   have hkk : 0 ≤ k.tmod ((enB p).size : Int) ∧ k.tmod ((enB p).size : Int) < ((enB p).size : Int) := by
    rw [Int.tmod_eq_emod_of_nonneg h0]
    exact ⟨Int.emod_nonneg _ (by omega), Int.emod_lt_of_pos _ (by omega)⟩
   have q12' := c12 ((enB p).extract 0 (k.tmod ((enB p).size : Int)).toNat)
   rw [dec_cut hr _ (by omega)] at q12'
   have hC : enC p = enB p := if_pos hr
   have hE : enE p = 0 := if_pos hr
   rw [hC, hE] at q10
   rw [g1, g2] at q12
   generalize deP ((enB p).extract 0 (k.tmod ((enB p).size : Int)).toNat) = pz at q12'
   unfold Pk.d at q10 q12 q12' ⊢
   refine pfb Tryd.func5 Tryd.ntmps5 Tryd.results5 (fun S0 O0 w0 m0 hm0 => ?_)
   repeat' first | refine st (by exact rfl) ?_ | fail
   refine cd (by exact rfl) (fun hb => ?_) (fun hb => ?_)
   · repeat' first | refine st (by exact rfl) ?_ | refine cl (by exact rfl) c9 ?_ | fail
     exact Y0
   · repeat' first | refine st (by exact rfl) ?_ | refine cl (by exact rfl) q10 ?_ | refine cl (by exact rfl) q12 ?_ | fail
     refine cf (by exact rfl) ?_ rfl
     repeat' first | refine st (by exact rfl) ?_ | refine cl (by exact rfl) q10 ?_ | refine cl (by exact rfl) q12 ?_ | fail
     refine gq (p := .d (.bool (!true))) (by exact rfl) (fun _ _ => by exact Q_structne rfl rfl rfl rfl (by kernel_rfl) (by kernel_rfl) (by kernel_rfl) (eq_pk p.kd p.nu p.bo)) ?_
     repeat' first | refine st (by exact rfl) ?_ | fail
     refine cf (by exact rfl) ?_ (by rw [hw, hsz]; simp)
     repeat' first | refine st (by exact rfl) ?_ | fail
     rw [hkw]
     refine gq (p := .d (.str ((enB p).extract 0 (k.tmod ((enB p).size : Int)).toNat))) (by exact rfl) (fun _ _ => by exact Q_strh rfl rfl u9 hkk.1 (by have := hkk.2; omega) rfl) ?_
     repeat' first | refine st (by exact rfl) ?_ | refine cl (by exact rfl) q12' ?_ | refine clg (by exact rfl) (fun _ => c9) ?_ | fail
     exact Y0
 · have hC : enC p = ByteArray.empty := if_neg hr
   have hE : enE p = 330 := if_neg hr
   rw [hC, hE] at q10
   unfold Pk.d at q10 ⊢
   refine pfb Tryd.func5 Tryd.ntmps5 Tryd.results5 (fun S0 O0 w0 m0 hm0 => ?_)
   repeat' first | refine st (by exact rfl) ?_ | fail
   refine cd (by exact rfl) (fun hb => ?_) (fun hb => ?_)
   · repeat' first | refine st (by exact rfl) ?_ | refine cl (by exact rfl) c9 ?_ | fail
     exact Y0
   · repeat' first | refine st (by exact rfl) ?_ | refine cl (by exact rfl) q10 ?_ | fail
     refine ct (by exact rfl) ?_ rfl
     repeat' first | refine st (by exact rfl) ?_ | refine clg (by exact rfl) (fun _ => c9) ?_ | fail
     exact Y0
end Go.Proofs.YtoonleefemkalaaDoor
