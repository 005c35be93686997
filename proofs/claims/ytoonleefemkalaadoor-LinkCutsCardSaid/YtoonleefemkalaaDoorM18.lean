import Derived.Test.YtoonleefemkalaaDoorM17
import Derived.Shelf.Slices.Cells
import Derived.Lib.OwnBridge
import Derived.Test.YtoonleefemkalaaDoorM15
import Derived.RangeFuncLeaves
/- Contracts of functions. Conditions: none. -/
set_option linter.unusedSimpArgs false
set_option linter.unusedVariables false
set_option maxRecDepth 20000
namespace Go.Proofs.YtoonleefemkalaaDoor
open Go Go.Proofs.YtoonleefemkalaaDoor.E
variable {K : Ctx} {ops : Array Oper} {kl : List (Nat × Nat)} {base pre : List (Nat × PV)} {fs : List (Nat × Nat × PV)} {X S i t : Nat} {m0 m1 m2 : List (List PV)}
theorem tb {p : PV} {ob : List (Bool × Bool)} (hs : pick fs (dsK kl ops i) ++ base = pre) (he : entsOf i fs = [(t, p)]) (hX : Nat.beq i X = false) (hS : Nat.beq i S = false)
 (ha : memN X (depsOf ops i) = true) (hb : memN i (ancs ops 5 [S]) = true) (h0 : ∀ rest, E.step tab ops.toList K.n i ⟨pre ++ rest, m1⟩ = some (ob, ⟨(t, p) :: (pre ++ rest), m1⟩)) (hT : tabB K.P tab = true := by exact tabOk) (ho0 : Obl ob := by exact Obl.nil) : TabOp K ops kl base fs X S m0 m1 m2 i :=
 tB hs he hX hS ha hb (fun rest _ hg => toO (gv hT (h0 rest) (ofO hg) ho0))
theorem tq3 {p : PV} {ob : List (Bool × Bool)} (hs : pick fs (dsK kl ops i) ++ base = pre) (he : entsOf i fs = [(t, p)]) (hX : Nat.beq i X = false) (hS : Nat.beq i S = false)
 (h0 : ∀ rest mm, E.step tab ops.toList K.n i ⟨pre ++ rest, mm⟩ = some (ob, ⟨(t, p) :: (pre ++ rest), mm⟩)) (hT : tabB K.P tab = true := by exact tabOk) (ho0 : Obl ob := by exact Obl.nil) : TabOp K ops kl base fs X S m0 m1 m2 i :=
 tQ hs he hX hS (fun rest _ hg => toO (gv hT (h0 rest _) (ofO hg) ho0)) (fun rest _ hg => toO (gv hT (h0 rest _) (ofO hg) ho0)) (fun rest _ hg => toO (gv hT (h0 rest _) (ofO hg) ho0))
theorem ts {ob : List (Bool × Bool)} (hs : pick fs (dsK kl ops S) ++ base = pre) (he : entsOf S fs = []) (hX : Nat.beq S X = false)
 (ha : memN X (depsOf ops S) = true) (h0 : ∀ rest, E.step tab ops.toList K.n S ⟨pre ++ rest, m1⟩ = some (ob, ⟨pre ++ rest, m2⟩)) (hT : tabB K.P tab = true := by exact tabOk) (ho0 : Obl ob := by exact Obl.nil) : TabOp K ops kl base fs X S m0 m1 m2 S :=
 tS hs he hX ha (fun rest _ hg => toO (gv hT (h0 rest) (ofO hg) ho0))
theorem tal {k : Nat} {xs : List D} (hs : pick fs (dsK kl ops i) ++ base = pre) (he : entsOf i fs = [(t, .osl k xs)]) (hX : Nat.beq i X = false) (hS : Nat.beq i S = false)
 (ha : memN i (ancs ops 7 [X]) = true) (h0 : ∀ rest, bss tab ops.toList K.n i (pre ++ rest) = some (t, k, xs)) (hT : tabB K.P tab = true := by exact tabOk) (hk0 : 0 < k := by decide) (hk : ∀ d ∈ xs, d.cells.length = k := by simp [D.cells]) : TabOp K ops kl base fs X S m0 m1 m2 i :=
 tA hs he hX hS ha (fun rest _ hg => gB hT (h0 rest) hk0 hk hg)
def Pq (k : Nat) (xs : List D) : Type := { q : List D × List D // ∀ x ∈ q.1 ++ xs ++ q.2, x.cells.length = k }
def delC (c : Ch) (q : Pk) : Ch := { c with del := c.del ++ [q.bo], exp := IntKind.i64.wrap (c.exp + 1) }
theorem ChM_refs (c : Ch) (p : Pp) : (ChM c p).all (PV.refsBs 7) = true := by
 rw [show (ChM c p).all (PV.refsBs 7) = (PV.refsBs 7 (ChA c p 1 2 3 4 5 6) && (ChR c p).all (PV.refsBs 7)) from rfl, ChR_refs]; rfl
theorem c64 (c : Ch) (q : Pk) (hc : c.Few) : Mt 64 [.ref 0 0, .d q.d] c (.tup []) (delC c q) := by
 intro p hp
 unfold Pk.d
 refine gjB 1 7 Tryd.func64 Tryd.ntmps64 Tryd.results64 (fun S0 O0 w0 m0 hm0 => ?_)
 refine Z2 ?_;refine Z2 ?_;refine Z2 ?_
 refine fz true (by exact rfl) ?_ (by rw [hm0]; decide) (ChM_refs c p)
 repeat' first | refine st (by exact rfl) ?_ | fail
 refine kp [(0, .ref 0 0), (3, .d (.ptr (.agg [.int .i64 q.kd, .int .i64 q.nu, .str q.bo])))] ⟨rfl, rfl, trivial⟩ ?_
 refine gTab (A := Pq 1 (sD (c.del ++ [q.bo]))) (m1 := fun a => ((ChM c p).set 0 ((ChA c p 1 2 3 4 5 6).set 7 .undef)).set 3 (flat (a.1.1 ++ sD (c.del ++ [q.bo]) ++ a.1.2))) (m2 := fun a => ChM { c with del := c.del ++ [q.bo] } { p with d1 := a.1.1, d2 := a.1.2 })
  8 11 [(4, 8)] (PV.nref 3) [(0, 4, .ref 0 0), (1, 5, .ref 0 0), (2, 6, .ref 0 0), (3, 7, .ref 0 7), (4, 8, .rsl 3 (rlo 1 p.d1 (sD c.del) p.d2) (sD c.del).length 1), (5, 9, .d (.ptr (.str q.bo))), (6, 10, .d (.str q.bo)), (7, 11, .osl 1 [.str q.bo])]
  [(9, 13, .ref 0 0), (10, 14, .ref 0 7)] 12 (fun a => rowV 3 1 a.1.1 (sD (c.del ++ [q.bo])) a.1.2) ⟨([], []), row_k (by simp) (sD_k _) (by simp)⟩ [0, 1, 2, 3, 4, 5, 6, 7, 9, 10, 11]
  (by exact rfl) mixed (by kernel_rfl) rfl (by kernel_rfl) rfl rfl rfl rfl rfl rfl rfl (by exact rfl) (fun rest Q' hQ => ?_) (fun a => ?_) rfl (by kernel_rfl) (fun a h => absurd h (by decide)) (fun a => ?_)
 · refine gCell 0 7 rfl rfl ?_ rfl rfl
   exact gApG (pre := p.d1) (xs := sD c.del) (post := p.d2) (ys := [.str q.bo]) rfl rfl rfl rfl rfl (by rw [hm0]; decide) (by simp only [ChM, ChR, List.set_cons_zero, List.set_cons_succ, nrefM, nrefs_flat, Bool.or_true, Bool.true_and, Bool.and_true] <;> rfl) rfl (by simp) (row_k hp.d1 (sD_k _) hp.d2) (by simp [D.cells]) (by decide) u35 inf9 rfl (by simp [Value.cells, Value.oneCell']) (by rw [sD_len]; have := hc.del; unfold lim; simp; omega) (by rw [sD_len]; have := hc.del; unfold lim; simp; omega) (Nat.le_of_ble_eq_true rfl) (fun a b hab => by rw [sD_snoc] at hab; rw [← List.length_append, sD_snoc]; exact hQ ⟨(a, b), hab⟩)
 · refine ⟨?_, ?_, ?_, ?_, ?_, ?_, ?_, ?_, ?_, ?_, ?_, trivial⟩
   · exact tq3 (by exact rfl) (by exact rfl) rfl rfl (by exact fun _ _ => rfl)
   iterate 6 exact ta (by exact rfl) (by exact rfl) rfl rfl (by kernel_rfl) (by exact fun _ => rfl)
   · exact tal (by exact rfl) (by exact rfl) rfl rfl (by kernel_rfl) (by exact fun _ => rfl)
   iterate 2 exact tb (by exact rfl) (by exact rfl) rfl rfl (by kernel_rfl) (by kernel_rfl) (by exact fun _ => rfl)
   · exact ts (by exact rfl) (by exact rfl) rfl (by kernel_rfl) (by exact fun _ => rfl)
 · refine st (by exact rfl) ?_
   refine kp [(0, .ref 0 0)] ⟨rfl, trivial⟩ ?_
   repeat' first | refine st (by exact rfl) ?_ | fail
   exact enj (mem' := ChM (delC c q) { p with d1 := a.1.1, d2 := a.1.2 }) (by exact rfl) ⟨rfl, { p with d1 := a.1.1, d2 := a.1.2 }, { hp with d1 := fun x hx => a.2 x (List.mem_append_left _ (List.mem_append_left _ hx)), d2 := fun x hx => a.2 x (List.mem_append_right _ hx) }, rfl⟩ (ChM_sub (delC c q) { p with d1 := a.1.1, d2 := a.1.2 } [])
end Go.Proofs.YtoonleefemkalaaDoor
namespace Go.Proofs.YtoonleefemkalaaDoor
open Go Go.Proofs.YtoonleefemkalaaDoor.E
def rhoD : Shelf.Ren := ⟨fun _ => 61, fun t => if t = 24 then 35 else t, fun x => x⟩
theorem laysD : Lays2.n24 Tryd.prog rhoD where
 mixed := by kernel_rfl
 f24 := by kernel_rfl
 t0 := by kernel_rfl
 a0 := fun _ => by kernel_rfl
 z0 := fun _ => by kernel_rfl
 v0 := fun _ => by kernel_rfl
 t3 := by kernel_rfl
 a3 := fun _ => by kernel_rfl
 z3 := fun _ => by kernel_rfl
 v3 := fun _ => by kernel_rfl
 t4 := by kernel_rfl
 a4 := fun _ => by kernel_rfl
 z4 := fun _ => by kernel_rfl
 v4 := fun _ => by kernel_rfl
 t9 := by kernel_rfl
 a9 := fun _ => by kernel_rfl
 z9 := fun _ => by kernel_rfl
 v9 := fun _ => by kernel_rfl
 t24 := by kernel_rfl
 a24 := fun _ => by kernel_rfl
 z24 := fun _ => by kernel_rfl
 v24 := fun _ => by kernel_rfl
 i9 := by kernel_rfl
theorem Env.drewN {S0 : Reg} {O0 : Owns} {w0 : World} {S : Reg} {O : Owns} {m : List Nat} {mem : List (List PV)} {w : World} (h : Env S0 O0 w0 S O m mem w) : ∀ n, Env S0 O0 w0 S O m mem (w.drewN n)
 | 0 => h
 | n + 1 => by
  have h1 := Env.drewN h n
  have h2 : Rep ⟨Tryd.prog, 0, S0, O0, w0, m, [], []⟩ S O m ⟨[], mem⟩ { tmps := #[], defers := [] } (w.drewN n) := ⟨h1, rfl, rfl, List.prefix_refl _, fun i p hp => by cases hp⟩
  exact h2.drew.env
theorem flat_ap (a b : List D) : flat (a ++ b) = flat a ++ flat b := by simp [flat]
theorem flat_sD (l : List ByteArray) : flat (sD l) = l.map fun s => .d (.str s) := by
 induction l with
 | nil => rfl
 | cons x l ih => show flat (D.str x :: sD l) = _; rw [flat_cons, ih]; rfl
theorem strs_del (xs : List ByteArray) (i : Nat) (hi : i < xs.length) (Sx : Nat → ByteArray) (hS : ∀ j (h : j < xs.length), Sx j = xs[j]) : ((Lib.strsOf Sx xs.length).take i ++ (Lib.strsOf Sx xs.length).drop (i + 1) ++ List.replicate (i + 1 - i) []).map encStr = (xs.eraseIdx i ++ [ByteArray.empty]).map Value.string := by
 have h1 : Lib.strsOf Sx xs.length = xs.map (·.data.toList) := by
  unfold Lib.strsOf
  refine List.ext_getElem (by simp) fun j h1 h2 => ?_
  simp only [List.getElem_map, List.getElem_range]
  rw [hS j (by simpa using h1)]
 rw [h1, ← List.map_take, ← List.map_drop, ← List.map_append]
 rw [show i + 1 - i = 1 by omega]
 rw [List.map_append, Lib.map_encStr, List.map_append, List.eraseIdx_eq_take_drop_succ, List.map_append, List.map_append]
 rfl
theorem c61 (xs : List ByteArray) (pre post : List D) (i : Nat) (hpre : ∀ x ∈ pre, x.cells.length = 1) (hpost : ∀ x ∈ post, x.cells.length = 1) (hi : i < xs.length) :
 Gm Tryd.prog 61 [rowV 0 1 pre (sD xs) post, .d (.int .i64 (i : Int)), .d (.int .i64 ((i + 1 : Nat) : Int))] [flat (pre ++ sD xs ++ post)] (rowV 0 1 pre (sD (xs.eraseIdx i)) (.str ByteArray.empty :: post)) [flat (pre ++ sD (xs.eraseIdx i) ++ (.str ByteArray.empty :: post))] := by
 refine ⟨⟨_, Tryd.func61, rfl, rfl⟩, fun w S O m vals henv hvs hargs => ?_⟩
 have hrep : Rep ⟨Tryd.prog, 0, S, O, w, m, [], []⟩ S O m ⟨[], [flat (pre ++ sD xs ++ post)]⟩ { tmps := #[], defers := [] } w := ⟨henv, rfl, rfl, List.prefix_refl _, fun i p hp => by cases hp⟩
 obtain ⟨v0, v1, v2, rfl⟩ : ∃ v0 v1 v2, vals = #[v0, v1, v2] := by
  match vals, hvs with
  | ⟨[a, b, c]⟩, _ => exact ⟨a, b, c, rfl⟩
 have h0 := hargs 0 _ v0 rfl rfl
 have h1 := hargs 1 _ v1 rfl rfl
 have h2 := hargs 2 _ v2 rfl rfl
 have hv1 : v1 = .int .i64 (i : Int) := by cases h1 with | d _ _ _ h => cases h; rfl
 have hv2 : v2 = .int .i64 ((i + 1 : Nat) : Int) := by cases h2 with | d _ _ _ h => cases h; rfl
 subst hv1; subst hv2
 have hkall := row_k hpre (sD_k xs) hpost
 obtain ⟨ab, cap, hv, hcap, ⟨hlim, hcapx⟩, hrow⟩ := row_val h0 rfl rfl
 subst hv
 have hxne : sD xs ≠ [] := by
  intro h
  have h3 : (sD xs).length = 0 := by rw [h]; rfl
  rw [sD_len] at h3; omega
 rcases hrow with ⟨h, _⟩ | ⟨hcz, hne, r, hr, rfl, hroom⟩
 · exact absurd h hxne
 have hmemr : m[0]? = some r := hr
 rw [Nat.mul_one] at hroom ⊢
 obtain ⟨vs0, el, hheap, hsz⟩ := hroom
 obtain ⟨hown, hsz2, hone, hcells⟩ := row_cells (zs := pre ++ sD xs ++ post) (b := 0) (k := 1) hrep rfl hmemr hkall (by decide) hne hheap
 have hcell : ∀ j (h : j < xs.length), w.cell? ⟨r, pre.length + j, none⟩ = some (.string xs[j]) := fun j h => by
  have hx : (sD xs)[j]? = some (.str xs[j]) := by unfold sD; rw [List.getElem?_map, List.getElem?_eq_getElem h]; rfl
  obtain ⟨v, g1, g2⟩ := hcells (pre.length + j) _ 0 (.str xs[j]) (row_at hx) rfl
  rw [Nat.mul_one, Nat.add_zero] at g1
  cases g2
  rw [cell_of_row w r _ vs0 el _ hheap]
  exact g1
 let Sx : Nat → ByteArray := fun j => xs.getD j ByteArray.empty
 have hSx : ∀ j (h : j < xs.length), Sx j = xs[j] := fun j h => by
  show xs.getD j ByteArray.empty = _
  rw [List.getD_eq_getElem?_getD, List.getElem?_eq_getElem h]; rfl
 have hcap' : xs.length ≤ cap := by rw [← sD_len]; exact hcap
 have hvs := Any.slices_Delete_string_cells laysD r pre.length xs.length cap i (i + 1) Sx w hcap' hcapx (Nat.le_succ i) hi (fun j hj => by rw [hSx j hj]; exact hcell j hj) (fun j _ => by simp [World.frozen?, hheap])
 rw [sD_len]
 refine Calls.mono hvs ?_
 rintro e w' ⟨rfl, q, rfl⟩
 rw [strs_del xs i hi Sx hSx]
 have henv2 := Env.drewN henv q
 have hrep2 : Rep ⟨Tryd.prog, 0, S, O, w, m, [], []⟩ S O m ⟨[], [flat (pre ++ sD xs ++ post)]⟩ { tmps := #[], defers := [] } (w.drewN q) := ⟨henv2, rfl, rfl, List.prefix_refl _, fun i p hp => by cases hp⟩
 have hmem2 : (GS.mk [] [flat (pre ++ sD xs ++ post)]).mem[0]? = some (flat (pre ++ sD xs ++ post)) := rfl
 have hfl := flat_length _ hkall
 have hlen : (pre ++ sD xs ++ post).length = pre.length + xs.length + post.length := by simp [sD_len]; omega
 have hlp : (flat pre).length = pre.length := by rw [flat_length pre hpre, Nat.mul_one]
 have hpl : plainB (flat (pre ++ sD xs ++ post)) = true := flat_plain (by intro hc; have := congrArg List.length hc; rw [hfl, hlen, Nat.mul_one] at this; simp only [List.length_nil] at this; omega)
 have hdl : (xs.eraseIdx i).length = xs.length - 1 := by rw [List.length_eraseIdx, if_pos hi]
 have hsl : ((xs.eraseIdx i ++ [ByteArray.empty]).map Value.string).length = xs.length := by rw [List.length_map, List.length_append, hdl]; simp; omega
 let ps : List PV := (xs.eraseIdx i ++ [ByteArray.empty]).map fun s => .d (.str s)
 have hpsl : ps.length = xs.length := by show (List.map _ _).length = _; rw [List.length_map] at hsl ⊢; exact hsl
 obtain ⟨w', hst, hrep3⟩ := hrep2.store (f := id) hmem2 hpl ps ((xs.eraseIdx i ++ [ByteArray.empty]).map Value.string) (by rw [hsl, hpsl]) (off := pre.length) (by rw [hfl, hlen, hpsl, Nat.mul_one]; omega) (fun j v hj => by
  rw [List.getElem?_map] at hj
  cases hx : (xs.eraseIdx i ++ [ByteArray.empty])[j]? with
  | none => rw [hx] at hj; cases hj
  | some s => rw [hx] at hj; injection hj with hj; subst hj; rfl) (fun _ => rfl) (fun _ _ _ => rfl) [] (fun i p hp => by cases hp) (fun j p v hp hv => by
  rw [List.getElem?_map] at hp hv
  cases hx : (xs.eraseIdx i ++ [ByteArray.empty])[j]? with
  | none => rw [hx] at hv; cases hv
  | some s =>
   rw [hx] at hp hv
   injection hp with hp; injection hv with hv
   subst hp; subst hv
   exact .d _ _ _ (.str s)) r hmemr
 have hheap2 : (w.drewN q).heap[r]? = some (.cells vs0 el (0, 0)) := hheap
 have hst2 := run_storeCells_cells (P := Tryd.prog) r pre.length ((xs.eraseIdx i ++ [ByteArray.empty]).map Value.string) 0 (w.drewN q) (fun j hj => by
  rw [hsl] at hj
  rw [cell_of_row (w.drewN q) r _ vs0 el _ hheap2, Nat.add_zero]
  have : pre.length + j < vs0.size := by omega
  rw [Array.getElem?_eq_getElem this]; rfl) (fun j _ => by simp [World.frozen?, World.drewN, hheap]) (fun v hv => by
  obtain ⟨s, _, rfl⟩ := List.mem_map.1 hv; rfl)
 rw [Nat.add_zero] at hst2
 have hww : w' = (w.drewN q).setCells r pre.length ((xs.eraseIdx i ++ [ByteArray.empty]).map Value.string) := by
  have h5 := hst.symm.trans hst2
  injection h5
 subst hww
 have hmemo : [flat (pre ++ sD xs ++ post)].set 0 (splice (flat (pre ++ sD xs ++ post)) pre.length ps) = [flat (pre ++ sD (xs.eraseIdx i) ++ (.str ByteArray.empty :: post))] := by
  show [splice (flat (pre ++ sD xs ++ post)) pre.length ps] = _
  congr 1
  unfold splice
  rw [flat_ap, flat_ap, flat_ap, flat_ap, flat_cons, hpsl]
  have e1 : ((flat pre ++ flat (sD xs)) ++ flat post).take pre.length = flat pre := by
   rw [List.append_assoc, ← hlp, List.take_left]
  have e2 : ((flat pre ++ flat (sD xs)) ++ flat post).drop (pre.length + xs.length) = flat post := by
   have : (flat pre ++ flat (sD xs)).length = pre.length + xs.length := by rw [List.length_append, hlp, flat_length _ (sD_k xs), sD_len, Nat.mul_one]
   rw [← this, List.drop_left]
  rw [e1, e2]
  have e3 : ps = flat (sD (xs.eraseIdx i)) ++ [.d (.str ByteArray.empty)] := by
   show List.map _ _ = _
   rw [List.map_append, flat_sD]; rfl
  rw [e3]
  simp [D.cells]
 have henv3 := hrep3.env
 dsimp only at henv3
 rw [hmemo] at henv3
 refine ⟨_, _, _, S, reo O id, m, rfl, ⟨rfl, rfl⟩, ?_, List.prefix_refl _, ?_⟩
 · exact henv3
 · have hd2 : (sD (xs.eraseIdx i)).length = xs.length - (i + 1 - i) := by rw [sD_len, hdl]; omega
   have hr2 := row_mk (w := (w.drewN q).setCells r pre.length ((xs.eraseIdx i ++ [ByteArray.empty]).map Value.string)) (S := S) (O := reo O id) (m := m) [2] (b := 0) (k := 1) (r := r) (cap := cap) (pre := pre) (xs := sD (xs.eraseIdx i)) (post := .str ByteArray.empty :: post) (by rw [sD_len, hdl]; omega) (by rw [sD_len, hdl]; rw [sD_len] at hlim; omega) hmemr (by simp) ?_ hcapx
   · rw [hd2, Nat.mul_one] at hr2
     unfold rowV
     rw [hd2]
     exact hr2
   · rw [Nat.mul_one, Nat.mul_one]
     have hE := henv3.ext
     obtain ⟨vs', g1, g2⟩ := hE.shape r vs0 el (0, 0) hheap
     exact ⟨vs', el, g1, by rw [g2]; omega⟩
end Go.Proofs.YtoonleefemkalaaDoor
namespace Go.Proofs.YtoonleefemkalaaDoor
open Go Go.Proofs.YtoonleefemkalaaDoor.E
def acD (k : Int) (b : Bool) (ix at_ : Int) : D := .agg [.int .i64 k, .bool b, .int .i64 ix, .int .i64 at_]
theorem c44t (c : Ch) (k ix at_ : Int) : Mt 44 [.ref 0 0, .d (acD k false ix at_)] c (.ref 0 8) c := by
 intro p hp
 unfold acD
 refine gjB 1 7 Tryd.func44 Tryd.ntmps44 Tryd.results44 (fun S0 O0 w0 m0 hm0 => ?_)
 iterate 3 refine st (by exact rfl) ?_
 refine fz true (by exact rfl) ?_ (by rw [hm0]; decide) (ChM_refs c p)
 repeat' first | refine st (by exact rfl) ?_ | fail
 refine cf (by exact rfl) ?_ rfl
 repeat' first | refine st (by exact rfl) ?_ | fail
 exact enj (mem' := ChM c p) (by exact rfl) ⟨rfl, p, hp, rfl⟩ (ChM_sub c p [])
theorem k1_cons {l : List D} {s : ByteArray} (h : ∀ x ∈ l, x.cells.length = 1) : ∀ x ∈ D.str s :: l, x.cells.length = 1 := fun x hx => by
 rcases List.mem_cons.1 hx with rfl | hx
 · rfl
 · exact h x hx
theorem keepG_true : ∀ l : List (Nat × PV), keepG (fun _ => true) l = l
 | [] => rfl
 | x :: l => by show (x.1, _) :: keepG (fun _ => true) l = _; rw [keepG_true l]; rfl
theorem c46t (c : Ch) (k at_ : Int) (i : Nat) (hi : i < c.tos.length) (hc : c.tos.length ≤ 1000000) : Mt 46 [.ref 0 0, .d (acD k false (i : Int) at_)] c (.d (.int .i64 0)) { c with tos := c.tos.eraseIdx i } := by
 intro p hp
 have q44 := c44t c k (i : Int) at_
 have hw : IntKind.i64.wrap ((i : Int) + 1) = ((i + 1 : Nat) : Int) := by rw [wrap_i64 (by omega) (by omega)]; rfl
 unfold acD at q44 ⊢
 refine gjB 1 7 Tryd.func46 Tryd.ntmps46 Tryd.results46 (fun S0 O0 w0 m0 hm0 => ?_)
 iterate 4 refine st (by exact rfl) ?_
 refine fz true (by exact rfl) ?_ (by rw [hm0]; decide) (ChM_refs c p)
 repeat' first | refine st (by exact rfl) ?_ | fail
 refine (show GF _ _ _ _ ⟨_, ChM c p ++ []⟩ from ?_)
 refine cj (by exact rfl) q44 hp (fun p' hp' => ?_)
 have q61 := c61 c.tos p'.t1 p'.t2 i hp'.t1 hp'.t2 hi
 rw [← hw] at q61
 repeat' first | refine st (by exact rfl) ?_ | fail
 rw [List.append_nil]
 refine kp [(0, .ref 0 0), (5, .ref 0 8), (3, .d (.ptr (.agg [.int .i64 k, .bool false, .int .i64 (i : Int), .int .i64 at_]))), (4, .d (.int .i64 0))] ⟨rfl, rfl, rfl, rfl, trivial⟩ ?_
 refine gTab (A := Unit) (m1 := fun _ => (ChM c p').set 4 (flat (p'.t1 ++ sD (c.tos.eraseIdx i) ++ (.str ByteArray.empty :: p'.t2)))) (m2 := fun _ => ChM { c with tos := c.tos.eraseIdx i } { p' with t2 := .str ByteArray.empty :: p'.t2 })
  9 11 [] (fun _ => true) [(0, 9, .ref 0 8), (1, 10, .ref 0 8), (2, 11, .ref 0 8), (3, 12, rowV 4 1 p'.t1 (sD c.tos) p'.t2), (4, 13, .d (.ptr (.int .i64 (i : Int)))), (5, 14, .d (.int .i64 (i : Int))), (6, 15, .d (.ptr (.int .i64 (i : Int)))), (7, 16, .d (.int .i64 (i : Int))), (8, 17, .d (.int .i64 (IntKind.i64.wrap ((i : Int) + 1))))]
  [(10, 19, .ref 0 8)] 18 (fun _ => rowV 4 1 p'.t1 (sD (c.tos.eraseIdx i)) (.str ByteArray.empty :: p'.t2)) () [0, 1, 2, 3, 4, 5, 6, 7, 8, 10, 11]
  (by exact rfl) mixed (by kernel_rfl) rfl (by kernel_rfl) rfl rfl rfl rfl rfl rfl rfl (by exact rfl) (fun rest Q' hQ => ?_) (fun a => ?_) rfl (by kernel_rfl) (fun a h => absurd h (by decide)) (fun a => ?_)
 · have hQ1 := hQ ()
   rw [keepG_true] at hQ1
   exact E.gMs [4] (by exact rfl) q61 (by exact rfl) (by decide) (by simp [ChM, ChR]) (by simp only [List.map_cons, List.map_nil, rens_flat]; rfl) rfl (by simp only [List.all_cons, List.all_nil, refs_flat, Bool.and_self]) rfl (by exact rfl) (by simp only [List.map_cons, List.map_nil, rens_flat]; rfl) hQ1
 · refine ⟨?_, ?_, ?_, ?_, ?_, ?_, ?_, ?_, ?_, ?_, ?_, trivial⟩
   · exact tq3 (by exact rfl) (by exact rfl) rfl rfl (by exact fun _ _ => rfl)
   iterate 8 exact ta (by exact rfl) (by exact rfl) rfl rfl (by kernel_rfl) (by exact fun _ => rfl)
   · exact tb (by exact rfl) (by exact rfl) rfl rfl (by kernel_rfl) (by kernel_rfl) (by exact fun _ => rfl)
   · exact ts (by exact rfl) (by exact rfl) rfl (by kernel_rfl) (by exact fun _ => rfl)
 · refine st (by exact rfl) ?_
   refine kp [(4, .d (.int .i64 0))] ⟨rfl, trivial⟩ ?_
   repeat' first | refine st (by exact rfl) ?_ | fail
   exact enj (mem' := ChM { c with tos := c.tos.eraseIdx i } { p' with t2 := .str ByteArray.empty :: p'.t2 }) (by exact rfl) ⟨rfl, { p' with t2 := .str ByteArray.empty :: p'.t2 }, { hp' with t2 := k1_cons hp'.t2 }, rfl⟩ (ChM_sub { c with tos := c.tos.eraseIdx i } { p' with t2 := .str ByteArray.empty :: p'.t2 } [])
variable {ops : Array Oper} {i t : Nat}
theorem tav {K : Ctx} {kl : List (Nat × Nat)} {base pre : List (Nat × PV)} {fs : List (Nat × Nat × PV)} {X S : Nat} {m0 m1 m2 : List (List PV)} {p : PV} {ob : List (Bool × Bool)} {o : Oper} {slx : List (Nat × PV) → List (Nat × PV)} (hs : pick fs (dsK kl ops i) ++ base = pre) (he : entsOf i fs = [(t, p)]) (hX : Nat.beq i X = false) (hS : Nat.beq i S = false)
 (ha : memN i (ancs ops 7 [X]) = true) (h0 : ∀ rest, gview ops.toList K.n i (pre ++ rest) = some (t, none, ob, o, slx rest)) (hq : ∀ rest, t < K.n → Qy K o ⟨slx rest, m0⟩ t p) (ho0 : Obl ob := by exact Obl.nil) : TabOp K ops kl base fs X S m0 m1 m2 i :=
 tA hs he hX hS ha (fun rest _ hg => gqy (h0 rest) (fun _ ht => hq rest ht) hg ho0)
theorem sD_get {l : List ByteArray} {x : ByteArray} (h : l[i]? = some x) : (sD l)[i]? = some (.str x) := by unfold sD; rw [List.getElem?_map, h]; rfl
theorem sD_ne {l : List ByteArray} (h : i < l.length) : sD l ≠ [] := fun e => by
 have h3 : (sD l).length = 0 := by rw [e]; rfl
 rw [sD_len] at h3; omega
def Mf (f : FuncId) (args : List PV) (c : Ch) (r : PV) : Prop := ∀ p : Pp, p.Ok → Gm Tryd.prog f args (ChM c p) r (ChM c p)
theorem cjf {n : Nat} {S0 : Reg} {O0 : Owns} {w0 : World} {m0 Bs : List Nat} {ds : List Deferred} {fr : List Fr} {Q : Exit → GS → Prop} {l : List Nat} {sl : List (Nat × PV)} {extra : List (List PV)} {f : FuncId} {args : List PV} {c : Ch} {p : Pp} {r : PV} (h : cms ops.toList n i sl = some (t, f, args)) (hc : Mf f args c r) (hp : p.Ok)
 (hg : GF ⟨Tryd.prog, n, S0, O0, w0, m0, Bs, ds⟩ fr (.ops ops l) Q ⟨(t, r) :: sl, ChM c p ++ extra⟩) (hargs : args = PV.rens (fun b => [0, 1, 2, 3, 4, 5, 6].getD b 0) args := by rfl) (hra : PV.refsBs 7 args = true := by rfl) (hr : r.ren (fun b => [0, 1, 2, 3, 4, 5, 6].getD b 0) = r := by rfl) : GF ⟨Tryd.prog, n, S0, O0, w0, m0, Bs, ds⟩ fr (.ops ops (i :: l)) Q ⟨sl, ChM c p ++ extra⟩ := by
 refine E.gMs [0, 1, 2, 3, 4, 5, 6] h (hc p hp) hargs (by decide) (fun b hb => ?_) ?_ hra (ChM_refs c p) rfl hr ?_ hg
 · have : b < 7 := by
    have h : ∀ b ∈ [0, 1, 2, 3, 4, 5, 6], b < 7 := by decide
    exact h b hb
   rw [List.length_append]
   have h7 : (ChM c p).length = 7 := rfl
   omega
 · rw [ChM_rens]; rfl
 · rw [ChM_rens]; rfl
theorem ocf {n : Nat} {S0 : Reg} {O0 : Owns} {w0 : World} {m0 Bs : List Nat} {ds : List Deferred} {fr : List Fr} {Q : Exit → GS → Prop} {base pre : List (Nat × PV)} {extra : List (List PV)} {j : Nat} {es es' : List (Nat × Nat × PV)} {f : FuncId} {args : List PV} {c : Ch} {p : Pp} {r : PV} (hs : see ops.toList i es base = some pre := by exact rfl) (hj : nth nums (i + 1) = some j := by exact rfl) (h : ∀ rest, cms ops.toList n i (pre ++ rest) = some (t, f, args) := by exact fun _ => rfl) (hcf : Mf f args c r) (hp : p.Ok)
 (hes : snocK es (i, t, r) some = some es' := by exact rfl) (hc : CO ⟨Tryd.prog, n, S0, O0, w0, m0, Bs, ds⟩ fr ops base (ChM c p ++ extra) j es' Q) (hargs : args = PV.rens (fun b => [0, 1, 2, 3, 4, 5, 6].getD b 0) args := by rfl) (hra : PV.refsBs 7 args = true := by rfl) (hr : r.ren (fun b => [0, 1, 2, 3, 4, 5, 6].getD b 0) = r := by rfl) : CO ⟨Tryd.prog, n, S0, O0, w0, m0, Bs, ds⟩ fr ops base (ChM c p ++ extra) i es Q :=
 oStep hs hj hes hc fun rest _ hg => cjf (h rest) hcf hp hg hargs hra hr
theorem c44tf (c : Ch) (k ix at_ : Int) : Mf 44 [.ref 0 0, .d (acD k false ix at_)] c (.ref 0 8) := by
 intro p hp
 unfold acD
 refine gmB 7 Tryd.func44 Tryd.ntmps44 Tryd.results44 (fun S0 O0 w0 m0 hm0 => ?_)
 iterate 3 refine st (by exact rfl) ?_
 refine fz true (by exact rfl) ?_ (by rw [hm0]; decide) (ChM_refs c p)
 repeat' first | refine st (by exact rfl) ?_ | fail
 refine cf (by exact rfl) ?_ rfl
 repeat' first | refine st (by exact rfl) ?_ | fail
 exact enm (mem' := ChM c p) (by exact rfl) rfl (ChM_sub c p [])
end Go.Proofs.YtoonleefemkalaaDoor
namespace Go.Proofs.YtoonleefemkalaaDoor
open Go Go.Proofs.YtoonleefemkalaaDoor.E
variable {K : Ctx} {s : GS} {t : Nat} {x : Operand} {ty rt : TypeId} {pos : String} {af : Array Edge}
theorem Q_mkAny {e : TypeId} {g : Option (Nat × Bool)} (hu : K.P.underlying ty = some (.pointer e)) : Qy K ⟨some t, .makeInterface ty x, rt, pos, af, g⟩ s t .undef :=
 fun S O m a w h => ⟨.iface ty (a.eval x), fun w' _ => by simp [execOp, Instr.makeInterface, run_underlying hu], .undef _ _⟩
theorem Q_mkInt {g : Option (Nat × Bool)} {k : IntKind} {n : Int} (hu : K.P.underlying ty = some (.int k)) (hx : s.ev x = .d (.int k n)) : Qy K ⟨some t, .makeInterface ty x, rt, pos, af, g⟩ s t (.d (.iface ty (.int k n))) := by
 refine fun S O m a w h => ?_
 obtain ⟨l, hr⟩ := h.ev x
 exact ⟨.iface ty (a.eval x), fun w' _ => by simp [execOp, Instr.makeInterface, run_underlying hu], .d _ _ _ (.iface _ _ _ ((by rw [hx] at hr; exact hr : RP w S O m l (.d (.int k n)) (a.eval x)).toD _ rfl))⟩
theorem Q_eqlNil {xt : TypeId} {g : Option (Nat × Bool)} (hl : ∀ (w : World), (binOp .eql ty .nilIface .nilIface).run K.P w = .ok (.bool true) w) (hp : s.ev x = .d .nilI) : Qy K ⟨some t, .binOp .eql ty x (.const .nilIface) xt, rt, pos, af, g⟩ s t (.d (.bool true)) := by
 refine fun S O m a w h => ?_
 obtain ⟨l, hr⟩ := h.ev x
 rw [hp] at hr
 generalize hav : a.eval x = v at hr
 cases hr with | d _ _ _ h1 =>
 cases h1
 refine ⟨.bool true, fun w' _ => ?_, .d _ _ _ (.bool _)⟩
 simp only [execOp, hav]
 simp [go_sem, Act.eval, hl]
theorem qaw {n : Nat} {S0 : Reg} {O0 : Owns} {w0 : World} {m0 Bs : List Nat} {ds : List Deferred} {fr : List Fr} {Q : Exit → GS → Prop} {ops : Array Oper} {base pre : List (Nat × PV)} {ws : List Nat} {ms : List (List (List PV))} {i j : Nat} {es es' : List (Nat × Nat × PV)} {g : Option Bool} {ob : List (Bool × Bool)} {o : Oper} {p : PV} {slx : List (Nat × PV) → List (Nat × PV)} (hs : see ops.toList i es base = some pre := by exact rfl) (hj : nth nums (i + 1) = some j := by exact rfl) (h : ∀ rest, gview ops.toList n i (pre ++ rest) = some (t, g, ob, o, slx rest) := by exact fun _ => rfl) (hq : ∀ rest X, isT g → t < n → Qy ⟨Tryd.prog, n, S0, O0, w0, m0, Bs, ds⟩ o ⟨slx rest, X⟩ t p) (hes : snocK es (i, t, whn g p) some = some es' := by exact rfl) (hc : COw ⟨Tryd.prog, n, S0, O0, w0, m0, Bs, ds⟩ fr ops base ws ms j es' Q) (hi : memN i ws = false := by rfl) (ho : Obl ob := by exact Obl.nil) : COw ⟨Tryd.prog, n, S0, O0, w0, m0, Bs, ds⟩ fr ops base ws ms i es Q := oAnyW hs hj hes hi hc fun rest X _ hg => gqy (h rest) (hq rest X) hg ho
theorem caw {n : Nat} {S0 : Reg} {O0 : Owns} {w0 : World} {m0 Bs : List Nat} {ds : List Deferred} {fr : List Fr} {Q : Exit → GS → Prop} {ops : Array Oper} {base pre : List (Nat × PV)} {ws : List Nat} {ms : List (List (List PV))} {i j : Nat} {es es' : List (Nat × Nat × PV)} {f : FuncId} {args : List PV} {r : PV} (hs : see ops.toList i es base = some pre := by exact rfl) (hj : nth nums (i + 1) = some j := by exact rfl) (h : ∀ rest, cms ops.toList n i (pre ++ rest) = some (t, f, args) := by exact fun _ => rfl) (hcl : Gm Tryd.prog f args [] r []) (hes : snocK es (i, t, r) some = some es' := by exact rfl) (hc : COw ⟨Tryd.prog, n, S0, O0, w0, m0, Bs, ds⟩ fr ops base ws ms j es' Q) (hargs : args = PV.rens (fun b => ([] : List Nat).getD b 0) args := by rfl) (hra : PV.refsBs 0 args = true := by rfl) (hr : r.ren (fun b => ([] : List Nat).getD b 0) = r := by rfl) (hi : memN i ws = false := by rfl) : COw ⟨Tryd.prog, n, S0, O0, w0, m0, Bs, ds⟩ fr ops base ws ms i es Q := oAnyW hs hj hes hi hc fun rest X _ hg => E.gMs [] (h rest) hcl hargs .nil (fun b hb => by cases hb) rfl hra rfl rfl hr rfl hg
def errD (n : Int) : D := if n = 0 then .nilI else .iface 25 (.int .i64 n)
theorem c69 (s : ByteArray) : Pf Tryd.prog 69 [.str s] (.tup [.d (deP s).d, .d (errD (deE s))]) := by
 have q12 := c12 s
 unfold Pk.d at q12 ⊢
 refine pfb Tryd.func69 Tryd.ntmps69 Tryd.results69 (fun S0 O0 w0 m0 hm0 => ?_)
 repeat' first | refine st (by exact rfl) ?_ | refine cl (by exact rfl) q12 ?_ | fail
 refine cd (by exact rfl) (fun hb => ?_) (fun hb => ?_)
 · have h : ¬ deE s = 0 := by simpa using hb
   repeat' first | refine st (by exact rfl) ?_ | fail
   refine gq (by exact rfl) (fun _ ht => Q_mkInt u25 rfl) ?_
   repeat' first | refine st (by exact rfl) ?_ | fail
   exact en (by exact rfl) (by unfold errD; rw [if_neg h])
 · have h : deE s = 0 := by simpa using hb
   repeat' first | refine st (by exact rfl) ?_ | fail
   exact en (by exact rfl) (by unfold errD; rw [if_pos h])
theorem c70n : Gm Tryd.prog 70 [.d .nilI, .undef] [] (.d (.bool false)) [] := by
 refine gmB 0 Tryd.func70 Tryd.ntmps70 Tryd.results70 (fun S0 O0 w0 m0 hm0 => ?_)
 repeat' first | refine st (by exact rfl) ?_ | fail
 refine gq (by exact rfl) (fun _ ht => Q_eqlNil (fun w => by kernel_rfl) rfl) ?_
 repeat' first | refine st (by exact rfl) ?_ | fail
 refine ct (by exact rfl) ?_ rfl
 repeat' first | refine st (by exact rfl) ?_ | fail
 exact enm (mem' := []) (by exact rfl) rfl .nil
theorem c63 (s : ByteArray) (k : Int) (h : deE s = 0) : Pf Tryd.prog 63 [.str s, .int .i64 k] (.tup [.d (deP s).d, .d (.bool ((deP s).kd == k))]) := by
 have q69 := c69 s
 unfold errD at q69
 rw [if_pos h] at q69
 unfold Pk.d at q69 ⊢
 refine pfb Tryd.func63 Tryd.ntmps63 Tryd.results63 (fun S0 O0 w0 m0 hm0 => ?_)
 repeat' (fail_if_success with_reducible refine ar 2 ?_); first | refine st (by exact rfl) ?_ | refine cl (by exact rfl) q69 ?_ | fail
 refine fz true (by exact rfl) ?_
 repeat' first | refine st (by exact rfl) ?_ | fail
 refine ow [11] [[[.d (.int .i64 0), .d (.int .i64 0), .d (.str { data := #[] })], [.d (.int .i64 0)]], [[.d (.int .i64 (deP s).kd), .d (.int .i64 (deP s).nu), .d (.str (deP s).bo)], [.d (.int .i64 0)]]] (hc := ?_)
 refine Z3 ?_;refine Z3 ?_
 refine qaw (hs := rfl) (hj := rfl) (h := fun _ => rfl) (hq := fun rest X _ _ => Q_mkAny u121) (hc := ?_)
 refine caw (hcl := c70n) (hc := ?_)
 iterate 7 refine aw (hc := ?_)
 refine sw 0 (hc := ?_)
 refine Z3 ?_
 refine ew (hc := ?_)
 repeat' first | refine st (by exact rfl) ?_ | fail
 exact en (by exact rfl) (by simp)
end Go.Proofs.YtoonleefemkalaaDoor
namespace Go.Proofs.YtoonleefemkalaaDoor
open Go Go.Proofs.YtoonleefemkalaaDoor.E
theorem ChM_sub8 (c : Ch) (p : Pp) (ms : List (List PV)) : MSub 8 ((ChM c p ++ [[.ref 0 0]]) ++ ms) (ChM c p ++ [[.ref 0 0]]) := by
 have h : CSub 8 (ChA c p 1 2 3 4 5 6) (ChA c p 1 2 3 4 5 6) := by
  unfold ChA
  repeat' first | exact .nil | refine .cons (.inl rfl) rfl ?_
 exact .cons h (.cons (CSub_flat _ _) (.cons (CSub_flat _ _) (.cons (CSub_flat _ _) (.cons (CSub_flat _ _) (.cons (CSub_flat _ _) (.cons (CSub_flat _ _) (.cons (.cons (.inl rfl) rfl .nil) .nil)))))))
theorem ChM_self8 (c : Ch) (p : Pp) : MSub 8 (ChM c p ++ [[.ref 0 0]]) (ChM c p ++ [[.ref 0 0]]) := by
 have h := ChM_sub8 c p []
 rwa [List.append_nil] at h
theorem c65 (c : Ch) (p : Pp) : Gm Tryd.prog 65 [.ref 0 0] (ChM c p) (.fn (.func 71) [] [.ref 7 0]) (ChM c p ++ [[.ref 0 0]]) := by
 refine gmB 7 Tryd.func65 Tryd.ntmps65 Tryd.results65 (fun S0 O0 w0 m0 hm0 => ?_)
 repeat' first | refine st (by exact rfl) ?_ | fail
 exact enm (mem' := ChM c p ++ [[PV.ref 0 0]]) (by exact rfl) rfl (ChM_self8 c p)
end Go.Proofs.YtoonleefemkalaaDoor
namespace Go.Proofs.YtoonleefemkalaaDoor
open Go Go.Proofs.YtoonleefemkalaaDoor.E
def recL (fn : FuncId) (tmps : Array Value) (ps : Array Tmp) (assign body : Code) (D : Nat) : Loop := { state := .ready, pending := none, fn, tmps, params := ps, assign, body, defers := D }
def Iter (f : FuncId) (jn : Nat) (S : Reg) (O : Owns) (m : List Nat) (mem : List (List PV)) (rec : Nat → Loop) (vc : Array Value) (T : List (List PV) → Prop) : Prop :=
 ∀ (l : Nat) (W : World), Env S O W S O m mem W → W.heap[l]? = some (.loop (rec l)) → O l = none → (∀ i, ¬ S l i) →
  Calls Tryd.prog f (#[.func (.yield l) #[] #[]] ++ vc) W fun e W2 => ∃ v S' O' m' mem', e = .returned v ∧ T mem' ∧ Env S O W S' O' m' mem' W2 ∧ m.take jn <+: m' ∧ W2.heap[l]? = some (.loop (rec l))
theorem range_call {K : Ctx} (hP : K.P = Tryd.prog) {S : Reg} {O : Owns} {m : List Nat} {s : GS} {a : Act} {w : World} {t : Nat} {ps : Array Tmp} {assign body : Code} {f : FuncId} {caps : List PV} {fn : Func} {Post : Exit → Act → World → Prop} (jn : Nat) (T : List (List PV) → Prop)
 (hr : Rep K S O m s a w) (hg : s.get t = some (.fn (.func f) [] caps)) (hf : Tryd.prog.funcs[f]? = some fn) (hb : fn.body.isSome = true) (hn : (fn.name == "runtime.NumGoroutine") = false) (hd : a.defers = [])
 (hit : ∀ (fnid D : Nat) (vc : Array Value), vc.size = caps.length → (∀ (W : World), (∀ q, q < w.heap.size → W.heap[q]? = w.heap[q]?) → Ext S w W → ∀ (i : Nat) p v, caps[i]? = some p → vc[i]? = some v → ∃ l', RP W S O m l' p v) → Iter f jn S O m s.mem (fun _ => recL fnid a.tmps ps assign body D) vc T)
 (next : ∀ (S' : Reg) (O' : Owns) (m' : List Nat) (mem' : List (List PV)) (W3 : World) (D : Nat), T mem' → Env K.S0 K.O0 K.w0 S' O' m' mem' W3 → Env S O w S' O' m' mem' W3 → m.take jn <+: m' → W3.heap[D]? = some (.deferred (some [])) → w.heap.size ≤ D → O' D = none → (∀ i, ¬ S' D i) → Post .normal { a with defers := [{ target := .collected D, args := #[] }] } W3) :
 (Code.rangeFunc (.tmp t) ps assign body).wp Tryd.prog Post a w := by
 rw [← wpIn_wide (n := 3)]
 refine wpIn_rangeFunc fun fnid _ => ?_
 have hv := hr.slots t _ hg
 obtain ⟨vc, hval, hvc, hcaps⟩ : ∃ vc : Array Value, a.tmps.getD t undef = .func (.func f) #[] vc ∧ vc.size = caps.length ∧ ∀ (i : Nat) p v, caps[i]? = some p → vc[i]? = some v → RP w S O m (i :: 1 :: [t, 0]) p v := by
  generalize a.tmps.getD t undef = v at hv
  cases hv with
  | fn _ _ _ _ vf vc h1 h2 g1 g2 =>
   have : vf = #[] := Array.eq_empty_of_size_eq_zero h1
   subst this
   exact ⟨vc, rfl, h2, g2⟩
 have hev : a.eval (.tmp t) = .func (.func f) #[] vc := hval
 let rec0 := recL fnid a.tmps ps assign body w.heap.size
 let W1 := (w.alloc (.deferred (some []))).alloc (.loop rec0)
 have h1 : Rep K S O m s a W1 := (hr.allocd _).allocd _
 have hE1 : Ext S w W1 := (ext_alloc S w _ hr.env.slt).trans (ext_alloc S _ _ (hr.allocd _).env.slt) (fun _ _ h => h)
 have hold : ∀ q, q < w.heap.size → W1.heap[q]? = w.heap[q]? := fun q hq => by
  rw [show W1.heap[q]? = _ from heap_alloc_old' _ _ q (by simp; omega)]
  exact heap_alloc_old' _ _ q hq
 have hL1 : W1.heap[w.heap.size + 1]? = some (.loop rec0) := by
  have := heap_alloc_new' (w.alloc (.deferred (some []))) (.loop rec0)
  rwa [show (w.alloc (.deferred (some []))).heap.size = w.heap.size + 1 by simp] at this
 have hK1 : W1.heap[w.heap.size]? = some (.deferred (some [])) := by
  rw [show W1.heap[w.heap.size]? = _ from heap_alloc_old' (w.alloc (.deferred (some []))) (.loop rec0) w.heap.size (by simp)]
  exact heap_alloc_new' _ _
 have hnS : ∀ q, w.heap.size ≤ q → (∀ i, ¬ S q i) ∧ O q = none := fun q hq => ⟨fun i hi => absurd (hr.env.slt q i hi) (Nat.not_lt_of_le hq), by
  cases hO : O q with
  | none => rfl
  | some x => obtain ⟨l', t'⟩ := x; exact absurd (hr.env.olt q l' t' hO) (Nat.not_lt_of_le hq)⟩
 have hreb : Env S O W1 S O m s.mem W1 := h1.env.rebase
 have hz := hit fnid w.heap.size vc hvc (fun W hW hEW i p v hp hv => ⟨_, (hcaps i p v hp hv).ext hEW (fun _ _ h => h) (fun _ _ _ h => h) (fun _ _ h => h)⟩) (w.heap.size + 1) W1 hreb hL1 (hnS _ (by omega)).2 (hnS _ (by omega)).1
 refine ⟨w.heap.size + 1, [{ target := .collected w.heap.size, args := #[] }], W1, { target := .fn (.func f) vc, args := #[.func (.yield (w.heap.size + 1)) #[] #[]] }, W1, f, #[.func (.yield (w.heap.size + 1)) #[] #[]] ++ vc, W1, ?_, ?_, fun _ _ => trivial, ?_, (fun h => by cases h), ?_⟩
 · exact run_enterLoop_outer _ _ _ _ _
 · simp only [resolve, hev]
   simp [go_sem]
 · simp [invoke, go_sem, run_callFunc hf hb hn]
 · refine callsIn_wide.2 (Calls.mono hz ?_)
   rintro e W2 ⟨v, S', O', m', mem', rfl, hT, henv, hpm, hl2⟩
   have hlw1 : ∀ q, w.heap.size ≤ q → q < W1.heap.size → (∀ i, ¬ S' q i) ∧ O' q = none ∧ W2.heap[q]? = W1.heap[q]? := fun q hq hq2 => henv.apart hq2 (hnS q hq).1 (hnS q hq).2
   have hsz : W1.heap.size = w.heap.size + 2 := by show ((w.alloc _).alloc _).heap.size = _; simp
   obtain ⟨hS2, hO2, _⟩ := hlw1 (w.heap.size + 1) (by omega) (by omega)
   obtain ⟨hS3, hO3, hD2⟩ := hlw1 w.heap.size (by omega) (by omega)
   refine ⟨none, _, run_endLoop hl2 (by show LoopState.ready ≠ .busy; decide), ?_⟩
   have hne : w.heap.size ≠ w.heap.size + 1 := by omega
   have henvK : Env K.S0 K.O0 K.w0 S' O' m' mem' W2 := Env.trans h1.env henv
   have henvw : Env S O w S' O' m' mem' W2 := Env.trans (((hr.env.rebase : Env S O w S O m s.mem w).allocd' _).allocd' _) henv
   have hsz0 : K.w0.heap.size ≤ w.heap.size := hr.env.ext.size
   have hda : ([{ target := .collected w.heap.size, args := #[] }] : List Deferred) ++ a.defers = [{ target := .collected w.heap.size, args := #[] }] := by rw [hd]; rfl
   rw [hda]
   refine next S' O' m' mem' _ w.heap.size hT ?_ ?_ hpm ?_ (Nat.le_refl _) hO3 hS3
   · exact henvK.putObj _ (by omega) hl2 (fun _ _ _ h => by cases h) (fun _ _ _ h => by cases h) hS2 hO2
   · exact henvw.putObj _ (by omega) hl2 (fun _ _ _ h => by cases h) (fun _ _ _ h => by cases h) hS2 hO2
   · rw [World.putObj_heap_other hne, hD2]; exact hK1
end Go.Proofs.YtoonleefemkalaaDoor
namespace Go.Proofs.YtoonleefemkalaaDoor
open Go Go.Proofs.YtoonleefemkalaaDoor.E
theorem ChM_refs8 (c : Ch) (p : Pp) : (ChM c p ++ [[PV.ref 0 0]]).all (PV.refsBs 8) = true := by
 rw [show (ChM c p ++ [[PV.ref 0 0]]).all (PV.refsBs 8) = (PV.refsBs 8 (ChA c p 1 2 3 4 5 6) && (ChR c p ++ [[PV.ref 0 0]]).all (PV.refsBs 8)) from rfl, List.all_append, ChR_refs]; rfl
theorem ChM_self9 (c : Ch) (p : Pp) : MSub 9 (ChM c p ++ [[.ref 0 0]] ++ [[.ref 0 0]]) (ChM c p ++ [[.ref 0 0]] ++ [[.ref 0 0]]) := by
 have h : CSub 9 (ChA c p 1 2 3 4 5 6) (ChA c p 1 2 3 4 5 6) := by
  unfold ChA
  repeat' first | exact .nil | refine .cons (.inl rfl) rfl ?_
 exact .cons h (.cons (CSub_flat _ _) (.cons (CSub_flat _ _) (.cons (CSub_flat _ _) (.cons (CSub_flat _ _) (.cons (CSub_flat _ _) (.cons (CSub_flat _ _) (.cons (.cons (.inl rfl) rfl .nil) (.cons (.cons (.inl rfl) rfl .nil) .nil))))))))
theorem c71y (c : Ch) (p : Pp) (h : c.ear = []) : Gm Tryd.prog 71 [.undef, .ref 8 0] (ChM c p ++ [[.ref 0 0]] ++ [[.ref 0 0]]) (.tup []) (ChM c p ++ [[.ref 0 0]] ++ [[.ref 0 0]]) := by
 refine gmB 9 Tryd.func71 Tryd.ntmps71 Tryd.results71 (fun S0 O0 w0 m0 hm0 => ?_)
 repeat' first | refine st (by exact rfl) ?_ | fail
 refine gRn 1 ?_
 repeat' first | refine st (by exact rfl) ?_ | fail
 refine Z6 ?_
 iterate 11 refine ov (hc := ?_)
 refine oqw (hs := rfl) (hj := rfl) (h := fun _ => rfl) (p := .d (.ptr (.agg [.int .i64 0, .int .i64 0, .str ByteArray.empty]))) (hq := fun rest hg => absurd hg (by simp [isT, h, pD])) (hc := ?_)
 iterate 8 refine ov (hc := ?_)
 refine Z7 ?_
 repeat' first | refine st (by exact rfl) ?_ | fail
 refine cf (by exact rfl) ?_ (by simp [h, pD])
 repeat' first | refine st (by exact rfl) ?_ | fail
 exact enm (mem' := ChM c p ++ [[PV.ref 0 0]] ++ [[PV.ref 0 0]]) (by exact rfl) rfl (ChM_self9 c p)
variable {Post : Exit → Act → World → Prop}
theorem rw_range {n : Nat} {S0 : Reg} {O0 : Owns} {w0 : World} {m0 : List Nat} {sl : List (Nat × PV)} {mem mem2 : List (List PV)} {t t1 f b0 o0 b1 o1 : Nat} {r : PV} {ps : Array Tmp} {assign body : Code} (hg : sl.lookup t = some (.fn (.func f) [] [.ref b0 o0])) (hk : sl.lookup t1 = some (.ref b1 o1)) (hc : Gm Tryd.prog f [.undef, .ref b0 o0] mem r mem2)
 (next : ∀ (S1 : Reg) (O1 : Owns) (w1 : World) (m1 : List Nat) (D : Nat) (a : Act), Env S0 O0 w0 S1 O1 m1 mem2 w1 → w0.heap.size ≤ D → D < w1.heap.size → w1.heap[D]? = some (.deferred (some [])) → O1 D = none → (∀ i, ¬ S1 D i) → At ⟨Tryd.prog, n, S1, O1, w1, m0, [], markD D⟩ ⟨[(t1, .ref b1 o1)], mem2⟩ a w1 → Post .normal a w1) :
 RW ⟨Tryd.prog, n, S0, O0, w0, m0, [], []⟩ (.rangeFunc (.tmp t) ps assign body) Post ⟨sl, mem⟩ := by
 rintro a w ⟨S, O, m, hr⟩
 obtain ⟨⟨fn, hf, hb, hn⟩, hcall⟩ := hc
 refine range_call rfl m.length (fun mm => mm = mem2) hr hg hf hb hn hr.defers (fun fnid D vc hvc hcp l W henv hl hO hS => ?_) (fun S' O' m' mem' W3 D hT henv1 henv2 hpm hD1 hD2 hO hS => ?_)
 · have hv0 : ∃ v, vc[0]? = some v := ⟨_, Array.getElem?_eq_getElem (by rw [hvc]; exact Nat.zero_lt_one)⟩
   obtain ⟨v, hv⟩ := hv0
   obtain ⟨l', hrp⟩ := hcp w (fun _ _ => rfl) (Ext.refl _ _) 0 (.ref b0 o0) v rfl hv
   have hvv : ∃ r, m[b0]? = some r ∧ v = .pointer (some ⟨r, o0, none⟩) := by
    cases hrp with
    | ref _ _ _ r h => exact ⟨r, h, rfl⟩
   obtain ⟨rr, hm, rfl⟩ := hvv
   have hsz : (#[Value.func (.yield l) #[] #[]] ++ vc).size = 2 := by rw [Array.size_append, hvc]; rfl
   have hvc' : vc = #[.pointer (some ⟨rr, o0, none⟩)] := by
    obtain ⟨lv⟩ := vc
    rcases lv with _ | ⟨y, _ | ⟨z, lv⟩⟩
    · cases hvc
    · rw [Option.some.inj (show some y = some (Value.pointer (some ⟨rr, o0, none⟩)) from hv)]
    · simp at hvc
   subst hvc'
   refine (hcall W S O m _ henv hsz (fun i p v hp hv => ?_)).mono ?_
   · match i, hp, hv with
     | 0, hp, hv => injection hp with hp; subst hp; exact .undef _ _
     | 1, hp, hv =>
      injection hp with hp; subst hp
      have hv' : some (Value.pointer (some ⟨rr, o0, none⟩)) = some v := hv
      injection hv' with hv'
      subst hv'
      exact .ref _ _ _ _ hm
     | (i + 2), hp, hv => simp at hp
   · rintro e W2 ⟨v, q, mem', S', O', m', rfl, ⟨_, rfl⟩, henv', hpre, _⟩
     have hlt : l < W.heap.size := (Array.getElem?_eq_some_iff.1 hl).1
     exact ⟨v, S', O', m', mem', rfl, rfl, henv', by rw [List.take_length]; exact hpre, (henv'.apart hlt hS hO).2.2.trans hl⟩
 · subst hT
   rw [List.take_length] at hpm
   refine next S' O' W3 m' D _ henv1 (Nat.le_trans hr.env.ext.size hD2) (Array.getElem?_eq_some_iff.1 hD1).1 hD1 hO hS ⟨S', O', m', henv1.rebase, rfl, hr.size, hr.pre.trans hpm, fun i p hp => ?_⟩
   have hi : i = t1 ∧ p = .ref b1 o1 := by
    rw [show (GS.mk [(t1, PV.ref b1 o1)] mem').get i = [(t1, PV.ref b1 o1)].lookup i from rfl, List.lookup_cons] at hp
    cases hq : i == t1 with
    | true => rw [hq] at hp; injection hp with hp; exact ⟨by simpa using hq, hp.symm⟩
    | false => rw [hq] at hp; cases hp
   obtain ⟨rfl, rfl⟩ := hi
   have h1 := hr.slots i _ hk
   show RP W3 S' O' m' [i, 0] (.ref b1 o1) (a.tmps.getD i undef)
   generalize a.tmps.getD i undef = v at h1
   cases h1 with
   | ref _ _ _ r h =>
    refine .ref _ _ _ r ?_
    obtain ⟨x, rfl⟩ := hpm
    rw [List.getElem?_append_left (List.getElem?_eq_some_iff.1 h).1]
    exact h
theorem rwF {K : Ctx} {x y : Code} {c : Operand} {s : GS} {b : Bool} (hc : s.ev c = .d (.bool b)) (hb : b = false) (h : RW K y Post s) : RW K (.cond c x y) Post s := by
 subst hb
 exact rw_cond false hc (by simpa using h)
theorem rwT {K : Ctx} {x y : Code} {c : Operand} {s : GS} {b : Bool} (hc : s.ev c = .d (.bool b)) (hb : b = true) (h : RW K x Post s) : RW K (.cond c x y) Post s := by
 subst hb
 exact rw_cond true hc (by simpa using h)
noncomputable def r13 : Code := match Tryd.f60.body with
 | some (.seq _ (.seq _ (.seq _ (.seq _ c)))) => c
 | _ => .skip
theorem ChM_nref0 (sel : List Nat) (k : Nat) : ∀ (ms : List (List PV)), nrefLM [] sel k ms = true := fun ms => nrefLM_ex [] sel ms k (List.all_eq_true.2 fun _ _ => rfl)
def recZ (c : Ch) (x : ByteArray) : Ch := sendB (delC c (deP x)) ⟨2, (delC c (deP x)).exp, ByteArray.empty⟩
theorem c60z (c : Ch) (x : ByteArray) (h0 : deE x = 0) (h1 : (deP x).kd = 1) (h2 : (deP x).nu = c.exp) (h3 : c.exp < c.nxt) (he : c.ear = []) (hc : c.Few) : Mt 60 [.ref 0 0, .d (.str x)] c (.tup []) (recZ c x) := by
 intro p hp
 have q63 := c63 x 1 h0
 have q64 := c64 c (deP x) hc
 unfold Pk.d at q64
 refine ⟨⟨_, Tryd.func60, rfl, rfl⟩, ?_⟩
 refine gcall_marks 1 95 [] [(0, .ref 0 0), (1, .d (.str x))] 7 Tryd.func60 rfl Tryd.ntmps60 (of_decide_eq_true rfl) Tryd.results60 rfl rfl (fun S0 O0 w0 m0 hm0 => ?_)
 have hr : RW ⟨Tryd.prog, 95, S0, O0, w0, m0, [], []⟩ (Tryd.f60.body.getD .skip) (EndM ⟨Tryd.prog, 95, S0, O0, w0, m0, [], []⟩ [] 7 (fun q m => q = .tup [] ∧ ∃ p' : Pp, p'.Ok ∧ m = ChM (recZ c x) p')) ⟨[(0, .ref 0 0), (1, .d (.str x))], ChM c p⟩ := by
  refine Z8 ?_
  repeat' first | refine st (by exact rfl) ?_ | fail
  refine toL ⟨rfl, ?_⟩
  refine Z8 ?_
  repeat' first | refine st (by exact rfl) ?_ | refine cl (by exact rfl) q63 ?_ | fail
  refine toL ⟨rfl, ?_⟩
  refine Z8 ?_
  refine fz true (by exact rfl) ?_ (by rw [hm0]; decide) (ChM_refs8 c p)
  repeat' first | refine st (by exact rfl) ?_ | fail
  refine cf (by exact rfl) ?_ (by simp [h1])
  repeat' first | refine st (by exact rfl) ?_ | fail
  refine toL ⟨rfl, ?_⟩
  refine rw_seqr (rw_block ?_)
  refine Z8 ?_
  refine kp [(4, .d (.ptr (deP x).d)), (2, .ref 7 0)] ⟨rfl, rfl, trivial⟩ ?_
  unfold Pk.d
  refine Z6 ?_
  iterate 17 refine ov (hc := ?_)
  refine Z7 ?_
  refine toL ⟨rfl, ?_⟩
  refine rwF (by exact rfl) (by simp [h2]; omega) ?_
  refine Z8 ?_
  refine kp [(4, .d (.ptr (.agg [.int .i64 (deP x).kd, .int .i64 (deP x).nu, .str (deP x).bo]))), (2, .ref 7 0)] ⟨rfl, rfl, trivial⟩ ?_
  refine Z6 ?_
  iterate 8 refine ov (hc := ?_)
  refine Z7 ?_
  refine toL ⟨rfl, ?_⟩
  refine rwT (by exact rfl) (by simp [h2]) ?_
  refine Z8 ?_
  refine kp [(4, .d (.ptr (.agg [.int .i64 (deP x).kd, .int .i64 (deP x).nu, .str (deP x).bo]))), (2, .ref 7 0)] ⟨rfl, rfl, trivial⟩ ?_
  repeat' first | refine st (by exact rfl) ?_ | fail
  refine (show GF _ _ _ _ ⟨_, ChM c p ++ [[.ref 0 0]]⟩ from ?_)
  refine cj (by exact rfl) q64 hp (fun p' hp' => ?_)
  repeat' first | refine st (by exact rfl) ?_ | fail
  refine toL ⟨rfl, ?_⟩
  refine Z8 ?_
  refine kp [(2, .ref 7 0)] ⟨rfl, trivial⟩ ?_
  repeat' first | refine st (by exact rfl) ?_ | fail
  refine gJ (jn := 7) [0, 1, 2, 3, 4, 5, 6] (by exact rfl) ((c65 (delC c (deP x)) p').j 7) rfl (by decide) (fun b hb => ?_) ?_ rfl ?_ (fun b hb => by cases hb) (ChM_nref0 _ _ _) ?_
  · have : b < 7 := by
     have h : ∀ b ∈ [0, 1, 2, 3, 4, 5, 6], b < 7 := by decide
     exact h b hb
    rw [List.length_append]
    have h7 : (ChM (delC c (deP x)) p').length = 7 := rfl
    omega
  · rw [ChM_rens]; rfl
  · exact ChM_refs (delC c (deP x)) p'
  · rintro q m ⟨rfl, rfl⟩ _
    have h1 := setAll_ChM (delC c (deP x)) (delC c (deP x)) p' p' [[.ref 0 0]] 8
    rw [show ((ChM (delC c (deP x)) p').drop 7).map (PV.rens (renN [0, 1, 2, 3, 4, 5, 6] 8)) = [] from rfl, List.append_nil] at h1
    have h2 : stJ 7 [0, 1, 2, 3, 4, 5, 6] [(44, .ref 0 0), (2, .ref 7 0)] (ChM (delC c (deP x)) p' ++ [[.ref 0 0]]) 45 (.fn (.func 71) [] [.ref 7 0]) (ChM (delC c (deP x)) p' ++ [[.ref 0 0]]) = ⟨[(45, .fn (.func 71) [] [.ref 8 0]), (44, .ref 0 0), (2, .ref 7 0)], ChM (delC c (deP x)) p' ++ [[.ref 0 0]] ++ [[.ref 0 0]]⟩ := by
     refine congrArg (GS.mk _) ?_
     show setAll (ChM (delC c (deP x)) p' ++ [[.ref 0 0]]) [0, 1, 2, 3, 4, 5, 6] (((ChM (delC c (deP x)) p').take 7).map (PV.rens (renN [0, 1, 2, 3, 4, 5, 6] 8))) ++ [[.ref 0 0]] = _
     rw [h1]
    rw [h2]
    repeat' first | refine st (by exact rfl) ?_ | fail
    refine toL ⟨rfl, ?_⟩
    refine rw_block ?_
    refine rw_range (t1 := 2) rfl rfl (c71y (delC c (deP x)) p' he) (fun S1 O1 w1 m1 D a henv hD1 hD2 hD3 hO hS hat => ?_)
    have q58 := c58b (delC c (deP x)) ⟨2, (delC c (deP x)).exp, ByteArray.empty⟩
    unfold Pk.d at q58
    have hG : GF ⟨Tryd.prog, 95, S1, O1, w1, m0, [], markD D⟩ [] (.code r13) (E.Fin Tryd.prog [] 7 (fun q m => q = .tup [] ∧ ∃ p' : Pp, p'.Ok ∧ m = ChM (recZ c x) p')) ⟨[(2, .ref 7 0)], ChM (delC c (deP x)) p' ++ ([[.ref 0 0]] ++ [[.ref 0 0]])⟩ := by
     refine tabC 8 94 [(0, 86, .ref 0 0), (1, 87, .ref 0 0), (2, 88, .ref 0 9), (3, 89, .ref 0 0), (4, 90, .ref 0 0), (5, 91, .ref 0 5), (6, 92, .d (.int .i64 (delC c (deP x)).exp)), (7, 93, .d (.agg [.int .i64 2, .int .i64 (delC c (deP x)).exp, .str ByteArray.empty]))] [0, 1, 2, 3, 4, 5, 6, 7] (by exact rfl) (by exact rfl) (fun rest => rfl) q58 hp' (fun a => ?_) (fun p2 hp2 => ?_)
     · refine ⟨?_, ?_, ?_, ?_, ?_, ?_, ?_, ?_, trivial⟩
       all_goals exact ta (by exact rfl) (by exact rfl) rfl rfl (by kernel_rfl) (by exact fun _ => rfl)
     · exact enj (mem' := ChM (recZ c x) p2) (by exact rfl) ⟨rfl, p2, hp2, rfl⟩ (ChM_sub (recZ c x) p2 _)
    exact wp_mono (hG a w1 hat) (fun e a' w' ⟨s', hfin, hat'⟩ => .inr ⟨D, S1, O1, w1, m1, _, s', hfin, hat', henv, hD1, hD2, hD3, hO, hS⟩)
 exact hr
end Go.Proofs.YtoonleefemkalaaDoor
namespace Go.Proofs.YtoonleefemkalaaDoor
open Go Go.Proofs.YtoonleefemkalaaDoor.E
theorem c45z (c : Ch) (k at_ : Int) (i : Nat) {x : ByteArray} (hx : c.tos[i]? = some x) (hc : c.Few) (h0 : deE x = 0) (h1 : (deP x).kd = 1) (h2 : (deP x).nu = c.exp) (h3 : c.exp < c.nxt) (he : c.ear = []) : Mt 45 [.ref 0 0, .d (acD k false (i : Int) at_)] c (.d (.int .i64 0)) (recZ { c with tos := c.tos.eraseIdx i } x) := by
 intro p hp
 have hi : i < c.tos.length := (List.getElem?_eq_some_iff.1 hx).1
 have q44 := c44tf c k (i : Int) at_
 have q46 := c46t c k at_ i hi hc.tos
 have hf2 : Ch.Few { c with tos := c.tos.eraseIdx i } := { hc with tos := by show (c.tos.eraseIdx i).length ≤ _; rw [List.length_eraseIdx]; have := hc.tos; split <;> omega }
 have q60 := c60z { c with tos := c.tos.eraseIdx i } x h0 h1 h2 h3 he hf2
 unfold acD at q44 q46 ⊢
 refine gjB 1 7 Tryd.func45 Tryd.ntmps45 Tryd.results45 (fun S0 O0 w0 m0 hm0 => ?_)
 iterate 4 refine st (by exact rfl) ?_
 refine fz true (by exact rfl) ?_ (by rw [hm0]; decide) (ChM_refs c p)
 repeat' first | refine st (by exact rfl) ?_ | fail
 refine kp [(0, .ref 0 0), (3, .d (.ptr (.agg [.int .i64 k, .bool false, .int .i64 (i : Int), .int .i64 at_]))), (4, .d (.int .i64 0))] ⟨rfl, rfl, rfl, trivial⟩ ?_
 refine (show GF _ _ _ _ ⟨_, ChM c p ++ []⟩ from ?_)
 refine Z6 ?_;refine Z5 ?_;refine Z5 ?_
 refine ocf (hcf := q44) (hp := hp) (hc := ?_)
 refine Z5 ?_;refine Z5 ?_;refine Z5 ?_;refine Z5 ?_
 refine oqw (hs := rfl) (hj := rfl) (h := fun _ => rfl) (hq := fun rest _ ht => Q_rowIndex (n := (sD c.tos).length) rfl rfl (by omega) (by rw [sD_len]; simpa using hi) u35 sz9 ht) (hc := ?_)
 refine oqw (hs := rfl) (hj := rfl) (h := fun _ => rfl) (p := .d (.str x)) (hq := fun rest _ ht => Q_rowLeaf (pre := p.t1) (xs := sD c.tos) (post := p.t2) (i := i) (f := 0) (k := 1) rfl rfl (by rw [rlo_ne (sD_ne hi)]; rfl) (sD_get hx) rfl (row_k hp.t1 (sD_k _) hp.t2) u9 rfl rfl ht) (hc := ?_)
 refine Z5 ?_;refine Z7 ?_
 rw [List.append_nil]
 refine Z2 ?_
 refine kp [(5, .d (.str x)), (0, .ref 0 0), (3, .d (.ptr (.agg [.int .i64 k, .bool false, .int .i64 (i : Int), .int .i64 at_]))), (4, .d (.int .i64 0))] ⟨rfl, rfl, rfl, rfl, trivial⟩ ?_
 repeat' first | refine st (by exact rfl) ?_ | fail
 refine (show GF _ _ _ _ ⟨_, ChM c p ++ []⟩ from ?_)
 refine cj (by exact rfl) q46 hp (fun p2 hp2 => ?_)
 repeat' first | refine st (by exact rfl) ?_ | fail
 refine cf (by exact rfl) ?_ rfl
 repeat' first | refine st (by exact rfl) ?_ | fail
 refine cj (by exact rfl) q60 hp2 (fun p3 hp3 => ?_)
 repeat' first | refine st (by exact rfl) ?_ | fail
 exact enj (mem' := ChM (recZ { c with tos := c.tos.eraseIdx i } x) p3) (by exact rfl) ⟨rfl, p3, hp3, rfl⟩ (ChM_sub (recZ { c with tos := c.tos.eraseIdx i } x) p3 [])
end Go.Proofs.YtoonleefemkalaaDoor
