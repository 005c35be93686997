import Derived.Test.YtklkbfpjimeaoaaM19
import Derived.Test.YtklkbfpjimeaoaaM12
/- Contracts of functions. Conditions: none. -/
set_option linter.unusedSimpArgs false
set_option linter.unusedVariables false
set_option maxRecDepth 20000
namespace Go.Proofs.Ytklkbfpjimeaoaa
open Go Go.Proofs.Ytklkbfpjimeaoaa.E
section
def nn : ByteArray := ⟨#[110, 110]⟩
def eb : ByteArray := ⟨#[101, 98]⟩
def rule157 : Tr → Bool
 | .mk op _ num ks =>
  if (num = 1 ∨ num = 2) ∧ num + 2 ≤ (ks.length : Int) then kidsB (ks.take (num + 2).toNat) (nn.extract 0 num.toNat ++ eb) && (((ks.drop (num + 2).toNat).length : Int) == 0 || (op == 55 && everyB (fun op => op == 67) (ks.drop (num + 2).toNat)))
  else false
theorem nn_size (n : Nat) : (nn.extract 0 n).size ≤ 2 := by rw [ByteArray.size_extract]; have : nn.size = 2 := rfl; omega
theorem Tr.Ok.take {op nu : Int} {nm : ByteArray} {ks : List Tr} (h : (Tr.mk op nm nu ks).Ok) (n : Nat) : (Tr.mk op nm nu (ks.take n)).Ok := by
 cases h with | mk h1 h2 h3 h4 h5 => exact .mk h1 h2 h3 (Nat.le_trans (by rw [List.length_take]; omega) h4) (fun k hk => h5 k (List.mem_of_mem_take hk))
theorem Tr.Ok.drop {op nu : Int} {nm : ByteArray} {ks : List Tr} (h : (Tr.mk op nm nu ks).Ok) (n : Nat) : (Tr.mk op nm nu (ks.drop n)).Ok := by
 cases h with | mk h1 h2 h3 h4 h5 => exact .mk h1 h2 h3 (Nat.le_trans (by rw [List.length_drop]; omega) h4) (fun k hk => h5 k (List.mem_of_mem_drop hk))
set_option maxHeartbeats 4000000 in
theorem c157 (t : Tr) (hok : t.Ok) : Pf Try.prog 72 [t.d] (.d (.bool (rule157 t))) := by
 obtain ⟨op, name, num, ks⟩ := t
 rw [Tr.d_mk]
 try simp only [Tr.op_mk, Tr.nm_mk, Tr.nu_mk, Tr.kids_mk]
 refine pf_body (rvs := [.tmp 2]) [(0, .d (.agg [.int .i64 op, .str name, .int .i64 num, .sl (ks.map Tr.d)]))] Try.func72 Try.ntmps72 Try.results72 (fun S0 O0 w0 m0 hm0 => ?_)
 refine Z92 ?_;refine Z96 ?_
 first | refine sv rfl (y_fieldAt 2 u27 rfl sz3) ?_ | refine vq rfl (q_fieldAddr u27 rfl sz3) ?_ | refine vq rfl (qF u27 rfl sz3) ?_
 first | refine sv rfl (y_load_leaf u3) ?_ | refine vq rfl (qL u3) ?_
 refine Z72 ?_;refine Z1 ?_
 first | refine sg rfl (fun hg => q_fieldAddr u27 rfl sz3) ?_ | refine sg rfl (fun hg => qF u27 rfl sz3) ?_
 first | refine sg rfl (fun hg => sP 9 rfl hg (qO u3)) ?_ | refine sg rfl (fun hg => sP 9 rfl hg (qL u3)) ?_
 refine sg rfl (fun hg => sP 10 rfl hg q_neq) ?_
 refine Z18 ?_;refine Z1 ?_
 first | refine sg rfl (fun hg => q_fieldAddr u27 rfl sz22) ?_ | refine sg rfl (fun hg => qF u27 rfl sz22) ?_
 first | refine sg rfl (fun hg => sP 14 rfl hg (qO u22)) ?_ | refine sg rfl (fun hg => sP 14 rfl hg (qL u22)) ?_
 refine sg rfl (fun hg => sP 15 rfl hg (q_len u22)) ?_
 first | refine sg rfl (fun hg => q_fieldAddr u27 rfl sz3) ?_ | refine sg rfl (fun hg => qF u27 rfl sz3) ?_
 first | refine sg rfl (fun hg => sP 17 rfl hg (qO u3)) ?_ | refine sg rfl (fun hg => sP 17 rfl hg (qL u3)) ?_
 refine sg rfl (fun hg => sP 18 rfl hg (q_add (hw := rfl))) ?_
 refine sg rfl (fun hg => sP 19 rfl hg (sP 16 rfl hg q_lss)) ?_
 refine Z111 ?_
 refine zgC ?_ ?_ <;> intro hb0
 ·
  have hn : ¬ ((num = 1 ∨ num = 2) ∧ num + 2 ≤ (ks.length : Int)) := by
   rintro ⟨h7, h8⟩
   simp only [Bool.or_eq_true, Bool.and_eq_true, bne_iff_ne, bne_eq_false_iff_eq, decide_eq_true_eq, decide_eq_false_iff_not, List.length_map] at hb0
   rcases hb0 with hb0 | hb0
   · omega
   · rw [wrap_i64 (by omega) (by omega)] at hb0
     omega
  refine Z49 ?_
  refine gP [0, 1, 2, 3, 4] ?_
  refine Z22 ?_;refine Z102 ?_
  exact ⟨by rw [rule157, if_neg hn], rfl⟩
 have hn : (num = 1 ∨ num = 2) ∧ num + 2 ≤ (ks.length : Int) := by
  simp only [Bool.or_eq_false_iff, Bool.and_eq_false_iff, bne_iff_ne, bne_eq_false_iff_eq, decide_eq_true_eq, decide_eq_false_iff_not, List.length_map] at hb0
  obtain ⟨h7, h8⟩ := hb0
  have h9 : num = 1 ∨ num = 2 := by omega
  rw [wrap_i64 (by omega) (by omega)] at h8
  exact ⟨h9, by omega⟩
 have hn1 : 1 ≤ num ∧ num ≤ 2 := by omega
 refine Z66 ?_
 refine gP [0, 1, 2, 3, 4] ?_
 refine Z22 ?_
 first | refine sv rfl (y_load_agg sz27 u27 rfl) ?_ | refine vq rfl (qG (by exact sz27) u27 rfl) ?_
 refine Z62 ?_
 first | refine sa rfl (dS sz27) ?_ | refine sa rfl (d_store_take sz27) ?_
 refine Z7 ?_
 first | refine sv rfl (y_fieldAt 3 u27 rfl sz22) ?_ | refine vq rfl (q_fieldAddr u27 rfl sz22) ?_ | refine vq rfl (qF u27 rfl sz22) ?_
 first | refine sv rfl (y_load_leaf u22) ?_ | refine vq rfl (qL u22) ?_
 first | refine sv rfl (y_fieldAt 2 u27 rfl sz3) ?_ | refine vq rfl (q_fieldAddr u27 rfl sz3) ?_ | refine vq rfl (qF u27 rfl sz3) ?_
 first | refine sv rfl (y_load_leaf u3) ?_ | refine vq rfl (qL u3) ?_
 refine Z15 ?_
 refine vq rfl ((q_sliceh u22 sz27 (Tr.ds_cells ks))) ?_
 rw [← List.map_take]
 first | refine sv rfl (y_fieldAt 3 u27 rfl sz22) ?_ | refine vq rfl (q_fieldAddr u27 rfl sz22) ?_ | refine vq rfl (qF u27 rfl sz22) ?_
 first | refine sa rfl (dS sz22) ?_ | refine sa rfl (d_store_take sz22) ?_
 refine gF 0 [] (.agg [.int .i64 op, .str name, .int .i64 num, .sl ((ks.take (num + 2).toNat).map Tr.d)]) rfl ?_
 refine gN (tN (zgS (zgS ?_)))
 refine g_cg0 [30, 31, 32, 33, 34, 35, 36] ?_
 refine Z82 ?_
 first | refine cS 1 (fun b rest hc1 hc2 hc3 => sv rfl (y_load_agg sz27 u27 rfl) (gN ⟨rfl, rfl⟩)) ?_ | refine cS 1 (fun b rest hc1 hc2 hc3 => vq rfl (qG (by exact sz27) u27 rfl) (gN ⟨rfl, rfl⟩)) ?_
 refine Z82 ?_
 first | refine cS 2 (fun b rest hc1 hc2 hc3 => sv rfl (y_fieldAt 2 u27 rfl sz3) (gN ⟨rfl, rfl⟩)) ?_ | refine cS 2 (fun b rest hc1 hc2 hc3 => vq rfl (q_fieldAddr u27 rfl sz3) (gN ⟨rfl, rfl⟩)) ?_ | refine cS 2 (fun b rest hc1 hc2 hc3 => vq rfl (qF u27 rfl sz3) (gN ⟨rfl, rfl⟩)) ?_
 refine cP [1] ?_
 first | refine cS 3 (fun b rest hc1 hc2 hc3 => sv rfl (y_load_leaf u3) (gN ⟨rfl, rfl⟩)) ?_ | refine cS 3 (fun b rest hc1 hc2 hc3 => vq rfl (qL u3) (gN ⟨rfl, rfl⟩)) ?_
 refine cP [2] ?_
 refine cS 4 (fun b rest hc1 hc2 hc3 => vq rfl ((q_strh u9 (h1 := by show num ≤ 2; omega))) (gN ⟨rfl, rfl⟩)) ?_
 refine cP [3] ?_
 refine cS 5 (fun b rest hc1 hc2 hc3 => vq rfl (q_stradd (hl := by have := nn_size num.toNat; show (nn.extract 0 num.toNat).size + 2 ≤ lim; simp only [lim]; omega)) (gN ⟨rfl, rfl⟩)) ?_
 refine cP [0, 4] ?_
 refine cS 6 (fun b rest hc1 hc2 hc3 => gL (xs := [.tmp 30, .tmp 34]) rfl ((Tr.d_mk op name num (ks.take (num + 2).toNat) ▸ c156 (.mk op name num (ks.take (num + 2).toNat)) (nn.extract 0 num.toNat ++ eb) (hok.take _))) (gN ⟨rfl, rfl⟩)) ?_
 refine cP [5] ?_
 refine cS 7 (fun b rest hc1 hc2 hc3 => vq rfl q_not (gN ⟨rfl, rfl⟩)) ?_
 refine cg_done ?_
 refine tN ?_
 refine zgC ?_ ?_ <;> intro hb1
 ·
  refine Z49 ?_
  refine gP [0, 1, 2, 3, 4] ?_
  refine Z22 ?_;refine Z102 ?_
  exact Y9
 refine Z66 ?_
 refine gP [0, 1, 2, 3, 4] ?_
 refine Z22 ?_
 first | refine sv rfl (y_load_agg sz27 u27 rfl) ?_ | refine vq rfl (qG (by exact sz27) u27 rfl) ?_
 refine Z62 ?_
 first | refine sa rfl (dS sz27) ?_ | refine sa rfl (d_store_take sz27) ?_
 refine Z7 ?_
 first | refine sv rfl (y_fieldAt 3 u27 rfl sz22) ?_ | refine vq rfl (q_fieldAddr u27 rfl sz22) ?_ | refine vq rfl (qF u27 rfl sz22) ?_
 first | refine sv rfl (y_load_leaf u22) ?_ | refine vq rfl (qL u22) ?_
 first | refine sv rfl (y_fieldAt 2 u27 rfl sz3) ?_ | refine vq rfl (q_fieldAddr u27 rfl sz3) ?_ | refine vq rfl (qF u27 rfl sz3) ?_
 first | refine sv rfl (y_load_leaf u3) ?_ | refine vq rfl (qL u3) ?_
 refine Z15 ?_
 refine vq rfl ((q_slicel u22 sz27 (Tr.ds_cells ks))) ?_
 rw [← List.map_drop]
 first | refine sv rfl (y_fieldAt 3 u27 rfl sz22) ?_ | refine vq rfl (q_fieldAddr u27 rfl sz22) ?_ | refine vq rfl (qF u27 rfl sz22) ?_
 first | refine sa rfl (dS sz22) ?_ | refine sa rfl (d_store_take sz22) ?_
 refine gF 0 [] (.agg [.int .i64 op, .str name, .int .i64 num, .sl ((ks.drop (num + 2).toNat).map Tr.d)]) rfl ?_
 refine Z7 ?_
 first | refine sv rfl (y_fieldAt 3 u27 rfl sz22) ?_ | refine vq rfl (q_fieldAddr u27 rfl sz22) ?_ | refine vq rfl (qF u27 rfl sz22) ?_
 first | refine sv rfl (y_load_leaf u22) ?_ | refine vq rfl (qL u22) ?_
 refine Z39 ?_;refine Z29 ?_;refine Z1 ?_
 first | refine sg rfl (fun hg => q_fieldAddr u27 rfl sz3) ?_ | refine sg rfl (fun hg => qF u27 rfl sz3) ?_
 first | refine sg rfl (fun hg => sP 50 rfl hg (qO u3)) ?_ | refine sg rfl (fun hg => sP 50 rfl hg (qL u3)) ?_
 refine sg rfl (fun hg => sP 51 rfl hg q_eql) ?_
 refine sg rfl (fun hg => sP 52 rfl hg qM) ?_
 first | refine sg rfl (fun hg => q_load_agg sz27 u27 rfl) ?_ | refine sg rfl (fun hg => qG (by exact sz27) u27 rfl) ?_
 refine g_callg (xs := [.tmp 54, .func 92]) rfl (fun hg => (Tr.d_mk op name num (ks.drop (num + 2).toNat) ▸ c159 (.mk op name num (ks.drop (num + 2).toNat)) 92 (fun op => op == 67) (hok.drop _) c232)) ?_
 refine sg rfl (fun hg => sP 53 rfl hg q_and) ?_
 refine Z16 ?_;refine Z85 ?_
 exact Y9
def voidB : ByteArray := ⟨#[118, 111, 105, 100]⟩
def varTail (nu : Int) (l : List Tr) : Bool := if (andI nu 2 != 0) = true then (match l with | [] => false | k :: r => isExprB k.op && (r.length : Int) == 0) else (l.length : Int) == 0
def varType (k : Tr) : Bool := !(k.op != 31 && (k.op != 30 || decide (k.nm = voidB)))
def varTy (num : Int) : List Tr → Bool
 | [] => false
 | k :: r => varType k && varTail num r
def varB : Tr → Bool
 | .mk _ name num ks =>
  if (((!nameB name || decide (num < 0)) || decide (num > 15)) || andI num 3 == 0) = true then false
  else if (andI num 1 != 0) = true then varTy num ks else varTail num ks
set_option maxHeartbeats 4000000 in
theorem c285 (t : Tr) (hok : t.Ok) : Pf Try.prog 101 [t.d] (.d (.bool (varB t))) := by
 obtain ⟨op, name, num, ks⟩ := t
 rw [Tr.d_mk]
 try simp only [Tr.op_mk, Tr.nm_mk, Tr.nu_mk, Tr.kids_mk]
 cases hok with | mk h1 h2 h3 h4 h5 =>
 refine pf_body (rvs := [.tmp 2]) [(0, .d (.agg [.int .i64 op, .str name, .int .i64 num, .sl (ks.map Tr.d)]))] Try.func101 Try.ntmps101 Try.results101 (fun S0 O0 w0 m0 hm0 => ?_)
 refine Z92 ?_;refine Z96 ?_
 first | refine sv rfl (y_fieldAt 1 u27 rfl sz9) ?_ | refine vq rfl (q_fieldAddr u27 rfl sz9) ?_ | refine vq rfl (qF u27 rfl sz9) ?_
 first | refine sv rfl (y_load_leaf u9) ?_ | refine vq rfl (qL u9) ?_
 refine gL (xs := [.tmp 5]) rfl (c167 name) ?_
 refine Z47 ?_;refine Z1 ?_
 first | refine sg rfl (fun hg => q_fieldAddr u27 rfl sz3) ?_ | refine sg rfl (fun hg => qF u27 rfl sz3) ?_
 first | refine sg rfl (fun hg => sP 9 rfl hg (qO u3)) ?_ | refine sg rfl (fun hg => sP 9 rfl hg (qL u3)) ?_
 refine sg rfl (fun hg => sP 10 rfl hg q_lss) ?_
 refine Z16 ?_;refine Z1 ?_
 first | refine sg rfl (fun hg => q_fieldAddr u27 rfl sz3) ?_ | refine sg rfl (fun hg => qF u27 rfl sz3) ?_
 first | refine sg rfl (fun hg => sP 14 rfl hg (qO u3)) ?_ | refine sg rfl (fun hg => sP 14 rfl hg (qL u3)) ?_
 refine sg rfl (fun hg => sP 15 rfl hg q_gtr) ?_
 refine Z16 ?_;refine Z1 ?_
 first | refine sg rfl (fun hg => q_fieldAddr u27 rfl sz3) ?_ | refine sg rfl (fun hg => qF u27 rfl sz3) ?_
 first | refine sg rfl (fun hg => sP 19 rfl hg (qO u3)) ?_ | refine sg rfl (fun hg => sP 19 rfl hg (qL u3)) ?_
 refine sg rfl (fun hg => sP 20 rfl hg (q_bits (show _ = pure (Value.int .i64 (andI _ _)) from rfl))) ?_
 refine sg rfl (fun hg => sP 21 rfl hg q_eql) ?_
 refine Z111 ?_
 refine zgC ?_ ?_ <;> intro hb0
 ·
  refine Z49 ?_;refine Z54 ?_;refine Z22 ?_;refine Z102 ?_
  exact ⟨by rw [varB, if_pos hb0], rfl⟩
 refine Z66 ?_;refine Z54 ?_;refine Z22 ?_
 first | refine sv rfl (y_fieldAt 3 u27 rfl sz22) ?_ | refine vq rfl (q_fieldAddr u27 rfl sz22) ?_ | refine vq rfl (qF u27 rfl sz22) ?_
 first | refine sv rfl (y_load_leaf u22) ?_ | refine vq rfl (qL u22) ?_
 first | refine sv rfl y_assign_take ?_ | refine vq rfl qA ?_
 refine Z12 ?_
 refine G_seq_cut (α := List Tr) (fun l => ⟨[(1, .d (.ptr (.agg [.int .i64 op, .str name, .int .i64 num, .sl (ks.map Tr.d)]))), (3, .d (.sl (l.map Tr.d)))], []⟩) (fun l => varB (.mk op name num ks) = varTail num l ∧ l.length ≤ 140737488355328) (fun Q' hn he hr => ?_) (fun l hl => ?_)
 ·
  refine Z5 ?_
  first | refine sv rfl (y_fieldAt 2 u27 rfl sz3) ?_ | refine vq rfl (q_fieldAddr u27 rfl sz3) ?_ | refine vq rfl (qF u27 rfl sz3) ?_
  first | refine sv rfl (y_load_leaf u3) ?_ | refine vq rfl (qL u3) ?_
  refine vq rfl (q_bits (show _ = pure (Value.int .i64 (andI _ _)) from rfl)) ?_
  refine Z72 ?_;refine Z12 ?_
  refine zgC ?_ ?_ <;> intro hb1
  ·
   refine zgS (zgS (gR ?_))
   refine Z1 ?_;refine Z39 ?_;refine Z29 ?_;refine Z1 ?_
   refine g_split 33 false (fun hsp => ?_) (fun hsp => ?_)
   ·
    obtain ⟨k, r, hks⟩ : ∃ k r, ks = k :: r := by
     cases hks : ks with
     | nil => exfalso; rw [hks] at hsp; exact absurd hsp (by decide)
     | cons k r => exact ⟨k, r, rfl⟩
    obtain ⟨kop, knm, knu, kks, hka⟩ := k.d_agg
    have hkop : k.op = kop ∧ k.nm = knm := by obtain ⟨o, n, u, l⟩ := k; rw [Tr.d_mk] at hka; injection hka with hka; injection hka with hka1 hka; injection hka with hka2 hka; injection hka1 with _ hka1; injection hka2 with hka2; exact ⟨hka1, hka2⟩
    have hxa : (ks.map Tr.d)[0]? = some (.agg [.int .i64 kop, .str knm, .int .i64 knu, .sl (kks.map Tr.d)]) := by rw [hks, ← hka]; rfl
    have hlen : ks.length = r.length + 1 := by rw [hks]; rfl
    have hdr : List.drop (Int.toNat 1) (List.map Tr.d ks) = List.map Tr.d r := by rw [hks]; rfl
    have hne : ((ks.map Tr.d).length : Int) ≠ 0 := by rw [List.length_map]; omega
    refine Z60 ?_;refine Z73 ?_
    first | refine sgo rfl hsp (y_fieldAddr u27 rfl sz3) ?_ | refine sgo rfl hsp (y_fieldp_leaf u27 rfl sz3) ?_
    first | refine sgo rfl hsp (y_load_leaf u3) ?_ | refine sgo rfl hsp (y_loadp_leaf u3) ?_
    refine sgo rfl hsp y_neq ?_
    refine Z60 ?_;refine Z28 ?_
    refine sg rfl (fun hg => sP 40 rfl hg (qI u22 sz27)) ?_
    first | refine sg rfl (fun hg => sP 41 rfl hg (q_fieldAddr u27 rfl sz3)) ?_ | refine sg rfl (fun hg => sP 41 rfl hg (qF u27 rfl sz3)) ?_
    first | refine sg rfl (fun hg => sP 42 rfl hg (qO u3)) ?_ | refine sg rfl (fun hg => sP 42 rfl hg (qL u3)) ?_
    refine sg rfl (fun hg => sP 43 rfl hg q_neq) ?_
    refine sg rfl (fun hg => sP 44 rfl hg qM) ?_
    refine Z28 ?_
    refine sg rfl (fun hg => sP 46 rfl hg (qI u22 sz27)) ?_
    first | refine sg rfl (fun hg => sP 47 rfl hg (q_fieldAddr u27 rfl sz9)) ?_ | refine sg rfl (fun hg => sP 47 rfl hg (qF u27 rfl sz9)) ?_
    first | refine sg rfl (fun hg => sP 48 rfl hg (qO u9)) ?_ | refine sg rfl (fun hg => sP 48 rfl hg (qL u9)) ?_
    refine sg rfl (fun hg => sP 49 rfl hg q_streq) ?_
    refine sg rfl (fun hg => sP 45 rfl hg q_or) ?_
    refine sgo rfl hsp y_and ?_
    refine Z111 ?_
    refine zgC ?_ ?_ <;> intro hb2
    ·
     have hbad : varTy num ks = false := by
      obtain ⟨g1, g2⟩ := hkop
      rw [beq_eq_false_iff_ne.2 hne, Bool.false_or] at hb2
      rw [hks, varTy, varType, g1, g2]
      rw [show (kop != 31 && (kop != 30 || decide (knm = voidB))) = true from hb2]; rfl
     refine Z49 ?_;refine Z54 ?_;refine Z22 ?_;refine Z97 ?_
     refine hr _ ?_
     refine Z4 ?_
     exact ⟨by rw [varB, if_neg (by rw [hb0]; decide), if_pos hb1, hbad], rfl⟩
    have hgood : varTy num ks = varTail num r := by
     obtain ⟨g1, g2⟩ := hkop
     rw [beq_eq_false_iff_ne.2 hne, Bool.false_or] at hb2
     rw [hks, varTy, varType, g1, g2]
     rw [show (kop != 31 && (kop != 30 || decide (knm = voidB))) = false from hb2]; rfl
    refine gK (tN ?_)
    refine Z54 ?_;refine Z22 ?_;refine Z1 ?_
    refine vq rfl ((q_slicel u22 sz27 (Tr.ds_cells ks))) ?_
    rw [hdr]
    first | refine sv rfl y_assign_take ?_ | refine vq rfl qA ?_
    refine Z50 ?_
    refine hn _ r ⟨by rw [varB, if_neg (by rw [hb0]; decide), if_pos hb1, hgood], by omega⟩ le_of
   skip
   refine Z115 ?_;refine Z115 ?_;refine Z115 ?_;refine Z115 ?_;refine Z87 ?_;refine Z0 ?_;refine Z111 ?_
   refine zgC ?_ ?_ <;> intro hb3
   ·
    have hnil : varTy num ks = false := by
     cases ks with
     | nil => rfl
     | cons k r => exfalso; simp at hsp; omega
    refine Z49 ?_;refine Z54 ?_;refine Z22 ?_;refine Z97 ?_
    refine hr _ ?_
    refine Z4 ?_
    exact ⟨by rw [varB, if_neg (by rw [hb0]; decide), if_pos hb1, hnil], rfl⟩
   exfalso
   have h0 : (((ks.map Tr.d).length : Int) == 0) = true := by simpa using hsp
   exact absurd hb3 (by rw [h0, Bool.true_or]; decide)
  refine gK ?_
  refine hn _ ks ⟨by rw [varB, if_neg (by rw [hb0]; decide), if_neg (by rw [hb1]; decide)], h4⟩ le_of
 obtain ⟨hl1, hl2⟩ := hl
 refine zgS (zgS (gR ?_))
 first | refine sv rfl (y_fieldAt 2 u27 rfl sz3) ?_ | refine vq rfl (q_fieldAddr u27 rfl sz3) ?_ | refine vq rfl (qF u27 rfl sz3) ?_
 first | refine sv rfl (y_load_leaf u3) ?_ | refine vq rfl (qL u3) ?_
 refine vq rfl (q_bits (show _ = pure (Value.int .i64 (andI _ _)) from rfl)) ?_
 refine Z72 ?_;refine Z12 ?_
 refine zgC ?_ ?_ <;> intro hb4
 ·
  refine zgS (zgS (gR ?_))
  refine Z1 ?_;refine Z39 ?_;refine Z29 ?_;refine Z1 ?_
  refine g_split 63 false (fun hsp => ?_) (fun hsp => ?_)
  ·
   obtain ⟨k, r, hks⟩ : ∃ k r, l = k :: r := by
    cases hks : l with
    | nil => exfalso; rw [hks] at hsp; exact absurd hsp (by decide)
    | cons k r => exact ⟨k, r, rfl⟩
   obtain ⟨kop, knm, knu, kks, hka⟩ := k.d_agg
   have hkop : k.op = kop ∧ k.nm = knm := by obtain ⟨o, n, u, l⟩ := k; rw [Tr.d_mk] at hka; injection hka with hka; injection hka with hka1 hka; injection hka with hka2 hka; injection hka1 with _ hka1; injection hka2 with hka2; exact ⟨hka1, hka2⟩
   have hxa : (l.map Tr.d)[0]? = some (.agg [.int .i64 kop, .str knm, .int .i64 knu, .sl (kks.map Tr.d)]) := by rw [hks, ← hka]; rfl
   have hlen : l.length = r.length + 1 := by rw [hks]; rfl
   have hdr : List.drop (Int.toNat 1) (List.map Tr.d l) = List.map Tr.d r := by rw [hks]; rfl
   have hne : ((l.map Tr.d).length : Int) ≠ 0 := by rw [List.length_map]; omega
   refine Z60 ?_;refine Z73 ?_
   first | refine sgo rfl hsp (y_fieldAddr u27 rfl sz3) ?_ | refine sgo rfl hsp (y_fieldp_leaf u27 rfl sz3) ?_
   first | refine sgo rfl hsp (y_load_leaf u3) ?_ | refine sgo rfl hsp (y_loadp_leaf u3) ?_
   refine g_callo (xs := [.tmp 67]) rfl hsp (c74 kop) ?_
   refine sgo rfl hsp y_not ?_
   refine Z111 ?_
   refine zgC ?_ ?_ <;> intro hb5
   ·
    have hx : varTail num l = false := by
     rw [beq_eq_false_iff_ne.2 hne, Bool.false_or] at hb5
     unfold varTail
     rw [if_pos hb4, hks]
     obtain ⟨g1, g2⟩ := hkop
     simp [g1] at hb5 ⊢
     simp [hb5]
    refine Z49 ?_;refine Z54 ?_;refine Z22 ?_;refine Z2 ?_
    refine gN (tN (gT (tR (tR ?_))))
    refine Z4 ?_
    exact ⟨by rw [hl1, hx], rfl⟩
   have hx : varTail num l = ((r.length : Int) == 0) := by
    rw [beq_eq_false_iff_ne.2 hne, Bool.false_or] at hb5
    unfold varTail
    rw [if_pos hb4, hks]
    obtain ⟨g1, g2⟩ := hkop
    simp [g1] at hb5 ⊢
    simp [hb5]
   refine gK (tN ?_)
   refine Z54 ?_;refine Z22 ?_;refine Z1 ?_
   refine vq rfl ((q_slicel u22 sz27 (Tr.ds_cells l))) ?_
   rw [hdr]
   first | refine sv rfl y_assign_take ?_ | refine vq rfl qA ?_
   refine Z7 ?_;refine Z1 ?_;refine Z39 ?_;refine Z29 ?_;refine Z85 ?_
   exact ⟨by rw [hl1, hx]; simp, rfl⟩
  skip
  refine Z115 ?_;refine Z87 ?_;refine Z111 ?_
  refine zgC ?_ ?_ <;> intro hb6
  ·
   have hx : varTail num l = false := by
    cases l with
    | nil => unfold varTail; rw [if_pos hb4]
    | cons k r => exfalso; simp at hsp; omega
   refine Z49 ?_;refine Z54 ?_;refine Z22 ?_;refine Z2 ?_
   refine gN (tN (gT (tR (tR ?_))))
   refine Z4 ?_
   exact ⟨by rw [hl1, hx], rfl⟩
  exfalso
  have h0 : (((l.map Tr.d).length : Int) == 0) = true := by simpa using hsp
  exact absurd hb6 (by rw [h0, Bool.true_or]; decide)
 refine gK (tN (zgS (gR ?_)))
 refine Z1 ?_;refine Z39 ?_;refine Z29 ?_;refine Z85 ?_
 exact ⟨by rw [hl1]; unfold varTail; rw [if_neg (by rw [hb4]; decide)]; simp, rfl⟩
theorem decode_wide (b : ByteArray) (i : Nat) : 0 < (Utf8.decode b i).2 := by
 unfold Utf8.decode
 dsimp only
 repeat' split
 all_goals first | decide | simp
def idxRune (p : Int → Bool) (b : ByteArray) (pos : Nat) : Int :=
 if pos < b.size then (if p (Utf8.decode b pos).1 = true then (pos : Int) else idxRune p b (pos + (Utf8.decode b pos).2)) else -1
termination_by b.size - pos
decreasing_by have := decode_wide b pos; omega
variable {pos : Nat}
theorem idxRune_end {p : Int → Bool} {b : ByteArray} (h : ¬ pos < b.size) : idxRune p b pos = -1 := by rw [idxRune, if_neg h]
theorem idxRune_hit {p : Int → Bool} {b : ByteArray} (h : pos < b.size) (h2 : p (Utf8.decode b pos).1 = true) : idxRune p b pos = pos := by rw [idxRune, if_pos h, if_pos h2]
theorem idxRune_miss {p : Int → Bool} {b : ByteArray} (h : pos < b.size) (h2 : p (Utf8.decode b pos).1 = false) : idxRune p b (pos + (Utf8.decode b pos).2) = idxRune p b pos := by
 rw [idxRune.eq_1 p b pos, if_pos h, if_neg (by rw [h2]; decide)]
def badR (r : Int) : Bool := decide (r < 32) || decide (r > 126)
def plainTx (s : ByteArray) : Bool := !decide (idxRune badR s 0 ≥ 0)
theorem c284 (r : Int) : Pf Try.prog 98 [.int .i32 r] (.d (.bool (badR r))) := by
 refine pf_body (rvs := [.tmp 2]) [(0, .d (.int .i32 r))] Try.func98 Try.ntmps98 Try.results98 (fun S0 O0 w0 m0 hm0 => ?_)
 refine Z100 ?_;refine Z44 ?_;refine Z113 ?_
 refine sg rfl (fun hg => sP 6 rfl hg q_gtr) ?_
 refine Z16 ?_;refine Z85 ?_
 exact ⟨rfl, rfl⟩
theorem c322 (s : ByteArray) (g : FuncId) (p : Int → Bool) (hcb : ∀ r, Pf Try.prog g [.int .i32 r] (.d (.bool (p r)))) : Pf Try.prog 105 [.str s, .fn (.func g) [] [], .bool true] (.d (.int .i64 (idxRune p s 0))) := by
 refine pf_body (rvs := [.tmp 6]) [(0, .d (.str s)), (1, .d (.fn (.func g) [] [])), (2, .d (.bool true))] Try.func105 Try.ntmps105 Try.results105 (fun S0 O0 w0 m0 hm0 => ?_)
 refine Z5 ?_;refine Z96 ?_;refine Z1 ?_
 refine sv rfl (y_rangeStr u9) ?_
 refine Z41 ?_
 refine g_loop (α := Nat) (fun z => ⟨[(10, .ref 0 0), (1, .d (.fn (.func g) [] [])), (2, .d (.bool true))], [[.mapc (iterK s z)]]⟩) (fun z => s.size - z) (fun z => idxRune p s z = idxRune p s 0) 0 rfl (fun z hz Q' hn0 he0 hr0 => ?_) (le_of)
 skip
 refine Z49 ?_
 rcases Nat.lt_or_ge z s.size with hlt | hge
 ·
  refine Z22 ?_
  refine sv rfl (y_next (b := s) (pos := z) (hlt := hlt)) ?_
  refine Z43 ?_;refine Z35 ?_
  refine zgC ?_ ?_ <;> intro hb0
  ·
   refine gK (tN (G_block (zgS (gR ?_))))
   refine Z43 ?_;refine Z43 ?_;refine Z2 ?_;refine Z90 ?_;refine Z1 ?_
   refine gL (xs := [.tmp 16]) rfl (hcb _) ?_
   refine Z1 ?_
   refine vq rfl (q_booleq u4) ?_
   refine Z12 ?_
   refine zgC ?_ ?_ <;> intro hb1
   ·
    refine Z101 ?_;refine Z2 ?_
    refine gN (tN (gT (bR ?_)))
    refine Z70 ?_;refine Z67 ?_;refine Z4 ?_
    exact ⟨by rw [← hz, idxRune_hit hlt (by simpa using hb1)], rfl⟩
   refine gK (bN ?_)
   refine hn0 _ (z + (Utf8.decode s z).2) (by rw [idxRune_miss hlt (by simpa using hb1)]; exact hz) (by have := decode_wide s z; omega) le_of
  cases hb0
 refine Z22 ?_
 refine sv rfl (y_nextEnd (b := s) (pos := z) (hlt := by omega)) ?_
 refine Z43 ?_;refine Z35 ?_
 refine zgC ?_ ?_ <;> intro hb2
 · cases hb2
 refine Z118 ?_;refine Z85 ?_
 exact ⟨by rw [← hz, idxRune_end (by omega)], rfl⟩
theorem c318 (s : ByteArray) (g : FuncId) (p : Int → Bool) (hcb : ∀ r, Pf Try.prog g [.int .i32 r] (.d (.bool (p r)))) : Pf Try.prog 103 [.str s, .fn (.func g) [] []] (.d (.int .i64 (idxRune p s 0))) := by
 refine pf_body (rvs := [.tmp 4]) [(0, .d (.str s)), (1, .d (.fn (.func g) [] []))] Try.func103 Try.ntmps103 Try.results103 (fun S0 O0 w0 m0 hm0 => ?_)
 refine Z100 ?_;refine Z1 ?_
 refine gL (xs := [.tmp 5, .tmp 6, .const (.bool true)]) rfl (c322 s g p hcb) ?_
 refine Z85 ?_
 exact ⟨rfl, rfl⟩
theorem c283 (s : ByteArray) (g : FuncId) (p : Int → Bool) (hcb : ∀ r, Pf Try.prog g [.int .i32 r] (.d (.bool (p r)))) : Pf Try.prog 97 [.str s, .fn (.func g) [] []] (.d (.bool (decide (idxRune p s 0 ≥ 0)))) := by
 refine pf_body (rvs := [.tmp 4]) [(0, .d (.str s)), (1, .d (.fn (.func g) [] []))] Try.func97 Try.ntmps97 Try.results97 (fun S0 O0 w0 m0 hm0 => ?_)
 refine Z100 ?_;refine Z1 ?_
 refine gL (xs := [.tmp 5, .tmp 6]) rfl (c318 s g p hcb) ?_
 refine Z58 ?_;refine Z85 ?_
 exact ⟨rfl, rfl⟩
end
section
def qmB : ByteArray := ⟨#[63]⟩
def typedB : Tr → Bool
 | .mk op name num ks => ((op == 30 && num == 0) && (ks.length : Int) == 0) && nameB (trimB name qmB)
def opTab : List (ByteArray × ByteArray × ByteArray × Int) :=
 [(⟨#[114, 101, 97, 100, 70, 69]⟩, ⟨#[115, 121, 110, 99]⟩, ⟨#[105, 110, 116]⟩, 0),
  (⟨#[114, 101, 97, 100, 70, 70]⟩, ⟨#[115, 121, 110, 99]⟩, ⟨#[105, 110, 116]⟩, 0),
  (⟨#[114, 101, 97, 100, 88, 88]⟩, ⟨#[115, 121, 110, 99]⟩, ⟨#[105, 110, 116]⟩, 0),
  (⟨#[105, 115, 70, 117, 108, 108]⟩, ⟨#[115, 121, 110, 99]⟩, ⟨#[98, 111, 111, 108]⟩, 0),
  (⟨#[114, 101, 115, 101, 116]⟩, ⟨#[115, 121, 110, 99]⟩, ⟨#[118, 111, 105, 100]⟩, 0),
  (⟨#[119, 114, 105, 116, 101, 69, 70]⟩, ⟨#[115, 121, 110, 99]⟩, ⟨#[118, 111, 105, 100]⟩, 1),
  (⟨#[119, 114, 105, 116, 101, 70, 70]⟩, ⟨#[115, 121, 110, 99]⟩, ⟨#[118, 111, 105, 100]⟩, 1),
  (⟨#[119, 114, 105, 116, 101, 88, 70]⟩, ⟨#[115, 121, 110, 99]⟩, ⟨#[118, 111, 105, 100]⟩, 1),
  (⟨#[114, 101, 97, 100]⟩, ⟨#[97, 116, 111, 109, 105, 99]⟩, ⟨#[105, 110, 116]⟩, 0),
  (⟨#[119, 114, 105, 116, 101]⟩, ⟨#[97, 116, 111, 109, 105, 99]⟩, ⟨#[118, 111, 105, 100]⟩, 1),
  (⟨#[97, 100, 100]⟩, ⟨#[97, 116, 111, 109, 105, 99]⟩, ⟨#[118, 111, 105, 100]⟩, 1),
  (⟨#[102, 101, 116, 99, 104, 65, 100, 100]⟩, ⟨#[97, 116, 111, 109, 105, 99]⟩, ⟨#[105, 110, 116]⟩, 1),
  (⟨#[101, 120, 99, 104, 97, 110, 103, 101]⟩, ⟨#[97, 116, 111, 109, 105, 99]⟩, ⟨#[105, 110, 116]⟩, 1),
  (⟨#[99, 111, 109, 112, 97, 114, 101, 65, 110, 100, 83, 119, 97, 112]⟩, ⟨#[97, 116, 111, 109, 105, 99]⟩, ⟨#[98, 111, 111, 108]⟩, 2)]
def opVal (x : ByteArray × ByteArray × Int) : D := .agg [.str x.1, .str x.2.1, .int .i64 x.2.2]
def opsM : List (D × D) := opTab.map fun x => (.str x.1, opVal x.2)
def opGet (name : ByteArray) : ByteArray × ByteArray × Int := match opTab.find? (fun x => decide (x.1 = name)) with | some x => x.2 | none => (⟨#[]⟩, ⟨#[]⟩, 0)
def opHas (name : ByteArray) : Bool := opTab.any fun x => decide (x.1 = name)
theorem mget_ops (name : ByteArray) : mget opsM (.str name) (.agg [.str ⟨#[]⟩, .str ⟨#[]⟩, .int .i64 0]) = opVal (opGet name) := by
 have h : (opTab.find? ((fun x : D × D => x.1.keyEq (.str name)) ∘ fun x => (D.str x.1, opVal x.2))) = opTab.find? (fun x => decide (x.1 = name)) := rfl
 unfold mget opGet opsM
 rw [List.find?_map, h]
 cases opTab.find? (fun x => decide (x.1 = name)) <;> rfl
theorem mhas_ops (name : ByteArray) : mhas opsM (.str name) = opHas name := by
 unfold mhas opHas opsM
 rw [List.any_map]; rfl
theorem opGet_takes (name : ByteArray) : 0 ≤ (opGet name).2.2 ∧ (opGet name).2.2 ≤ 2 := by
 have hall : (opTab.all fun x => decide (0 ≤ x.2.2.2) && decide (x.2.2.2 ≤ 2)) = true := by decide
 unfold opGet
 cases h : opTab.find? (fun x => decide (x.1 = name)) with
 | none => exact ⟨by decide, by decide⟩
 | some x =>
  have := List.all_eq_true.1 hall x (List.mem_of_find?_eq_some h)
  rw [Bool.and_eq_true, decide_eq_true_eq, decide_eq_true_eq] at this
  exact this
theorem c168 (t : Tr) : Pf Try.prog 100 [t.d] (.d (.bool (typedB t))) := by
 obtain ⟨op, name, num, ks⟩ := t
 rw [Tr.d_mk]
 try simp only [Tr.op_mk, Tr.nm_mk, Tr.nu_mk, Tr.kids_mk]
 refine pf_body (rvs := [.tmp 2]) [(0, .d (.agg [.int .i64 op, .str name, .int .i64 num, .sl (ks.map Tr.d)]))] Try.func100 Try.ntmps100 Try.results100 (fun S0 O0 w0 m0 hm0 => ?_)
 refine Z110 ?_
 first | refine sv rfl (y_fieldAt 0 u27 rfl sz3) ?_ | refine vq rfl (q_fieldAddr u27 rfl sz3) ?_ | refine vq rfl (qF u27 rfl sz3) ?_
 first | refine sv rfl (y_load_leaf u3) ?_ | refine vq rfl (qL u3) ?_
 refine Z29 ?_;refine Z1 ?_
 first | refine sg rfl (fun hg => q_fieldAddr u27 rfl sz3) ?_ | refine sg rfl (fun hg => qF u27 rfl sz3) ?_
 first | refine sg rfl (fun hg => sP 7 rfl hg (qO u3)) ?_ | refine sg rfl (fun hg => sP 7 rfl hg (qL u3)) ?_
 refine sg rfl (fun hg => sP 8 rfl hg q_eql) ?_
 refine Z18 ?_;refine Z1 ?_
 first | refine sg rfl (fun hg => q_fieldAddr u27 rfl sz22) ?_ | refine sg rfl (fun hg => qF u27 rfl sz22) ?_
 first | refine sg rfl (fun hg => sP 12 rfl hg (qO u22)) ?_ | refine sg rfl (fun hg => sP 12 rfl hg (qL u22)) ?_
 refine sg rfl (fun hg => sP 13 rfl hg (q_len u22)) ?_
 refine sg rfl (fun hg => sP 14 rfl hg q_eql) ?_
 refine Z18 ?_;refine Z1 ?_
 first | refine sg rfl (fun hg => q_fieldAddr u27 rfl sz9) ?_ | refine sg rfl (fun hg => qF u27 rfl sz9) ?_
 first | refine sg rfl (fun hg => sP 18 rfl hg (qO u9)) ?_ | refine sg rfl (fun hg => sP 18 rfl hg (qL u9)) ?_
 refine g_callg (xs := [.tmp 19, .const (.string ⟨#[63]⟩)]) rfl (fun hg => c235 name qmB) ?_
 refine g_callg (xs := [.tmp 20]) rfl (fun hg => c167 _) ?_
 refine Z114 ?_
 exact ⟨by rw [typedB]; simp, rfl⟩
set_option maxHeartbeats 4000000 in
theorem c224  : Pf Try.prog 87 [] (.d (.map opsM)) := by
 refine pf_body (rvs := [.tmp 0]) [] Try.func87 Try.ntmps87 Try.results87 (fun S0 O0 w0 m0 hm0 => ?_)
 refine Z5 ?_;refine Z84 ?_
 refine sv rfl y_makeMap ?_
 refine Z104 ?_;refine Z104 ?_;refine Z104 ?_;refine Z104 ?_;refine Z104 ?_;refine Z104 ?_;refine Z104 ?_;refine Z104 ?_;refine Z104 ?_;refine Z104 ?_;refine Z104 ?_;refine Z104 ?_;refine Z104 ?_;refine Z104 ?_;refine Z1 ?_;refine Z2 ?_
 refine g_freezeM 0 [] rfl ?_
 refine Z8 ?_;refine Z4 ?_
 exact ⟨rfl, rfl⟩
def eee : ByteArray := ⟨#[101, 101, 101]⟩
def e1 : ByteArray := ⟨#[101]⟩
def bcB : ByteArray := ⟨#[98, 108, 111, 99, 107, 99, 121, 99, 108, 105, 99]⟩
def blB : ByteArray := ⟨#[98, 108, 111, 99, 107]⟩
def cyB : ByteArray := ⟨#[99, 121, 99, 108, 105, 99]⟩
def haB : ByteArray := ⟨#[104, 97, 115, 104, 101, 100]⟩
def otherB : Tr → Bool × Bool
 | .mk op name num ks =>
  if (op == 3) = true then (((num == 0 && (ks.length : Int) == 0) && decide ((name.size : Int) ≤ 200)) && plainTx name, true)
  else if (op == 4) = true then ((nameB name && num == 0) && (ks.length : Int) == 0, true)
  else if (op == 30) = true then (typedB (.mk op name num ks), true)
  else if (op == 50) = true then (varB (.mk op name num ks), true)
  else if (op == 13) = true then ((nameB name && num == 0) && everyB (fun op => isExprB op || op == 30) ks, true)
  else if (op == 15) = true then ((opHas name && num == 0) && kidsB ks (eee.extract 0 ((opGet name).2.2 + 1).toNat), true)
  else if (op == 11) = true then
   (if (decide (name = bcB)) = true then (num == 0 && kidsB ks ee) else (num == 0 && ((decide (name = blB) || decide (name = cyB)) || decide (name = haB))) && kidsB ks e1, true)
  else (false, false)
set_option maxHeartbeats 8000000 in
theorem c234 (t : Tr) (hok : t.Ok) : Pf Try.prog 89 [t.d] (.tup [.d (.bool (otherB t).1), .d (.bool (otherB t).2)]) := by
 obtain ⟨op, name, num, ks⟩ := t
 rw [Tr.d_mk]
 try simp only [Tr.op_mk, Tr.nm_mk, Tr.nu_mk, Tr.kids_mk]
 refine pf_body (rvs := [.tmp 2, .tmp 3]) [(0, .d (.agg [.int .i64 op, .str name, .int .i64 num, .sl (ks.map Tr.d)]))] Try.func89 Try.ntmps89 Try.results89 (fun S0 O0 w0 m0 hm0 => ?_)
 refine Z92 ?_;refine Z2 ?_;refine Z96 ?_
 first | refine sv rfl (y_fieldAt 0 u27 rfl sz3) ?_ | refine vq rfl (q_fieldAddr u27 rfl sz3) ?_ | refine vq rfl (qF u27 rfl sz3) ?_
 first | refine sv rfl (y_load_leaf u3) ?_ | refine vq rfl (qL u3) ?_
 refine gN (tN (G_block (zgS (gR ?_))))
 refine Z29 ?_;refine Z116 ?_
 refine zgC ?_ ?_ <;> intro hb0
 ·
  refine Z5 ?_
  first | refine sv rfl (y_fieldAt 1 u27 rfl sz9) ?_ | refine vq rfl (q_fieldAddr u27 rfl sz9) ?_ | refine vq rfl (qF u27 rfl sz9) ?_
  first | refine sv rfl (y_load_leaf u9) ?_ | refine vq rfl (qL u9) ?_
  refine gL (xs := [.tmp 12, .func 98]) rfl (c283 name 98 badR c284) ?_
  refine Z47 ?_;refine Z2 ?_;refine Z35 ?_;refine Z76 ?_;refine Z22 ?_
  first | refine sv rfl (y_fieldAt 2 u27 rfl sz3) ?_ | refine vq rfl (q_fieldAddr u27 rfl sz3) ?_ | refine vq rfl (qF u27 rfl sz3) ?_
  first | refine sv rfl (y_load_leaf u3) ?_ | refine vq rfl (qL u3) ?_
  refine Z29 ?_;refine Z1 ?_
  first | refine sg rfl (fun hg => q_fieldAddr u27 rfl sz22) ?_ | refine sg rfl (fun hg => qF u27 rfl sz22) ?_
  first | refine sg rfl (fun hg => sP 19 rfl hg (qO u22)) ?_ | refine sg rfl (fun hg => sP 19 rfl hg (qL u22)) ?_
  refine sg rfl (fun hg => sP 20 rfl hg (q_len u22)) ?_
  refine sg rfl (fun hg => sP 21 rfl hg q_eql) ?_
  refine Z18 ?_;refine Z1 ?_
  first | refine sg rfl (fun hg => q_fieldAddr u27 rfl sz9) ?_ | refine sg rfl (fun hg => qF u27 rfl sz9) ?_
  first | refine sg rfl (fun hg => sP 25 rfl hg (qO u9)) ?_ | refine sg rfl (fun hg => sP 25 rfl hg (qL u9)) ?_
  refine sg rfl (fun hg => sP 26 rfl hg (q_lenstr u9)) ?_
  refine sg rfl (fun hg => sP 27 rfl hg q_leq) ?_
  refine Z18 ?_;refine Z113 ?_;refine Z18 ?_;refine Z2 ?_;refine Z103 ?_;refine Z55 ?_
  exact ⟨by rw [otherB, if_pos hb0]; simp [plainTx], rfl⟩
 refine Z5 ?_;refine Z29 ?_;refine Z116 ?_
 refine zgC ?_ ?_ <;> intro hb1
 ·
  refine Z5 ?_
  first | refine sv rfl (y_fieldAt 1 u27 rfl sz9) ?_ | refine vq rfl (q_fieldAddr u27 rfl sz9) ?_ | refine vq rfl (qF u27 rfl sz9) ?_
  first | refine sv rfl (y_load_leaf u9) ?_ | refine vq rfl (qL u9) ?_
  refine gL (xs := [.tmp 36]) rfl (c167 name) ?_
  refine Z1 ?_
  first | refine sg rfl (fun hg => q_fieldAddr u27 rfl sz3) ?_ | refine sg rfl (fun hg => qF u27 rfl sz3) ?_
  first | refine sg rfl (fun hg => sP 39 rfl hg (qO u3)) ?_ | refine sg rfl (fun hg => sP 39 rfl hg (qL u3)) ?_
  refine sg rfl (fun hg => sP 40 rfl hg q_eql) ?_
  refine Z18 ?_;refine Z1 ?_
  first | refine sg rfl (fun hg => q_fieldAddr u27 rfl sz22) ?_ | refine sg rfl (fun hg => qF u27 rfl sz22) ?_
  first | refine sg rfl (fun hg => sP 44 rfl hg (qO u22)) ?_ | refine sg rfl (fun hg => sP 44 rfl hg (qL u22)) ?_
  refine sg rfl (fun hg => sP 45 rfl hg (q_len u22)) ?_
  refine sg rfl (fun hg => sP 46 rfl hg q_eql) ?_
  refine Z18 ?_;refine Z2 ?_;refine Z103 ?_;refine Z55 ?_
  exact ⟨by rw [otherB, if_neg (by rw [hb0]; decide), if_pos hb1]; simp, rfl⟩
 refine Z5 ?_;refine Z29 ?_;refine Z116 ?_
 refine zgC ?_ ?_ <;> intro hb2
 ·
  refine Z5 ?_
  first | refine sv rfl (y_load_agg sz27 u27 rfl) ?_ | refine vq rfl (qG (by exact sz27) u27 rfl) ?_
  refine gL (xs := [.tmp 51]) rfl ((Tr.d_mk op name num ks ▸ c168 (.mk op name num ks))) ?_
  refine Z2 ?_;refine Z103 ?_;refine Z55 ?_
  exact ⟨by rw [otherB, if_neg (by rw [hb0]; decide), if_neg (by rw [hb1]; decide), if_pos hb2], rfl⟩
 refine Z5 ?_;refine Z29 ?_;refine Z116 ?_
 refine zgC ?_ ?_ <;> intro hb3
 ·
  refine Z49 ?_;refine Z76 ?_;refine Z22 ?_
  first | refine sv rfl (y_load_agg sz27 u27 rfl) ?_ | refine vq rfl (qG (by exact sz27) u27 rfl) ?_
  refine gL (xs := [.tmp 55]) rfl ((Tr.d_mk op name num ks ▸ c285 (.mk op name num ks) hok)) ?_
  refine Z2 ?_;refine Z103 ?_;refine Z55 ?_
  exact ⟨by rw [otherB, if_neg (by rw [hb0]; decide), if_neg (by rw [hb1]; decide), if_neg (by rw [hb2]; decide), if_pos hb3], rfl⟩
 refine Z49 ?_;refine Z76 ?_;refine Z22 ?_;refine Z29 ?_;refine Z116 ?_
 refine zgC ?_ ?_ <;> intro hb4
 ·
  refine Z5 ?_
  first | refine sv rfl (y_fieldAt 1 u27 rfl sz9) ?_ | refine vq rfl (q_fieldAddr u27 rfl sz9) ?_ | refine vq rfl (qF u27 rfl sz9) ?_
  first | refine sv rfl (y_load_leaf u9) ?_ | refine vq rfl (qL u9) ?_
  refine gL (xs := [.tmp 60]) rfl (c167 name) ?_
  refine Z1 ?_
  first | refine sg rfl (fun hg => q_fieldAddr u27 rfl sz3) ?_ | refine sg rfl (fun hg => qF u27 rfl sz3) ?_
  first | refine sg rfl (fun hg => sP 63 rfl hg (qO u3)) ?_ | refine sg rfl (fun hg => sP 63 rfl hg (qL u3)) ?_
  refine sg rfl (fun hg => sP 64 rfl hg q_eql) ?_
  refine Z18 ?_;refine Z1 ?_
  first | refine sg rfl (fun hg => q_load_agg sz27 u27 rfl) ?_ | refine sg rfl (fun hg => qG (by exact sz27) u27 rfl) ?_
  refine g_callg (xs := [.tmp 68, .func 102]) rfl (fun hg => (Tr.d_mk op name num ks ▸ c159 (.mk op name num ks) 102 (fun op => isExprB op || op == 30) hok c286)) ?_
  refine Z18 ?_;refine Z2 ?_;refine Z103 ?_;refine Z55 ?_
  exact ⟨by rw [otherB, if_neg (by rw [hb0]; decide), if_neg (by rw [hb1]; decide), if_neg (by rw [hb2]; decide), if_neg (by rw [hb3]; decide), if_pos hb4]; simp [Tr.kids_mk], rfl⟩
 refine Z5 ?_;refine Z29 ?_;refine Z116 ?_
 refine zgC ?_ ?_ <;> intro hb5
 ·
  refine Z49 ?_
  obtain ⟨mo, mg, mt, hmo⟩ : ∃ mo mg mt, opGet name = (mo, mg, mt) := ⟨_, _, _, rfl⟩
  have hmt := opGet_takes name
  rw [hmo] at hmt
  replace hmt : 0 ≤ mt ∧ mt ≤ 2 := hmt
  have hmg := mget_ops name
  rw [hmo] at hmg
  refine g_cg [74, 75, 76, 77, 73, 78, 79, 5, 6] (fun b => cond (b 7) ([] ++ [cond (b 8) [.d (.str mo), .d (.str mg), .d (.int .i64 mt)] [.d (.str ⟨#[]⟩), .d (.str ⟨#[]⟩), .d (.int .i64 0)]]) []) rfl ?_
  refine Z82 ?_
  refine cS 1 (fun b rest hc1 hc2 hc3 => gL (xs := []) rfl (c224) (gN ⟨rfl, rfl⟩)) ?_
  refine Z82 ?_
  first | refine cS 2 (fun b rest hc1 hc2 hc3 => sv rfl (y_fieldAt 1 u27 rfl sz9) (gN ⟨rfl, rfl⟩)) ?_ | refine cS 2 (fun b rest hc1 hc2 hc3 => vq rfl (q_fieldAddr u27 rfl sz9) (gN ⟨rfl, rfl⟩)) ?_ | refine cS 2 (fun b rest hc1 hc2 hc3 => vq rfl (qF u27 rfl sz9) (gN ⟨rfl, rfl⟩)) ?_
  refine cP [1] ?_
  first | refine cS 3 (fun b rest hc1 hc2 hc3 => sv rfl (y_load_leaf u9) (gN ⟨rfl, rfl⟩)) ?_ | refine cS 3 (fun b rest hc1 hc2 hc3 => vq rfl (qL u9) (gN ⟨rfl, rfl⟩)) ?_
  refine cP [0, 2] ?_
  refine cS 4 (fun b rest hc1 hc2 hc3 => vq rfl ((q_lookup2 (zd := .agg [.str ⟨#[]⟩, .str ⟨#[]⟩, .int .i64 0]) u122 u9 zr121)) (gN ⟨rfl, rfl⟩)) ?_
  rw [hmg, mhas_ops]
  unfold opVal
  refine cP [3] ?_
  refine cS 5 (fun b rest hc1 hc2 hc3 => vq rfl qM (gN ⟨rfl, rfl⟩)) ?_
  refine cP [4] ?_
  refine cS 6 (fun b rest hc1 hc2 hc3 => vq rfl qE (gN ⟨rfl, rfl⟩)) ?_
  refine cP [4] ?_
  refine cS 7 (fun b rest hc1 hc2 hc3 => vq rfl qE (gN ⟨rfl, rfl⟩)) ?_
  refine Z82 ?_
  refine cS 8 (fun b rest hc1 hc2 hc3 => by
   have hs := hc3.no 8 7 hc1
   have e1 : upd b 7 7 = true := rfl
   have e2 : upd b 7 8 = false := hs
   simp only [hc1, cond_false]
   refine sv rfl (y_alloc zr121) ?_
   exact (gN ⟨rfl, by rw [e1, e2]; rfl⟩)) ?_
  refine cP [7, 5, 0, 0, 1, 2, 3, 4, 5, 7] ?_
  refine cg_act 9 (fun b rest hc1 hc2 hc3 => by
   have ha := hc2 7 dep_in
   have e1 : upd b 8 7 = true := ha
   have e2 : upd b 8 8 = true := rfl
   simp only [ha, hc1, cond_true, cond_false]
   refine sa rfl (dS sz121) ?_
   exact (gN ⟨rfl, by rw [e1, e2]; rfl⟩)) ?_
  refine cP [6, 8, 0, 1, 2, 3, 4, 5, 6, 7, 8] ?_
  refine cS 10 (fun b rest hc1 hc2 hc3 => vq rfl qA (gN ⟨rfl, rfl⟩)) ?_
  refine cg_done ?_
  refine tN (zgS ?_)
  refine Z76 ?_
  refine g_cg0 [80, 81, 82, 83, 84, 85, 86, 87, 88, 89, 90, 91, 92, 93, 2, 3] ?_
  refine Z82 ?_
  refine cS 1 (fun b rest hc1 hc2 hc3 => vq rfl qM (gN ⟨rfl, rfl⟩)) ?_
  refine cP [0] ?_
  refine cS 2 (fun b rest hc1 hc2 hc3 => vq rfl qM (gN ⟨rfl, rfl⟩)) ?_
  refine cP [1] ?_
  first | refine cS 3 (fun b rest hc1 hc2 hc3 => sg rfl (fun hg => q_fieldAddr u27 rfl sz3) (gN ⟨rfl, rfl⟩)) ?_ | refine cS 3 (fun b rest hc1 hc2 hc3 => sg rfl (fun hg => qF u27 rfl sz3) (gN ⟨rfl, rfl⟩)) ?_
  refine cP [2, 1] ?_
  first | refine cS 4 (fun b rest hc1 hc2 hc3 => sg rfl (fun hg => sP 82 rfl hg (qO u3)) (gN ⟨rfl, rfl⟩)) ?_ | refine cS 4 (fun b rest hc1 hc2 hc3 => sg rfl (fun hg => sP 82 rfl hg (qL u3)) (gN ⟨rfl, rfl⟩)) ?_
  refine cP [3, 1] ?_
  refine cS 5 (fun b rest hc1 hc2 hc3 => sg rfl (fun hg => sP 83 rfl hg q_eql) (gN ⟨rfl, rfl⟩)) ?_
  refine cP [1, 4] ?_
  refine cS 6 (fun b rest hc1 hc2 hc3 => vq rfl q_and (gN ⟨rfl, rfl⟩)) ?_
  refine cP [5, 1] ?_
  refine cS 7 (fun b rest hc1 hc2 hc3 => vq rfl qM (gN ⟨rfl, rfl⟩)) ?_
  refine cP [6] ?_
  first | refine cS 8 (fun b rest hc1 hc2 hc3 => sg rfl (fun hg => q_load_agg sz27 u27 rfl) (gN ⟨rfl, rfl⟩)) ?_ | refine cS 8 (fun b rest hc1 hc2 hc3 => sg rfl (fun hg => qG (by exact sz27) u27 rfl) (gN ⟨rfl, rfl⟩)) ?_
  refine cP [6] ?_
  first | refine cS 9 (fun b rest hc1 hc2 hc3 => sg rfl (fun hg => q_fieldAddr u121 rfl sz3) (gN ⟨rfl, rfl⟩)) ?_ | refine cS 9 (fun b rest hc1 hc2 hc3 => sg rfl (fun hg => qF u121 rfl sz3) (gN ⟨rfl, rfl⟩)) ?_
  refine cP [8, 6] ?_
  first | refine cS 10 (fun b rest hc1 hc2 hc3 => sg rfl (fun hg => sP 88 rfl hg (qO u3)) (gN ⟨rfl, rfl⟩)) ?_ | refine cS 10 (fun b rest hc1 hc2 hc3 => sg rfl (fun hg => sP 88 rfl hg (qL u3)) (gN ⟨rfl, rfl⟩)) ?_
  refine cP [9, 6] ?_
  refine cS 11 (fun b rest hc1 hc2 hc3 => sg rfl (fun hg => sP 89 rfl hg q_add) (gN ⟨rfl, rfl⟩)) ?_
  refine cP [10, 6] ?_
  refine cS 12 (fun b rest hc1 hc2 hc3 => sg rfl (fun hg => sP 90 rfl hg (q_strh u9 (h1 := by show mt + 1 ≤ 3; omega))) (gN ⟨rfl, rfl⟩)) ?_
  refine cP [7, 11, 6, 6] ?_
  refine cS 13 (fun b rest hc1 hc2 hc3 => g_callg (xs := [.tmp 87, .tmp 91]) rfl (fun hg => (Tr.d_mk op name num ks ▸ c156 (.mk op name num ks) (eee.extract 0 (mt + 1).toNat) hok)) (gN ⟨rfl, rfl⟩)) ?_
  refine cP [6, 12] ?_
  refine cS 14 (fun b rest hc1 hc2 hc3 => vq rfl q_and (gN ⟨rfl, rfl⟩)) ?_
  refine cP [13, 12, 0, 1, 2, 3, 4, 5, 6, 7, 8, 9, 10, 11, 12, 13] ?_
  refine cS 15 (fun b rest hc1 hc2 hc3 => vq rfl qA (gN ⟨rfl, rfl⟩)) ?_
  refine cP [14, 0, 1, 2, 3, 4, 5, 6, 7, 8, 9, 10, 11, 12, 13, 14] ?_
  refine cS 16 (fun b rest hc1 hc2 hc3 => vq rfl qA (gN ⟨rfl, rfl⟩)) ?_
  refine cg_done ?_
  refine tN (gT (bR (tR ?_)))
  refine Z55 ?_
  exact ⟨by rw [otherB, if_neg (by rw [hb0]; decide), if_neg (by rw [hb1]; decide), if_neg (by rw [hb2]; decide), if_neg (by rw [hb3]; decide), if_neg (by rw [hb4]; decide), if_pos hb5]; rw [hmo]; rfl, rfl⟩
 refine Z5 ?_;refine Z29 ?_;refine Z116 ?_
 refine zgC ?_ ?_ <;> intro hb6
 ·
  refine zgS (zgS (gR ?_))
  first | refine sv rfl (y_fieldAt 1 u27 rfl sz9) ?_ | refine vq rfl (q_fieldAddr u27 rfl sz9) ?_ | refine vq rfl (qF u27 rfl sz9) ?_
  first | refine sv rfl (y_load_leaf u9) ?_ | refine vq rfl (qL u9) ?_
  refine vq rfl q_streq ?_
  refine Z12 ?_
  refine zgC ?_ ?_ <;> intro hb7
  ·
   refine Z5 ?_
   first | refine sv rfl (y_fieldAt 2 u27 rfl sz3) ?_ | refine vq rfl (q_fieldAddr u27 rfl sz3) ?_ | refine vq rfl (qF u27 rfl sz3) ?_
   first | refine sv rfl (y_load_leaf u3) ?_ | refine vq rfl (qL u3) ?_
   refine Z29 ?_;refine Z1 ?_
   first | refine sg rfl (fun hg => q_load_agg sz27 u27 rfl) ?_ | refine sg rfl (fun hg => qG (by exact sz27) u27 rfl) ?_
   refine g_callg (xs := [.tmp 103, .const (.string ⟨#[101, 101]⟩)]) rfl (fun hg => (Tr.d_mk op name num ks ▸ c156 (.mk op name num ks) ee hok)) ?_
   refine Z18 ?_;refine Z2 ?_;refine Z2 ?_
   refine gN (tN (gT (tR (bR (tR ?_)))))
   refine Z55 ?_
   exact ⟨by rw [otherB, if_neg (by rw [hb0]; decide), if_neg (by rw [hb1]; decide), if_neg (by rw [hb2]; decide), if_neg (by rw [hb3]; decide), if_neg (by rw [hb4]; decide), if_neg (by rw [hb5]; decide), if_pos hb6]; rw [if_pos (show decide (name = bcB) = true from hb7)]; rfl, rfl⟩
  refine gK (tN (zgS (gR ?_)))
  first | refine sv rfl (y_fieldAt 2 u27 rfl sz3) ?_ | refine vq rfl (q_fieldAddr u27 rfl sz3) ?_ | refine vq rfl (qF u27 rfl sz3) ?_
  first | refine sv rfl (y_load_leaf u3) ?_ | refine vq rfl (qL u3) ?_
  refine Z29 ?_;refine Z1 ?_
  first | refine sg rfl (fun hg => q_fieldAddr u27 rfl sz9) ?_ | refine sg rfl (fun hg => qF u27 rfl sz9) ?_
  first | refine sg rfl (fun hg => sP 110 rfl hg (qO u9)) ?_ | refine sg rfl (fun hg => sP 110 rfl hg (qL u9)) ?_
  refine sg rfl (fun hg => sP 111 rfl hg q_streq) ?_
  refine sg rfl (fun hg => sP 112 rfl hg qM) ?_
  first | refine sg rfl (fun hg => q_fieldAddr u27 rfl sz9) ?_ | refine sg rfl (fun hg => qF u27 rfl sz9) ?_
  first | refine sg rfl (fun hg => sP 114 rfl hg (qO u9)) ?_ | refine sg rfl (fun hg => sP 114 rfl hg (qL u9)) ?_
  refine sg rfl (fun hg => sP 115 rfl hg q_streq) ?_
  refine sg rfl (fun hg => sP 113 rfl hg q_or) ?_
  refine sg rfl (fun hg => sP 117 rfl hg qM) ?_
  first | refine sg rfl (fun hg => q_fieldAddr u27 rfl sz9) ?_ | refine sg rfl (fun hg => qF u27 rfl sz9) ?_
  first | refine sg rfl (fun hg => sP 119 rfl hg (qO u9)) ?_ | refine sg rfl (fun hg => sP 119 rfl hg (qL u9)) ?_
  refine sg rfl (fun hg => sP 120 rfl hg q_streq) ?_
  refine sg rfl (fun hg => sP 118 rfl hg q_or) ?_
  refine Z18 ?_;refine Z1 ?_
  first | refine sg rfl (fun hg => q_load_agg sz27 u27 rfl) ?_ | refine sg rfl (fun hg => qG (by exact sz27) u27 rfl) ?_
  refine g_callg (xs := [.tmp 125, .const (.string ⟨#[101]⟩)]) rfl (fun hg => (Tr.d_mk op name num ks ▸ c156 (.mk op name num ks) e1 hok)) ?_
  refine Z18 ?_;refine Z2 ?_;refine Z103 ?_;refine Z55 ?_
  exact ⟨by rw [otherB, if_neg (by rw [hb0]; decide), if_neg (by rw [hb1]; decide), if_neg (by rw [hb2]; decide), if_neg (by rw [hb3]; decide), if_neg (by rw [hb4]; decide), if_neg (by rw [hb5]; decide), if_pos hb6]; rw [if_neg (show ¬ decide (name = bcB) = true from by rw [show decide (name = bcB) = false from hb7]; decide)]; rfl, rfl⟩
 refine gK (bN (tN (zgS (gR ?_))))
 refine Z2 ?_;refine Z83 ?_;refine Z55 ?_
 exact ⟨by rw [otherB, if_neg (by rw [hb0]; decide), if_neg (by rw [hb1]; decide), if_neg (by rw [hb2]; decide), if_neg (by rw [hb3]; decide), if_neg (by rw [hb4]; decide), if_neg (by rw [hb5]; decide), if_neg (by rw [hb6]; decide)], rfl⟩
end
section
structure Sh where
 names : Option (ByteArray × List ByteArray)
 num : Bool
 g : Nat
 caps : List D
 ok : Tr → Bool
def namesD : Option (ByteArray × List ByteArray) → D
 | none => .nilS
 | some x => .sl ((x.1 :: x.2).map .str)
def Sh.d (s : Sh) : D := .agg [namesD s.names, .bool s.num, .fn (.func s.g) [] s.caps]
def shapeTab : List (Int × Sh) :=
 [(1, ⟨none, true, 90, [.ptr (.sl ([⟨#[]⟩].map .str))], (formsB [⟨#[]⟩])⟩),
  (2, ⟨none, true, 69, [], rule154⟩),
  (5, ⟨(some (⟨#[45]⟩, [⟨#[33]⟩])), false, 90, [.ptr (.sl ([⟨#[101]⟩].map .str))], (formsB [⟨#[101]⟩])⟩),
  (6, ⟨(some (⟨#[43]⟩, [⟨#[45]⟩, ⟨#[42]⟩, ⟨#[47]⟩, ⟨#[37]⟩, ⟨#[61, 61]⟩, ⟨#[33, 61]⟩, ⟨#[60]⟩, ⟨#[60, 61]⟩, ⟨#[62]⟩, ⟨#[62, 61]⟩, ⟨#[38, 38]⟩, ⟨#[124, 124]⟩])), false, 90, [.ptr (.sl ([⟨#[101, 101]⟩].map .str))], (formsB [⟨#[101, 101]⟩])⟩),
  (7, ⟨none, false, 90, [.ptr (.sl ([⟨#[101, 101]⟩].map .str))], (formsB [⟨#[101, 101]⟩])⟩),
  (8, ⟨none, false, 90, [.ptr (.sl ([⟨#[101, 101]⟩].map .str))], (formsB [⟨#[101, 101]⟩])⟩),
  (9, ⟨none, false, 90, [.ptr (.sl ([⟨#[101, 101]⟩].map .str))], (formsB [⟨#[101, 101]⟩])⟩),
  (10, ⟨none, false, 90, [.ptr (.sl ([⟨#[101]⟩, ⟨#[101, 101]⟩].map .str))], (formsB [⟨#[101]⟩, ⟨#[101, 101]⟩])⟩),
  (12, ⟨none, false, 90, [.ptr (.sl ([⟨#[101, 101]⟩, ⟨#[101, 101, 101]⟩].map .str))], (formsB [⟨#[101, 101]⟩, ⟨#[101, 101, 101]⟩])⟩),
  (14, ⟨(some (⟨#[115, 105, 122, 101]⟩, [⟨#[108, 111, 119]⟩, ⟨#[104, 105, 103, 104]⟩, ⟨#[115, 116, 114, 105, 100, 101]⟩, ⟨#[100, 111, 109, 97, 105, 110]⟩])), false, 90, [.ptr (.sl ([⟨#[101]⟩].map .str))], (formsB [⟨#[101]⟩])⟩),
  (16, ⟨none, false, 90, [.ptr (.sl ([⟨#[]⟩].map .str))], (formsB [⟨#[]⟩])⟩),
  (17, ⟨none, false, 90, [.ptr (.sl ([⟨#[]⟩].map .str))], (formsB [⟨#[]⟩])⟩),
  (18, ⟨(some (⟨#[43]⟩, [⟨#[42]⟩, ⟨#[109, 105, 110]⟩, ⟨#[109, 97, 120]⟩])), false, 90, [.ptr (.sl ([⟨#[101]⟩].map .str))], (formsB [⟨#[101]⟩])⟩),
  (19, ⟨none, false, 90, [.ptr (.sl ([⟨#[101, 101, 101]⟩].map .str))], (formsB [⟨#[101, 101, 101]⟩])⟩),
  (31, ⟨none, false, 90, [.ptr (.sl ([⟨#[101]⟩].map .str))], (formsB [⟨#[101]⟩])⟩),
  (67, ⟨(some (⟨#[43]⟩, [⟨#[42]⟩, ⟨#[109, 105, 110]⟩, ⟨#[109, 97, 120]⟩, ⟨#[38, 38]⟩, ⟨#[124, 124]⟩])), false, 90, [.ptr (.sl ([⟨#[110]⟩].map .str))], (formsB [⟨#[110]⟩])⟩),
  (51, ⟨(some (⟨#[61]⟩, [⟨#[43, 61]⟩, ⟨#[45, 61]⟩, ⟨#[42, 61]⟩])), false, 70, [], rule155⟩),
  (52, ⟨none, false, 90, [.ptr (.sl ([⟨#[101, 98]⟩, ⟨#[101, 98, 98]⟩].map .str))], (formsB [⟨#[101, 98]⟩, ⟨#[101, 98, 98]⟩])⟩),
  (53, ⟨none, false, 90, [.ptr (.sl ([⟨#[101, 98]⟩].map .str))], (formsB [⟨#[101, 98]⟩])⟩),
  (60, ⟨none, false, 90, [.ptr (.sl ([⟨#[101, 98]⟩].map .str))], (formsB [⟨#[101, 98]⟩])⟩),
  (54, ⟨none, true, 72, [], rule157⟩),
  (56, ⟨none, true, 72, [], rule157⟩),
  (55, ⟨none, true, 72, [], rule157⟩),
  (57, ⟨none, false, 90, [.ptr (.sl ([⟨#[98]⟩].map .str))], (formsB [⟨#[98]⟩])⟩),
  (59, ⟨none, false, 90, [.ptr (.sl ([⟨#[98]⟩].map .str))], (formsB [⟨#[98]⟩])⟩),
  (58, ⟨none, false, 73, [], rule158⟩),
  (61, ⟨none, false, 90, [.ptr (.sl ([⟨#[]⟩, ⟨#[101]⟩].map .str))], (formsB [⟨#[]⟩, ⟨#[101]⟩])⟩),
  (62, ⟨none, false, 90, [.ptr (.sl ([⟨#[101]⟩].map .str))], (formsB [⟨#[101]⟩])⟩),
  (65, ⟨none, false, 90, [.ptr (.sl ([⟨#[101]⟩].map .str))], (formsB [⟨#[101]⟩])⟩),
  (63, ⟨none, false, 76, [], rule161⟩),
  (64, ⟨none, false, 77, [], (fun t => everyB (fun op => isExprB op || op == 3) t.kids)⟩),
  (66, ⟨none, false, 79, [], (fun t => everyB isStmtB t.kids)⟩),
  (0, ⟨none, false, 67, [], (fun _ => true)⟩)]
def shapesM : List (D × D) := shapeTab.map fun x => (.int .i64 x.1, x.2.d)
def shGet (op : Int) : Option Sh := (shapeTab.find? fun x => decide (x.1 = op)).map (·.2)
theorem key_i64 (a b : Int) : D.keyEq (.int .i64 a) (.int .i64 b) = decide (a = b) := by simp [D.keyEq]
theorem find_sh (op : Int) : shapesM.find? (fun x => x.1.keyEq (.int .i64 op)) = (shapeTab.find? fun x => decide (x.1 = op)).map fun x => (D.int .i64 x.1, x.2.d) := by
 have h : ((fun x : D × D => x.1.keyEq (.int .i64 op)) ∘ fun x : Int × Sh => (D.int .i64 x.1, x.2.d)) = fun x => decide (x.1 = op) := by funext x; exact key_i64 _ _
 unfold shapesM
 rw [List.find?_map, h]
theorem mget_sh (op : Int) (z : D) : mget shapesM (.int .i64 op) z = match shGet op with | some s => s.d | none => z := by
 unfold mget shGet
 rw [find_sh]
 cases shapeTab.find? (fun x => decide (x.1 = op)) <;> rfl
theorem mhas_sh (op : Int) : mhas shapesM (.int .i64 op) = (shGet op).isSome := by
 have h : ((fun x : D × D => x.1.keyEq (.int .i64 op)) ∘ fun x : Int × Sh => (D.int .i64 x.1, x.2.d)) = fun x => decide (x.1 = op) := by funext x; exact key_i64 _ _
 unfold mhas shGet shapesM
 rw [List.any_map, h, Option.isSome_map, Bool.eq_iff_iff, List.any_eq_true, List.find?_isSome]
theorem shapeTab_ok : ∀ x ∈ shapeTab, ∀ t : Tr, t.Ok → Pf Try.prog x.2.g ([] ++ [t.d] ++ x.2.caps) (.d (.bool (x.2.ok t))) := by
 intro x hx t hok
 simp only [shapeTab, List.mem_cons, List.not_mem_nil, or_false] at hx
 rcases hx with rfl | rfl | rfl | rfl | rfl | rfl | rfl | rfl | rfl | rfl | rfl | rfl | rfl | rfl | rfl | rfl | rfl | rfl | rfl | rfl | rfl | rfl | rfl | rfl | rfl | rfl | rfl | rfl | rfl | rfl | rfl | rfl | rfl
 · exact c229 t [⟨#[]⟩] hok (by decide)
 · exact c154 t
 · exact c229 t [⟨#[101]⟩] hok (by decide)
 · exact c229 t [⟨#[101, 101]⟩] hok (by decide)
 · exact c229 t [⟨#[101, 101]⟩] hok (by decide)
 · exact c229 t [⟨#[101, 101]⟩] hok (by decide)
 · exact c229 t [⟨#[101, 101]⟩] hok (by decide)
 · exact c229 t [⟨#[101]⟩, ⟨#[101, 101]⟩] hok (by decide)
 · exact c229 t [⟨#[101, 101]⟩, ⟨#[101, 101, 101]⟩] hok (by decide)
 · exact c229 t [⟨#[101]⟩] hok (by decide)
 · exact c229 t [⟨#[]⟩] hok (by decide)
 · exact c229 t [⟨#[]⟩] hok (by decide)
 · exact c229 t [⟨#[101]⟩] hok (by decide)
 · exact c229 t [⟨#[101, 101, 101]⟩] hok (by decide)
 · exact c229 t [⟨#[101]⟩] hok (by decide)
 · exact c229 t [⟨#[110]⟩] hok (by decide)
 · exact c155 t hok
 · exact c229 t [⟨#[101, 98]⟩, ⟨#[101, 98, 98]⟩] hok (by decide)
 · exact c229 t [⟨#[101, 98]⟩] hok (by decide)
 · exact c229 t [⟨#[101, 98]⟩] hok (by decide)
 · exact c157 t hok
 · exact c157 t hok
 · exact c157 t hok
 · exact c229 t [⟨#[98]⟩] hok (by decide)
 · exact c229 t [⟨#[98]⟩] hok (by decide)
 · exact c158 t hok
 · exact c229 t [⟨#[]⟩, ⟨#[101]⟩] hok (by decide)
 · exact c229 t [⟨#[101]⟩] hok (by decide)
 · exact c229 t [⟨#[101]⟩] hok (by decide)
 · exact c161 t hok
 · exact c162 t hok
 · exact c164 t hok
 · exact c152 t
theorem shGet_ok {op : Int} {s : Sh} (h : shGet op = some s) {t : Tr} (hok : t.Ok) : Pf Try.prog s.g ([] ++ [t.d] ++ s.caps) (.d (.bool (s.ok t))) := by
 unfold shGet at h
 cases hf : shapeTab.find? (fun x => decide (x.1 = op)) with
 | none => rw [hf] at h; cases h
 | some x =>
  rw [hf] at h
  injection h with h; subst h
  exact shapeTab_ok x (List.mem_of_find?_eq_some hf) t hok
set_option maxHeartbeats 40000000 in
theorem c86  : Pf Try.prog 49 [] (.d (.map shapesM)) := by
 refine pf_body (rvs := [.tmp 0]) [] Try.func49 Try.ntmps49 Try.results49 (fun S0 O0 w0 m0 hm0 => ?_)
 refine Z5 ?_;refine Z84 ?_;refine Z84 ?_
 refine sv rfl (y_buildSlice (xs := [.const (.string ⟨#[101, 101]⟩)]) u40 inf9) ?_
 refine gL (xs := [.tmp 4]) rfl (c153 [⟨#[101, 101]⟩]) ?_
 refine Z84 ?_
 refine sv rfl (y_buildSlice (xs := [.const (.string ⟨#[101, 98]⟩)]) u40 inf9) ?_
 refine gL (xs := [.tmp 6]) rfl (c153 [⟨#[101, 98]⟩]) ?_
 refine Z84 ?_
 refine sv rfl y_makeMap ?_
 refine sv rfl (y_buildSlice (xs := [.const (.string ⟨#[]⟩)]) u40 inf9) ?_
 refine gL (xs := [.tmp 9]) rfl (c153 [⟨#[]⟩]) ?_
 refine Z89 ?_;refine Z89 ?_
 refine sv rfl (y_buildSlice (xs := [.const (.string ⟨#[45]⟩), .const (.string ⟨#[33]⟩)]) u40 inf9) ?_
 refine Z37 ?_
 refine gL (xs := [.tmp 14]) rfl (c153 [⟨#[101]⟩]) ?_
 refine Z61 ?_;refine Z86 ?_
 refine sv rfl (y_buildSlice (xs := [.const (.string ⟨#[43]⟩), .const (.string ⟨#[45]⟩), .const (.string ⟨#[42]⟩), .const (.string ⟨#[47]⟩), .const (.string ⟨#[37]⟩), .const (.string ⟨#[61, 61]⟩), .const (.string ⟨#[33, 61]⟩), .const (.string ⟨#[60]⟩), .const (.string ⟨#[60, 61]⟩), .const (.string ⟨#[62]⟩), .const (.string ⟨#[62, 61]⟩), .const (.string ⟨#[38, 38]⟩), .const (.string ⟨#[124, 124]⟩)]) u40 inf9) ?_
 refine Z1 ?_;refine Z61 ?_;refine Z86 ?_;refine Z1 ?_;refine Z89 ?_;refine Z1 ?_;refine Z89 ?_;refine Z1 ?_;refine Z89 ?_
 refine sv rfl (y_buildSlice (xs := [.const (.string ⟨#[101]⟩), .const (.string ⟨#[101, 101]⟩)]) u40 inf9) ?_
 refine gL (xs := [.tmp 26]) rfl (c153 [⟨#[101]⟩, ⟨#[101, 101]⟩]) ?_
 refine Z89 ?_
 refine sv rfl (y_buildSlice (xs := [.const (.string ⟨#[101, 101]⟩), .const (.string ⟨#[101, 101, 101]⟩)]) u40 inf9) ?_
 refine gL (xs := [.tmp 29]) rfl (c153 [⟨#[101, 101]⟩, ⟨#[101, 101, 101]⟩]) ?_
 refine Z89 ?_
 refine sv rfl (y_buildSlice (xs := [.const (.string ⟨#[115, 105, 122, 101]⟩), .const (.string ⟨#[108, 111, 119]⟩), .const (.string ⟨#[104, 105, 103, 104]⟩), .const (.string ⟨#[115, 116, 114, 105, 100, 101]⟩), .const (.string ⟨#[100, 111, 109, 97, 105, 110]⟩)]) u40 inf9) ?_
 refine Z37 ?_
 refine gL (xs := [.tmp 33]) rfl (c153 [⟨#[101]⟩]) ?_
 refine Z61 ?_;refine Z86 ?_
 refine sv rfl (y_buildSlice (xs := [.const (.string ⟨#[]⟩)]) u40 inf9) ?_
 refine gL (xs := [.tmp 36]) rfl (c153 [⟨#[]⟩]) ?_
 refine Z89 ?_
 refine sv rfl (y_buildSlice (xs := [.const (.string ⟨#[]⟩)]) u40 inf9) ?_
 refine gL (xs := [.tmp 39]) rfl (c153 [⟨#[]⟩]) ?_
 refine Z89 ?_
 refine sv rfl (y_buildSlice (xs := [.const (.string ⟨#[43]⟩), .const (.string ⟨#[42]⟩), .const (.string ⟨#[109, 105, 110]⟩), .const (.string ⟨#[109, 97, 120]⟩)]) u40 inf9) ?_
 refine Z37 ?_
 refine gL (xs := [.tmp 43]) rfl (c153 [⟨#[101]⟩]) ?_
 refine Z61 ?_;refine Z86 ?_
 refine sv rfl (y_buildSlice (xs := [.const (.string ⟨#[101, 101, 101]⟩)]) u40 inf9) ?_
 refine gL (xs := [.tmp 46]) rfl (c153 [⟨#[101, 101, 101]⟩]) ?_
 refine Z89 ?_;refine Z37 ?_
 refine gL (xs := [.tmp 49]) rfl (c153 [⟨#[101]⟩]) ?_
 refine Z89 ?_
 refine sv rfl (y_buildSlice (xs := [.const (.string ⟨#[43]⟩), .const (.string ⟨#[42]⟩), .const (.string ⟨#[109, 105, 110]⟩), .const (.string ⟨#[109, 97, 120]⟩), .const (.string ⟨#[38, 38]⟩), .const (.string ⟨#[124, 124]⟩)]) u40 inf9) ?_
 refine sv rfl (y_buildSlice (xs := [.const (.string ⟨#[110]⟩)]) u40 inf9) ?_
 refine gL (xs := [.tmp 53]) rfl (c153 [⟨#[110]⟩]) ?_
 refine Z61 ?_;refine Z86 ?_
 refine sv rfl (y_buildSlice (xs := [.const (.string ⟨#[61]⟩), .const (.string ⟨#[43, 61]⟩), .const (.string ⟨#[45, 61]⟩), .const (.string ⟨#[42, 61]⟩)]) u40 inf9) ?_
 refine Z61 ?_;refine Z86 ?_
 refine sv rfl (y_buildSlice (xs := [.const (.string ⟨#[101, 98]⟩), .const (.string ⟨#[101, 98, 98]⟩)]) u40 inf9) ?_
 refine gL (xs := [.tmp 58]) rfl (c153 [⟨#[101, 98]⟩, ⟨#[101, 98, 98]⟩]) ?_
 refine Z89 ?_;refine Z1 ?_;refine Z89 ?_;refine Z1 ?_;refine Z89 ?_;refine Z89 ?_;refine Z89 ?_;refine Z89 ?_
 refine sv rfl (y_buildSlice (xs := [.const (.string ⟨#[98]⟩)]) u40 inf9) ?_
 refine gL (xs := [.tmp 68]) rfl (c153 [⟨#[98]⟩]) ?_
 refine Z89 ?_
 refine sv rfl (y_buildSlice (xs := [.const (.string ⟨#[98]⟩)]) u40 inf9) ?_
 refine gL (xs := [.tmp 71]) rfl (c153 [⟨#[98]⟩]) ?_
 refine Z89 ?_;refine Z89 ?_
 refine sv rfl (y_buildSlice (xs := [.const (.string ⟨#[]⟩), .const (.string ⟨#[101]⟩)]) u40 inf9) ?_
 refine gL (xs := [.tmp 75]) rfl (c153 [⟨#[]⟩, ⟨#[101]⟩]) ?_
 refine Z89 ?_;refine Z37 ?_
 refine gL (xs := [.tmp 78]) rfl (c153 [⟨#[101]⟩]) ?_
 refine Z89 ?_;refine Z37 ?_
 refine gL (xs := [.tmp 81]) rfl (c153 [⟨#[101]⟩]) ?_
 refine Z89 ?_;refine Z89 ?_;refine Z89 ?_;refine Z89 ?_;refine Z1 ?_;refine Z89 ?_;refine Z1 ?_;refine Z2 ?_
 refine g_freezeM 0 [] rfl ?_
 refine Z8 ?_;refine Z4 ?_
 exact ⟨rfl, rfl⟩
end
end Go.Proofs.Ytklkbfpjimeaoaa
