import Derived.Test.YtklkbfpjimeaoaaGreatM29
import Derived.Test.YtklkbfpjimeaoaaGreatM30
import Derived.Test.YtklkbfpjimeaoaaGreatM17
/- Contracts of functions. Conditions: none. -/
set_option linter.unusedSimpArgs false
set_option linter.unusedVariables false
set_option maxRecDepth 20000
namespace Go.Proofs.YtklkbfpjimeaoaaGreat
open Go Go.Proofs.YtklkbfpjimeaoaaGreat.E
section
def declA (n : Nm) (x : Tr) : Except Int ByteArray :=
 if x.op = 31 then (match x.kids with
  | k :: _ => (typeT n k false).bind fun d => if isDomB d = true then .ok (sArray ++ d.extract 6 d.size) else .error 13
  | [] => .error 13)
 else if basicB x.nm = true then (if isArrB x.nm = true then .error 13 else .ok x.nm) else .error 153
def fitB (t u : ByteArray) : Bool := ((((!decide (u = sVoid)) && !decide (u = sSync)) && !decide (u = sAtomic)) && !isArrB u) && (decide (t = ⟨#[]⟩) || decide (t = u))
def declZ (n : Nm) (num : Int) (t : ByteArray) (ks : List Tr) : Except Int ByteArray :=
 if (andI num 2 == 0) = true then (if (!decide (t = sRange) && !isDomB t) = true then .ok t else .error 13)
 else match ks with
  | k :: _ => (typeT n k false).bind fun u => if fitB t u = true then .ok u else .error 13
  | [] => .error 13
def declK (n : Nm) (num : Int) : List Tr → Except Int ByteArray
 | x :: r => (declA n x).bind fun t => declZ n num t r
 | [] => .error 13
def declT (n : Nm) : Tr → Except Int ByteArray
 | .mk _ _ num ks => if (andI num 8 == 0) = true then (if (andI num 1 != 0) = true then declK n num ks else declZ n num ⟨#[]⟩ ks) else .error 153
def RestOk (n : Nm) (num : Int) (r : List Tr) : Prop := ∀ b, andI num 2 ≠ 0 → ∃ k r', r = k :: r' ∧ Px Tryz.prog 80 [n.d, k.d, .bool b] (outT (typeT n k b))
variable {n : Nm}
theorem declZ_no {num : Int} {t : ByteArray} {ks : List Tr} (h : (andI num 2 == 0) = true) : declZ n num t ks = if (!decide (t = sRange) && !isDomB t) = true then .ok t else .error 13 := by unfold declZ; exact if_pos h
theorem declZ_k {num : Int} {t : ByteArray} {k : Tr} {r : List Tr} (h : ¬ (andI num 2 == 0) = true) : declZ n num t (k :: r) = (typeT n k false).bind fun u => if fitB t u = true then .ok u else .error 13 := by unfold declZ; exact if_neg h
theorem declA_arr {xop : Int} {xnm : ByteArray} {xnu : Int} {xks : List Tr} {k : Tr} {s : List Tr} (h : xop = 31) (hk : xks = k :: s) : declA n (.mk xop xnm xnu xks) = (typeT n k false).bind fun d => if isDomB d = true then .ok (sArray ++ d.extract 6 d.size) else .error 13 := by
 subst h; subst hk; rfl
theorem dom_sz {d : ByteArray} (h : isDomB d = true) : d.size = 7 := by
 unfold isDomB at h
 rw [Bool.or_eq_true, decide_eq_true_eq, decide_eq_true_eq] at h
 rcases h with rfl | rfl <;> rfl
theorem var_kids {v : Tr} (hsh : v.shaped = true) (h50 : v.op = 50) : (andI v.nu 1 ≠ 0 → ∃ x r, v.kids = x :: r ∧ (x.op = 31 ∨ x.op = 30) ∧ (andI v.nu 2 ≠ 0 → ∃ k, r = [k] ∧ isExprB k.op = true)) ∧ (andI v.nu 1 = 0 → andI v.nu 2 ≠ 0 → ∃ k, v.kids = [k] ∧ isExprB k.op = true) := by
 obtain ⟨op, nm, num, ks⟩ := v
 have hop : op = 50 := h50
 subst hop
 rw [Tr.shaped, Bool.and_eq_true] at hsh
 have h := hsh.1
 rw [right50, varB] at h
 split at h
 · cases h
 · refine ⟨fun h1 => ?_, fun h1 h2 => ?_⟩
   · replace h1 : andI num 1 ≠ 0 := h1
     rw [if_pos (by simpa using h1)] at h
     cases ks with
     | nil => cases h
     | cons x r =>
      rw [varTy, Bool.and_eq_true] at h
      refine ⟨x, r, rfl, ?_, fun h2 => ?_⟩
      · have := h.1
        unfold varType at this
        by_cases h31 : x.op = 31
        · exact .inl h31
        · by_cases h30 : x.op = 30
          · exact .inr h30
          · simp [h31, h30] at this
      · obtain ⟨_, h3⟩ := h
        rw [varTail_iff] at h3
        rcases h3 with ⟨_, k, hk, he⟩ | ⟨h3, _⟩
        · exact ⟨k, hk, he⟩
        · exact absurd h3 h2
   · replace h1 : andI num 1 = 0 := h1
     rw [if_neg (by simpa using h1), varTail_iff] at h
     rcases h with ⟨_, k, hk, he⟩ | ⟨h3, _⟩
     · exact ⟨k, hk, he⟩
     · exact absurd h3 h2
set_option maxHeartbeats 4000000 in
theorem c77 (n : Nm) (op : Int) (nm : ByteArray) (num : Int) (ks : List Tr) (h8 : RestOk n num ks ∨ andI num 1 ≠ 0)
 (h1 : andI num 1 ≠ 0 → ∃ x r, ks = x :: r ∧ (x.op = 31 → ∃ k s, x.kids = k :: s ∧ Px Tryz.prog 80 [n.d, k.d, .bool false] (outT (typeT n k false))) ∧ RestOk n num r) :
 Px Tryz.prog 77 [n.d, .agg [.int .i64 op, .str nm, .int .i64 num, .sl (ks.map Tr.d)]] (outT (declT n (.mk op nm num ks))) := by
 refine pxB Tryz.func77 Tryz.ntmps77 Tryz.results77 (fun S0 O0 w0 m0 hm0 => ?_)
 repeat' first | refine st (by exact rfl) ?_ | fail
 by_cases h8b : (andI num 8 == 0) = true
 case neg =>
  have hD : declT n (.mk op nm num ks) = .error 153 := by unfold declT; exact if_neg h8b
  refine clp (u := wrongW 153) (by exact rfl) (x119 153 (by simpa using h8b)) ?_
  repeat' first | refine st (by exact rfl) ?_ | fail
  exact gPan (by rw [hD]; rfl)
 have hD8 : declT n (.mk op nm num ks) = (if (andI num 1 != 0) = true then declK n num ks else declZ n num ⟨#[]⟩ ks) := by unfold declT; exact if_pos h8b
 refine cl (r := .tup []) (by exact rfl) (q119 153 h8b) ?_
 repeat' (fail_if_success with_reducible refine ar 4 ?_); first | refine st (by exact rfl) ?_ | fail
 repeat' first | refine st (by exact rfl) ?_ | fail
 refine gCutF (α := ByteArray × List Tr) (fun y => ⟨[(2, .ref 0 0), (3, .ref 1 0), (5, .d (.str y.1)), (6, .d (.sl (y.2.map Tr.d)))], [[.d (.sl (n.p.globals.map Tr.d)), .d (.sl (n.p.procs.map Pc.d)), .d (.map (gvs n.g)), .d (locD n.ls)], [.d (.int .i64 op), .d (.str nm), .d (.int .i64 num), .d (.sl (ks.map Tr.d))]]⟩) (fun y => declT n (.mk op nm num ks) = declZ n num y.1 y.2 ∧ RestOk n num y.2) (fun Q' hn' he hr hp => ?_) (fun y hy => ?_)
 · refine cd (by exact rfl) (fun hb => ?_) (fun hb => ?_)
   · obtain ⟨x, r, hx, h31, hro⟩ := h1 (by simpa using hb)
     have hDx : declT n (.mk op nm num ks) = (declA n x).bind fun t => declZ n num t r := by rw [hD8, if_pos hb, hx]; rfl
     obtain ⟨xop, xnm, xnu, xks⟩ := x
     have hxd : (ks.map Tr.d)[(0 : Int).toNat]? = some (.agg [.int .i64 xop, .str xnm, .int .i64 xnu, .sl (xks.map Tr.d)]) := by rw [hx, List.map_cons, Tr.d_mk]; rfl
     repeat' first | refine st (by exact rfl) ?_ | fail
     refine el (by exact rfl) hxd ?_ (by decide)
     repeat' first | refine st (by exact rfl) ?_ | fail
     refine qu (by exact rfl) (by exact ⟨⟨by decide, by simp [hx]; omega⟩, Tr.ds_cells ks⟩) ?_
     repeat' first | refine st (by exact rfl) ?_ | fail
     have hdr : List.drop (1 : Int).toNat (ks.map Tr.d) = r.map Tr.d := by rw [hx]; rfl
     refine cd (by exact rfl) (fun hb3 => ?_) (fun hb3 => ?_)
     · have h31' : xop = 31 := by simpa using hb3
       obtain ⟨k, s, hks, q⟩ := h31 h31'
       have hks : xks = k :: s := hks
       have hkd : (xks.map Tr.d)[(0 : Int).toNat]? = some k.d := by rw [hks]; rfl
       obtain ⟨kop, knm, knu, kks, hka⟩ := k.d_agg
       rw [hka] at q hkd
       have hA : declA n (.mk xop xnm xnu xks) = (typeT n k false).bind fun d => if isDomB d = true then .ok (sArray ++ d.extract 6 d.size) else .error 13 := declA_arr h31' hks
       repeat' first | refine st (by exact rfl) ?_ | fail
       cases ht : typeT n k false with
       | error e =>
        rw [ht] at q
        refine opp 5 (hc := ?_)
        refine Z118 ?_;refine Z118 ?_;refine Z118 ?_
        refine oip (hd := hkd) (hc := ?_)
        refine Z118 ?_
        refine opx (hcl := q) (hg := fun s' => ?_)
        repeat' first | refine st (by exact rfl) ?_ | fail
        refine Z98 ?_
        repeat' first | refine st (by exact rfl) ?_ | fail
        exact gPan (by rw [hDx, hA, ht]; rfl)
       | ok d =>
        rw [ht] at q
        refine Z27 ?_;refine Z129 ?_;refine Z3 ?_;refine Z107 ?_;refine Z3 ?_
        refine oc (hcl := q.inl) (hc := ?_)
        refine Z138 ?_
        repeat' first | refine st (by exact rfl) ?_ | refine cl (by exact rfl) (c141 d) ?_ | fail
        by_cases hd : isDomB d = true
        · have hds := dom_sz hd
          refine cl (r := .tup []) (by exact rfl) (q119 13 hd) ?_
          repeat' first | refine st (by exact rfl) ?_ | fail
          refine qu (by exact rfl) (by omega) (qu (by exact rfl) ?_ ?_)
          · rw [ByteArray.size_extract, hds]; decide
          · repeat' first | refine st (by exact rfl) ?_ | fail
            refine toL (hn' _ (sArray ++ d.extract 6 d.size, r) ⟨by rw [hDx, hA, ht]; simp only [Except.bind, if_pos hd], hro⟩ ?_)
            rw [← hdr]
            exact le_of
        · refine clp (u := wrongW 13) (by exact rfl) (x119 13 (by simpa using hd)) ?_
          repeat' first | refine st (by exact rfl) ?_ | fail
          refine Z98 ?_
          repeat' first | refine st (by exact rfl) ?_ | fail
          exact gPan (by rw [hDx, hA, ht]; simp only [Except.bind, if_neg hd]; rfl)
     · have h31' : ¬ xop = 31 := by simpa using hb3
       have hA : declA n (.mk xop xnm xnu xks) = if basicB xnm = true then (if isArrB xnm = true then .error 13 else .ok xnm) else .error 153 := by
        unfold declA
        exact if_neg h31'
       repeat' first | refine st (by exact rfl) ?_ | refine cl (by exact rfl) (c142 xnm) ?_ | fail
       by_cases hba : basicB xnm = true
       case neg =>
        refine clp (u := wrongW 153) (by exact rfl) (x119 153 (by simpa using hba)) ?_
        repeat' first | refine st (by exact rfl) ?_ | fail
        refine Z98 ?_
        repeat' first | refine st (by exact rfl) ?_ | fail
        exact gPan (by rw [hDx, hA, if_neg hba]; rfl)
       refine cl (r := .tup []) (by exact rfl) (q119 153 hba) ?_
       repeat' first | refine st (by exact rfl) ?_ | refine cl (by exact rfl) (c143 xnm) ?_ | fail
       by_cases har : isArrB xnm = true
       · refine clp (u := wrongW 13) (by exact rfl) (x119 13 (by simp [har])) ?_
         repeat' first | refine st (by exact rfl) ?_ | fail
         refine Z98 ?_
         repeat' first | refine st (by exact rfl) ?_ | fail
         exact gPan (by rw [hDx, hA, if_pos hba, if_pos har]; rfl)
       refine cl (r := .tup []) (by exact rfl) (q119 13 (by simp [har])) ?_
       repeat' first | refine st (by exact rfl) ?_ | fail
       refine toL (hn' _ (xnm, r) ⟨by rw [hDx, hA, if_pos hba, if_neg har]; rfl, hro⟩ ?_)
       rw [← hdr]
       exact le_of
   · have hb0 : ¬ (andI num 1 != 0) = true := by rw [hb]; decide
     have hro : RestOk n num ks := by
      rcases h8 with h | h
      · exact h
      · exact absurd h (by simpa using hb0)
     repeat' first | refine st (by exact rfl) ?_ | fail
     exact toL (hn' _ (⟨#[]⟩, ks) ⟨by rw [hD8, if_neg hb0], hro⟩ le_of)
 · obtain ⟨t, r⟩ := y
   obtain ⟨hDr, hro⟩ := hy
   dsimp only at hDr hro
   repeat' first | refine st (by exact rfl) ?_ | fail
   refine cd (by exact rfl) (fun hb => ?_) (fun hb => ?_)
   · repeat' first | refine st (by exact rfl) ?_ | refine clg (by exact rfl) (fun _ => c141 t) ?_ | fail
     by_cases hf : (!decide (t = sRange) && !isDomB t) = true
     · refine cl (r := .tup []) (by exact rfl) (q119 13 hf) ?_
       repeat' first | refine st (by exact rfl) ?_ | fail
       exact enx (by exact rfl) (by rw [hDr, declZ_no hb, if_pos hf]; rfl)
     · refine clp (u := wrongW 13) (by exact rfl) (x119 13 (eq_false_of_ne_true hf)) ?_
       repeat' first | refine st (by exact rfl) ?_ | fail
       exact gPan (by rw [hDr, declZ_no hb, if_neg hf]; rfl)
   · have hb0 : ¬ (andI num 2 == 0) = true := by rw [hb]; decide
     obtain ⟨k, r', rfl, q⟩ := hro false (by simpa using hb0)
     have hkd : ((k :: r').map Tr.d)[(0 : Int).toNat]? = some k.d := rfl
     obtain ⟨kop, knm, knu, kks, hka⟩ := k.d_agg
     rw [hka] at q hkd
     repeat' first | refine st (by exact rfl) ?_ | fail
     cases ht : typeT n k false with
     | error e =>
      rw [ht] at q
      refine opp 4 (hc := ?_)
      refine Z118 ?_;refine Z118 ?_
      refine oip (hd := hkd) (hc := ?_)
      refine Z118 ?_
      refine opx (hcl := q) (hg := fun s' => ?_)
      repeat' first | refine st (by exact rfl) ?_ | fail
      exact gPan (by rw [hDr, declZ_k hb0]; simp only [ht, Except.bind, outT])
     | ok u =>
      rw [ht] at q
      refine Z27 ?_;refine Z129 ?_;refine Z107 ?_;refine Z3 ?_
      refine oc (hcl := q.inl) (hc := ?_)
      refine Z138 ?_
      repeat' first | refine st (by exact rfl) ?_ | refine clg (by exact rfl) (fun _ => c143 u) ?_ | fail
      by_cases hf : fitB t u = true
      · refine cl (r := .tup []) (by exact rfl) (q119 13 hf) ?_
        repeat' first | refine st (by exact rfl) ?_ | fail
        exact enx (by exact rfl) (by rw [hDr, declZ_k hb0]; simp only [ht, Except.bind, if_pos hf, outT])
      · refine clp (u := wrongW 13) (by exact rfl) (x119 13 (eq_false_of_ne_true hf)) ?_
        repeat' first | refine st (by exact rfl) ?_ | fail
        exact gPan (by rw [hDr, declZ_k hb0]; simp only [ht, Except.bind, if_neg hf, outT])
theorem c77n (n : Nm) (hn : n.Ok) (hb : n.Bd) (v : Tr) (hok : v.Ok) (hM : v.size ≤ 1000000) (hsh : v.shaped = true) (h50 : v.op = 50) : Px Tryz.prog 77 [n.d, v.d] (outT (declT n v)) := by
 obtain ⟨f1, f0⟩ := var_kids hsh h50
 have hkid : ∀ {t : Tr}, t.Ok → t.size ≤ 1000000 → t.shaped = true → ∀ k ∈ t.kids, k.Ok ∧ k.size ≤ 1000000 ∧ k.shaped = true := fun {t} ho hm hs k hk => by
  obtain ⟨op, nm, num, ks⟩ := t
  rw [Tr.shaped, Bool.and_eq_true, Tr.shapeds_all] at hs
  cases ho with | mk o1 o2 o3 o4 o5 =>
  refine ⟨o5 k hk, by have := Tr.size_mem (ks := ks) hk; rw [Tr.size] at hm; omega, ?_⟩
  cases hq : k.shaped with
  | true => rfl
  | false =>
   have : (ks.any fun k => !k.shaped) = true := List.any_eq_true.2 ⟨k, hk, by rw [hq]; rfl⟩
   rw [this] at hs; cases hs.2
 have hex : ∀ (k : Tr) (b : Bool), k.Ok ∧ k.size ≤ 1000000 ∧ k.shaped = true → isExprB k.op = true → Px Tryz.prog 80 [n.d, k.d, .bool b] (outT (typeT n k b)) := fun k b h he => c80n n hn k.size k (Nat.le_refl _) (hb.u k) h.1 h.2.1 h.2.2 he b
 have hkv := hkid hok hM hsh
 obtain ⟨op, nm, num, ks⟩ := v
 rw [Tr.d_mk]
 refine c77 n op nm num ks ?_ fun h1 => ?_
 · by_cases h1 : andI num 1 = 0
   · refine .inl fun b h2 => ?_
     obtain ⟨k, hk, he⟩ := f0 h1 h2
     have hk : ks = [k] := hk
     exact ⟨k, [], hk, hex k b (hkv k (by show k ∈ ks; rw [hk]; simp)) he⟩
   · exact .inr h1
 · obtain ⟨x, r, hx, ho, hr⟩ := f1 h1
   have hx : ks = x :: r := hx
   have hxk := hkv x (by show x ∈ ks; rw [hx]; simp)
   refine ⟨x, r, hx, fun h31 => ?_, fun b h2 => ?_⟩
   · have hxx := hkid hxk.1 hxk.2.1 hxk.2.2
     obtain ⟨xop, xnm, xnu, xks⟩ := x
     have h31 : xop = 31 := h31
     subst h31
     have hs := hxk.2.2
     rw [Tr.shaped, Bool.and_eq_true, right31, Bool.and_eq_true] at hs
     obtain ⟨k, hk⟩ := ln1 (kw1 hs.1.2)
     exact Y10
   · obtain ⟨k, hk, he⟩ := hr h2
     exact ⟨k, [], hk, hex k b (hkv k (by show k ∈ ks; rw [hx, hk]; simp)) he⟩
end
section
theorem c82l1 (p : Pg) (gl ls : List Gv) (nm : ByteArray) (num : Int) (ks : List Tr) (b : Bool) : Pf Tryz.prog 82 [scD p gl ls, .agg [.int .i64 1, .str nm, .int .i64 num, .sl (ks.map Tr.d)], .bool b] (outR (.ok sInt)) := by
 unfold scD
 refine pfb Tryz.func82 Tryz.ntmps82 Tryz.results82 (fun S0 O0 w0 m0 hm0 => ?_)
 repeat' first | refine st (by exact rfl) ?_ | refine ct (by exact rfl) ?_ rfl | refine cf (by exact rfl) ?_ rfl | fail
 exact Y1
theorem c82l16 (p : Pg) (gl ls : List Gv) (nm : ByteArray) (num : Int) (ks : List Tr) (b : Bool) : Pf Tryz.prog 82 [scD p gl ls, .agg [.int .i64 16, .str nm, .int .i64 num, .sl (ks.map Tr.d)], .bool b] (outR (.ok sInt)) := by
 unfold scD
 refine pfb Tryz.func82 Tryz.ntmps82 Tryz.results82 (fun S0 O0 w0 m0 hm0 => ?_)
 repeat' first | refine st (by exact rfl) ?_ | refine ct (by exact rfl) ?_ rfl | refine cf (by exact rfl) ?_ rfl | fail
 exact Y1
theorem c82l17 (p : Pg) (gl ls : List Gv) (nm : ByteArray) (num : Int) (ks : List Tr) (b : Bool) : Pf Tryz.prog 82 [scD p gl ls, .agg [.int .i64 17, .str nm, .int .i64 num, .sl (ks.map Tr.d)], .bool b] (outR (.ok sInt)) := by
 unfold scD
 refine pfb Tryz.func82 Tryz.ntmps82 Tryz.results82 (fun S0 O0 w0 m0 hm0 => ?_)
 repeat' first | refine st (by exact rfl) ?_ | refine ct (by exact rfl) ?_ rfl | refine cf (by exact rfl) ?_ rfl | fail
 exact Y1
theorem c82l2 (p : Pg) (gl ls : List Gv) (nm : ByteArray) (num : Int) (ks : List Tr) (b : Bool) : Pf Tryz.prog 82 [scD p gl ls, .agg [.int .i64 2, .str nm, .int .i64 num, .sl (ks.map Tr.d)], .bool b] (outR (.ok sBool)) := by
 unfold scD
 refine pfb Tryz.func82 Tryz.ntmps82 Tryz.results82 (fun S0 O0 w0 m0 hm0 => ?_)
 repeat' first | refine st (by exact rfl) ?_ | refine ct (by exact rfl) ?_ rfl | refine cf (by exact rfl) ?_ rfl | fail
 exact Y1
theorem kidsT_len {n : Nm} : ∀ {ks : List Tr} {l : List ByteArray}, kidsT n ks = .ok l → l.length = ks.length
 | [], l, h => by rw [kidsT] at h; injection h with h; subst h; rfl
 | k :: r, l, h => by
  rw [kidsT] at h
  cases h1 : typeT n k false with
  | error e => rw [h1] at h; cases h
  | ok s =>
   cases h2 : kidsT n r with
   | error e => rw [h1, h2] at h; cases h
   | ok l' =>
    rw [h1, h2] at h
    injection h with h
    subst h
    rw [List.length_cons, List.length_cons, kidsT_len h2]
theorem c82name (p : Pg) (gl ls : List Gv) (nm : ByteArray) (num : Int) (ks : List Tr) (b : Bool) (hg : gl.length ≤ 1000000) (hl : ls.length ≤ 1000000) : Pf Tryz.prog 82 [scD p gl ls, .agg [.int .i64 4, .str nm, .int .i64 num, .sl (ks.map Tr.d)], .bool b] (outR (lookE (lookN (nmR p gl ls) nm))) := by
 have q := c147 p gl ls nm hg hl
 unfold scD at *
 cases hf : lookN (nmR p gl ls) nm with
 | some x =>
  rw [hf] at q
  dsimp only [lookP', Gv.d] at q
  refine pfb Tryz.func82 Tryz.ntmps82 Tryz.results82 (fun S0 O0 w0 m0 hm0 => ?_)
  repeat' first | refine st (by exact rfl) ?_ | refine ct (by exact rfl) ?_ rfl | refine cf (by exact rfl) ?_ rfl | fail
  refine Z76 ?_
  repeat' first | refine st (by exact rfl) ?_ | refine ct (by exact rfl) ?_ rfl | refine cf (by exact rfl) ?_ rfl | fail
  exact Y1
 | none =>
  rw [hf] at q
  dsimp only [lookP', zGv] at q
  refine pfb Tryz.func82 Tryz.ntmps82 Tryz.results82 (fun S0 O0 w0 m0 hm0 => ?_)
  repeat' first | refine st (by exact rfl) ?_ | refine ct (by exact rfl) ?_ rfl | refine cf (by exact rfl) ?_ rfl | fail
  refine Z76 ?_
  repeat' first | refine st (by exact rfl) ?_ | refine ct (by exact rfl) ?_ rfl | refine cf (by exact rfl) ?_ rfl | fail
  exact Y1
theorem c82call (p : Pg) (gl ls : List Gv) (nm : ByteArray) (num : Int) (ks : List Tr) (b : Bool) (r : Except Int ByteArray) (q : Pf Tryz.prog 148 [scD p gl ls, .agg [.int .i64 13, .str nm, .int .i64 num, .sl (ks.map Tr.d)], .bool b] (outR r)) : Pf Tryz.prog 82 [scD p gl ls, .agg [.int .i64 13, .str nm, .int .i64 num, .sl (ks.map Tr.d)], .bool b] (outR r) := by
 unfold scD at *
 cases r with
 | ok s =>
  dsimp only [outR] at q
  refine pfb Tryz.func82 Tryz.ntmps82 Tryz.results82 (fun S0 O0 w0 m0 hm0 => ?_)
  repeat' first | refine st (by exact rfl) ?_ | refine ct (by exact rfl) ?_ rfl | refine cf (by exact rfl) ?_ rfl | fail
  refine Z76 ?_
  repeat' first | refine st (by exact rfl) ?_ | refine ct (by exact rfl) ?_ rfl | refine cf (by exact rfl) ?_ rfl | fail
  exact Y1
 | error e =>
  dsimp only [outR] at q
  refine pfb Tryz.func82 Tryz.ntmps82 Tryz.results82 (fun S0 O0 w0 m0 hm0 => ?_)
  repeat' first | refine st (by exact rfl) ?_ | refine ct (by exact rfl) ?_ rfl | refine cf (by exact rfl) ?_ rfl | fail
  refine Z76 ?_
  repeat' first | refine st (by exact rfl) ?_ | refine ct (by exact rfl) ?_ rfl | refine cf (by exact rfl) ?_ rfl | fail
  exact Y1
theorem c82o (p : Pg) (gl ls : List Gv) (op : Int) (nm : ByteArray) (num : Int) (ks : List Tr) (b : Bool) (h1 : (op == 1) = false) (h16 : (op == 16) = false) (h17 : (op == 17) = false) (h2 : (op == 2) = false) (h4 : (op == 4) = false) (h13 : (op == 13) = false)
 (hne : ∀ e, kidsT (nmR p gl ls) ks = .error e → e ≠ 0) (q : Pf Tryz.prog 149 [scD p gl ls, .sl (ks.map Tr.d)] (outRk (kidsT (nmR p gl ls) ks))) (ho : ∀ l, kidsT (nmR p gl ls) ks = .ok l → Pf Tryz.prog 150 [.agg [.int .i64 op, .str nm, .int .i64 num, .sl (ks.map Tr.d)], .sl (l.map .str)] (.tup [.d (.str (opR op nm l).1), .d (.bool (opR op nm l).2)]) ∧ opE (opT op nm l) = okE (opR op nm l)) :
 Pf Tryz.prog 82 [scD p gl ls, .agg [.int .i64 op, .str nm, .int .i64 num, .sl (ks.map Tr.d)], .bool b] (outR ((kidsT (nmR p gl ls) ks).bind fun l => opE (opT op nm l))) := by
 unfold scD at *
 refine pfb Tryz.func82 Tryz.ntmps82 Tryz.results82 (fun S0 O0 w0 m0 hm0 => ?_)
 repeat' first | refine st (by exact rfl) ?_ | refine cf (by exact rfl) ?_ (by assumption) | fail
 cases hk : kidsT (nmR p gl ls) ks with
 | error e =>
  have hn := hne e hk
  rw [hk] at q
  dsimp only [outRk] at q
  refine Z76 ?_
  repeat' first | refine st (by exact rfl) ?_ | fail
  refine ct (by exact rfl) ?_ (by simpa using hn)
  repeat' first | refine st (by exact rfl) ?_ | fail
  exact Y1
 | ok l =>
  obtain ⟨q2, h5⟩ := ho l hk
  rw [hk] at q
  dsimp only [outRk] at q
  refine Z76 ?_
  repeat' first | refine st (by exact rfl) ?_ | fail
  refine cf (by exact rfl) ?_ rfl
  repeat' first | refine st (by exact rfl) ?_ | fail
  refine cl (by exact rfl) q2 ?_
  repeat' first | refine st (by exact rfl) ?_ | fail
  by_cases hb : (opR op nm l).2 = true
  · refine cf (by exact rfl) ?_ (by rw [hb]; rfl)
    repeat' first | refine st (by exact rfl) ?_ | fail
    exact en (by exact rfl) (by simp only [Except.bind]; rw [h5, okE, if_pos hb]; rfl)
  · refine ct (by exact rfl) ?_ (by simpa using hb)
    repeat' first | refine st (by exact rfl) ?_ | fail
    exact en (by exact rfl) (by simp only [Except.bind]; rw [h5, okE, if_neg hb]; rfl)
theorem c82n (p : Pg) (hp : p.Ok) (gl ls : List Gv) (hg : gl.length ≤ 1000000) (hl : ls.length ≤ 1000000) : ∀ (sz : Nat) (t : Tr), t.size ≤ sz → t.Ok → t.size ≤ 1000000 → t.shaped = true → isExprB t.op = true → ∀ b, Pf Tryz.prog 82 [scD p gl ls, t.d, .bool b] (outR (typeT (nmR p gl ls) t b)) := by
 intro sz
 induction sz with
 | zero => intro t h; exact absurd t.size_pos (by omega)
 | succ sz ih =>
  intro t hsz hok hM hsh he b
  obtain ⟨op, nm, num, ks⟩ := t
  have hkd : ∀ k ∈ ks, k.size ≤ sz ∧ k.size ≤ 1000000 := fun k hk => by
   have := Tr.size_mem hk
   rw [Tr.size] at hsz hM
   omega
  have hkl : ks.length ≤ 1000000 := by
   have := Tr.len_sizes ks
   rw [Tr.size] at hM
   omega
  rw [Tr.shaped, Bool.and_eq_true, Tr.shapeds_all] at hsh
  obtain ⟨hr, hks⟩ := hsh
  have hksh : ∀ k ∈ ks, k.shaped = true := fun k hk => by
   cases hq : k.shaped with
   | true => rfl
   | false =>
    have : (ks.any fun k => !k.shaped) = true := List.any_eq_true.2 ⟨k, hk, by rw [hq]; rfl⟩
    rw [this] at hks; cases hks
  cases hok with | mk o1 o2 o3 o4 o5 =>
  replace he : isExprB op = true := he
  rw [Tr.d_mk, typeT]
  by_cases h1 : op = 1 ∨ op = 16 ∨ op = 17
  · rw [if_pos h1]
    rcases h1 with rfl | rfl | rfl
    · exact c82l1 p gl ls nm num ks b
    · exact c82l16 p gl ls nm num ks b
    · exact c82l17 p gl ls nm num ks b
  rw [if_neg h1]
  by_cases h2 : op = 2
  · rw [if_pos h2]; subst h2; exact c82l2 p gl ls nm num ks b
  rw [if_neg h2]
  by_cases h4 : op = 4
  · rw [if_pos h4]; subst h4; exact c82name p gl ls nm num ks b hg hl
  rw [if_neg h4]
  by_cases h13 : op = 13
  · rw [if_pos h13]; subst h13
    rw [right13, Bool.and_eq_true] at hr
    refine c82call p gl ls nm num ks b _ (c148 p hp gl ls 13 nm num ks b hkl fun k hk hk30 => ih k (hkd k hk).1 (o5 k hk) (hkd k hk).2 (hksh k hk) ?_ false)
    have h := hr.1
    unfold everyB at h
    cases hq : isExprB k.op with
    | true => rfl
    | false =>
     have : (ks.any fun k => !(isExprB k.op || k.op == 30)) = true := List.any_eq_true.2 ⟨k, hk, by rw [hq]; simpa using hk30⟩
     rw [this] at h; cases h
  rw [if_neg h13]
  have hne : op ≠ 1 ∧ op ≠ 2 ∧ op ≠ 4 ∧ op ≠ 13 ∧ op ≠ 16 ∧ op ≠ 17 := ⟨fun h => h1 (.inl h), h2, h4, h13, fun h => h1 (.inr (.inl h)), fun h => h1 (.inr (.inr h))⟩
  refine c82o p gl ls op nm num ks b (beq_eq_false_iff_ne.2 hne.1) (beq_eq_false_iff_ne.2 hne.2.2.2.2.1) (beq_eq_false_iff_ne.2 hne.2.2.2.2.2) (beq_eq_false_iff_ne.2 h2) (beq_eq_false_iff_ne.2 h4) (beq_eq_false_iff_ne.2 h13) (fun e he => kidsT_err (fun k _ => typeT_err k.size k (Nat.le_refl _) false) he) (c149 p gl ls ks hkl fun k hk => ih k (hkd k hk).1 (o5 k hk) (hkd k hk).2 (hksh k hk) (kids_expr he hne hr k hk) false) fun l hkt => ?_
  have hll : l.length = ks.length := kidsT_len hkt
  exact ⟨c150 op nm num ks l hll he hne hr, opE_eq op nm num ks l hll he hne hr⟩
theorem and_facts2 {n : Int} (h0 : 0 ≤ n) (h1 : n ≤ 15) : (andI n 8 != 0) = ((IntKind.i64.wrap (n.tdiv 8)).tmod 2 == 1) ∧ (andI n 4 != 0) = ((IntKind.i64.wrap (n.tdiv 4)).tmod 2 == 1) ∧ (andI n 2 == 0) = ((IntKind.i64.wrap (n.tdiv 2)).tmod 2 == 0) ∧ (andI n 1 != 0) = (n.tmod 2 == 1) := by
 have h : n = 0 ∨ n = 1 ∨ n = 2 ∨ n = 3 ∨ n = 4 ∨ n = 5 ∨ n = 6 ∨ n = 7 ∨ n = 8 ∨ n = 9 ∨ n = 10 ∨ n = 11 ∨ n = 12 ∨ n = 13 ∨ n = 14 ∨ n = 15 := by omega
 rcases h with rfl | rfl | rfl | rfl | rfl | rfl | rfl | rfl | rfl | rfl | rfl | rfl | rfl | rfl | rfl | rfl <;> exact ⟨rfl, rfl, rfl, rfl⟩
def RestR (p : Pg) (gl ls : List Gv) (num : Int) (ks : List Tr) (z : Nat) (r : List Tr) : Prop := r = ks.drop z ∧ z ≤ 1 ∧ (andI num 2 ≠ 0 → ∃ k r', r = k :: r' ∧ Pf Tryz.prog 82 [scD p gl ls, k.d, .bool false] (outR (typeT (nmR p gl ls) k false)))
theorem fit_ref (t u : ByteArray) : fitB t u = !((((decide (u = sVoid) || decide (u = sSync)) || decide (u = sAtomic)) || isArrB u) || (!decide (t = ⟨#[]⟩) && !decide (t = u))) := by
 unfold fitB
 cases decide (u = sVoid) <;> cases decide (u = sSync) <;> cases decide (u = sAtomic) <;> cases isArrB u <;> cases decide (t = ⟨#[]⟩) <;> cases decide (t = u) <;> rfl
set_option maxHeartbeats 4000000 in
theorem c126 (p : Pg) (gl ls : List Gv) (op : Int) (nm : ByteArray) (num : Int) (ks : List Tr) (hn0 : 0 ≤ num) (hn1 : num ≤ 15) (h8 : RestR p gl ls num ks 0 ks ∨ andI num 1 ≠ 0)
 (h1 : andI num 1 ≠ 0 → ∃ x r, ks = x :: r ∧ (x.op = 31 → ∃ k s, x.kids = k :: s ∧ Pf Tryz.prog 82 [scD p gl ls, k.d, .bool false] (outR (typeT (nmR p gl ls) k false))) ∧ RestR p gl ls num ks 1 r) :
 Pf Tryz.prog 126 [scD p gl ls, .agg [.int .i64 op, .str nm, .int .i64 num, .sl (ks.map Tr.d)]] (outR (declT (nmR p gl ls) (.mk op nm num ks))) := by
 obtain ⟨a8, _, a2, a1⟩ := and_facts2 hn0 hn1
 generalize hn : nmR p gl ls = n at *
 unfold scD at *
 refine pfb Tryz.func126 Tryz.ntmps126 Tryz.results126 (fun S0 O0 w0 m0 hm0 => ?_)
 repeat' first | refine st (by exact rfl) ?_ | fail
 refine cd (by exact rfl) (fun hb8 => ?_) (fun hb8 => ?_)
 · have h8b : ¬ (andI num 8 == 0) = true := by
    have : (andI num 8 != 0) = true := by rw [a8]; exact hb8
    simpa using this
   have hD : declT n (.mk op nm num ks) = .error 153 := by unfold declT; exact if_neg h8b
   repeat' first | refine st (by exact rfl) ?_ | fail
   exact en (by exact rfl) (by rw [hD]; rfl)
 have h8b : (andI num 8 == 0) = true := by
  have : (andI num 8 != 0) = false := by rw [a8]; exact hb8
  simpa using this
 have hD8 : declT n (.mk op nm num ks) = (if (andI num 1 != 0) = true then declK n num ks else declZ n num ⟨#[]⟩ ks) := by unfold declT; exact if_pos h8b
 repeat' (fail_if_success with_reducible refine ar 5 ?_); first | refine st (by exact rfl) ?_ | fail
 repeat' first | refine st (by exact rfl) ?_ | fail
 refine gCutF (α := ByteArray × Nat) (fun y => ⟨[(2, .ref 0 0), (3, .ref 1 0), (6, .d (.str y.1)), (7, .d (.int .i64 (y.2 : Int)))], [[.d (.sl (p.globals.map Tr.d)), .d (.sl (p.procs.map Pc.d)), .d (.sl (gl.map Gv.d)), .d (.sl (ls.map Gv.d))], [.d (.int .i64 op), .d (.str nm), .d (.int .i64 num), .d (.sl (ks.map Tr.d))]]⟩) (fun y => ∃ r, declT n (.mk op nm num ks) = declZ n num y.1 r ∧ RestR p gl ls num ks y.2 r) (fun Q' hn' he hr hp => ?_) (fun y hy => ?_)
 · refine cd (by exact rfl) (fun hb => ?_) (fun hb => ?_)
   · have hb1 : (andI num 1 != 0) = true := by rw [a1]; exact hb
     obtain ⟨x, r, hx, h31, hro⟩ := h1 (by simpa using hb1)
     have hDx : declT n (.mk op nm num ks) = (declA n x).bind fun t => declZ n num t r := by rw [hD8, if_pos hb1, hx]; rfl
     obtain ⟨xop, xnm, xnu, xks⟩ := x
     have hxd : (ks.map Tr.d)[(0 : Int).toNat]? = some (.agg [.int .i64 xop, .str xnm, .int .i64 xnu, .sl (xks.map Tr.d)]) := by rw [hx, List.map_cons, Tr.d_mk]; rfl
     repeat' first | refine st (by exact rfl) ?_ | fail
     refine el (by exact rfl) hxd ?_ (by decide)
     repeat' first | refine st (by exact rfl) ?_ | fail
     refine el (by exact rfl) hxd ?_ (by decide)
     repeat' first | refine st (by exact rfl) ?_ | fail
     refine cd (by exact rfl) (fun hb3 => ?_) (fun hb3 => ?_)
     · have h31' : xop = 31 := by simpa using hb3
       obtain ⟨k, s, hks, q⟩ := h31 h31'
       have hks : xks = k :: s := hks
       have hkd : (xks.map Tr.d)[(0 : Int).toNat]? = some k.d := by rw [hks]; rfl
       obtain ⟨kop, knm, knu, kks, hka⟩ := k.d_agg
       rw [hka] at q hkd
       have hA := declA_arr (n := n) (xnm := xnm) (xnu := xnu) h31' hks
       repeat' first | refine st (by exact rfl) ?_ | fail
       cases ht : typeT n k false with
       | error e =>
        have hne := typeT_err k.size k (Nat.le_refl _) false e ht
        rw [ht] at q
        dsimp only [outR] at q
        refine Z27 ?_;refine Z129 ?_;refine Z3 ?_;refine Z106 ?_;refine Z129 ?_;refine Z107 ?_;refine Z3 ?_;refine Z78 ?_;refine Z148 ?_;refine Z138 ?_
        repeat' first | refine st (by exact rfl) ?_ | fail
        refine ct (by exact rfl) ?_ (by simpa using hne)
        repeat' first | refine st (by exact rfl) ?_ | fail
        refine Z91 ?_
        repeat' first | refine st (by exact rfl) ?_ | fail
        exact en (by exact rfl) (by rw [hDx, hA, ht]; rfl)
       | ok d =>
        rw [ht] at q
        dsimp only [outR] at q
        refine Z27 ?_;refine Z129 ?_;refine Z3 ?_;refine Z106 ?_;refine Z129 ?_;refine Z107 ?_;refine Z3 ?_;refine Z78 ?_;refine Z148 ?_;refine Z138 ?_
        repeat' first | refine st (by exact rfl) ?_ | fail
        refine cf (by exact rfl) ?_ rfl
        repeat' first | refine st (by exact rfl) ?_ | refine cl (by exact rfl) (c211 d) ?_ | fail
        by_cases hd : isDomB d = true
        · have hds := dom_sz hd
          refine cf (by exact rfl) ?_ (by rw [hd]; rfl)
          repeat' first | refine st (by exact rfl) ?_ | fail
          refine qu (by exact rfl) (by omega) (qu (by exact rfl) ?_ ?_)
          · rw [ByteArray.size_extract, hds]; decide
          · repeat' first | refine st (by exact rfl) ?_ | fail
            exact toL (hn' _ (sArray ++ d.extract 6 d.size, 1) ⟨r, by rw [hDx, hA, ht]; simp only [Except.bind, if_pos hd], hro⟩ le_of)
        · refine ct (by exact rfl) ?_ (by simpa using hd)
          repeat' first | refine st (by exact rfl) ?_ | fail
          refine Z91 ?_
          repeat' first | refine st (by exact rfl) ?_ | fail
          exact en (by exact rfl) (by rw [hDx, hA, ht]; simp only [Except.bind, if_neg hd]; rfl)
     · have h31' : ¬ xop = 31 := by simpa using hb3
       have hA : declA n (.mk xop xnm xnu xks) = if basicB xnm = true then (if isArrB xnm = true then .error 13 else .ok xnm) else .error 153 := by
        unfold declA
        exact if_neg h31'
       repeat' first | refine st (by exact rfl) ?_ | refine cl (by exact rfl) (c212 xnm) ?_ | fail
       by_cases hba : basicB xnm = true
       case neg =>
        refine ct (by exact rfl) ?_ (by simpa using hba)
        repeat' first | refine st (by exact rfl) ?_ | fail
        refine Z91 ?_
        repeat' first | refine st (by exact rfl) ?_ | fail
        exact en (by exact rfl) (by rw [hDx, hA, if_neg hba]; rfl)
       refine cf (by exact rfl) ?_ (by rw [hba]; rfl)
       repeat' first | refine st (by exact rfl) ?_ | refine cl (by exact rfl) (c213 xnm) ?_ | fail
       by_cases har : isArrB xnm = true
       · refine ct (by exact rfl) ?_ har
         repeat' first | refine st (by exact rfl) ?_ | fail
         refine Z91 ?_
         repeat' first | refine st (by exact rfl) ?_ | fail
         exact en (by exact rfl) (by rw [hDx, hA, if_pos hba, if_pos har]; rfl)
       refine cf (by exact rfl) ?_ (eq_false_of_ne_true har)
       repeat' first | refine st (by exact rfl) ?_ | fail
       exact toL (hn' _ (xnm, 1) ⟨r, by rw [hDx, hA, if_pos hba, if_neg har]; rfl, hro⟩ le_of)
   · have hb1 : ¬ (andI num 1 != 0) = true := by rw [a1, hb]; decide
     have hro : RestR p gl ls num ks 0 ks := by
      rcases h8 with h | h
      · exact h
      · exact absurd h (by simpa using hb1)
     repeat' first | refine st (by exact rfl) ?_ | fail
     exact toL (hn' _ (⟨#[]⟩, 0) ⟨ks, by rw [hD8, if_neg hb1], hro⟩ le_of)
 · obtain ⟨t, z⟩ := y
   obtain ⟨r, hDr, hrd, hz1, hro⟩ := hy
   dsimp only at hDr hrd hz1
   repeat' first | refine st (by exact rfl) ?_ | fail
   refine cd (by exact rfl) (fun hb => ?_) (fun hb => ?_)
   · have hb2 : (andI num 2 == 0) = true := by rw [a2]; exact hb
     repeat' first | refine st (by exact rfl) ?_ | refine clg (by exact rfl) (fun _ => c211 t) ?_ | fail
     by_cases hf : (!decide (t = sRange) && !isDomB t) = true
     · refine cf (by exact rfl) ?_ (by rw [Bool.and_eq_true, Bool.not_eq_true', Bool.not_eq_true'] at hf; exact Bool.or_eq_false_iff.2 hf)
       repeat' first | refine st (by exact rfl) ?_ | fail
       exact en (by exact rfl) (by rw [hDr, declZ_no hb2, if_pos hf]; rfl)
     · refine ct (by exact rfl) ?_ (by
        have h := eq_false_of_ne_true hf
        rw [← Bool.not_or, Bool.not_eq_false'] at h
        exact h)
       repeat' first | refine st (by exact rfl) ?_ | fail
       exact en (by exact rfl) (by rw [hDr, declZ_no hb2, if_neg hf]; rfl)
   · have hb2 : ¬ (andI num 2 == 0) = true := by rw [a2, hb]; decide
     obtain ⟨k, r', hr', q⟩ := hro (by simpa using hb2)
     rw [hn] at q
     have hkz : ks[z]? = some k := by
      have h := congrArg (fun l : List Tr => l[0]?) (hrd.symm.trans hr')
      simpa using h
     have hkd := Tr.ds_get hkz
     rw [hr'] at hDr
     obtain ⟨kop, knm, knu, kks, hka⟩ := k.d_agg
     rw [hka] at q hkd
     repeat' first | refine st (by exact rfl) ?_ | fail
     cases ht : typeT n k false with
     | error e =>
      have hne := typeT_err k.size k (Nat.le_refl _) false e ht
      rw [ht] at q
      dsimp only [outR] at q
      refine Z27 ?_;refine Z148 ?_;refine Z107 ?_;refine Z3 ?_;refine Z78 ?_;refine Z148 ?_;refine Z138 ?_
      repeat' first | refine st (by exact rfl) ?_ | fail
      refine ct (by exact rfl) ?_ (by simpa using hne)
      repeat' first | refine st (by exact rfl) ?_ | fail
      exact en (by exact rfl) (by rw [hDr, declZ_k hb2]; simp only [ht, Except.bind, outR])
     | ok u =>
      rw [ht] at q
      dsimp only [outR] at q
      refine Z27 ?_;refine Z148 ?_;refine Z107 ?_;refine Z3 ?_;refine Z78 ?_;refine Z148 ?_;refine Z138 ?_
      repeat' first | refine st (by exact rfl) ?_ | fail
      refine cf (by exact rfl) ?_ rfl
      repeat' first | refine st (by exact rfl) ?_ | refine clg (by exact rfl) (fun _ => c213 u) ?_ | fail
      by_cases hf : fitB t u = true
      · refine cf (by exact rfl) ?_ (by rw [fit_ref, Bool.not_eq_true'] at hf; exact hf)
        repeat' first | refine st (by exact rfl) ?_ | fail
        exact en (by exact rfl) (by rw [hDr, declZ_k hb2]; simp only [ht, Except.bind, if_pos hf, outR])
      · refine ct (by exact rfl) ?_ (by
         have h := eq_false_of_ne_true hf
         rw [fit_ref, Bool.not_eq_false'] at h
         exact h)
        repeat' first | refine st (by exact rfl) ?_ | fail
        exact en (by exact rfl) (by rw [hDr, declZ_k hb2]; simp only [ht, Except.bind, if_neg hf, outR])
theorem c126n (p : Pg) (hp : p.Ok) (gl ls : List Gv) (hg : gl.length ≤ 1000000) (hl : ls.length ≤ 1000000) (v : Tr) (hok : v.Ok) (hM : v.size ≤ 1000000) (hsh : v.shaped = true) (h50 : v.op = 50) : Pf Tryz.prog 126 [scD p gl ls, v.d] (outR (declT (nmR p gl ls) v)) := by
 obtain ⟨f1, f0⟩ := var_kids hsh h50
 have hkid : ∀ {t : Tr}, t.Ok → t.size ≤ 1000000 → t.shaped = true → ∀ k ∈ t.kids, k.Ok ∧ k.size ≤ 1000000 ∧ k.shaped = true := fun {t} ho hm hs k hk => by
  obtain ⟨op, nm, num, ks⟩ := t
  rw [Tr.shaped, Bool.and_eq_true, Tr.shapeds_all] at hs
  cases ho with | mk o1 o2 o3 o4 o5 =>
  refine ⟨o5 k hk, by have := Tr.size_mem (ks := ks) hk; rw [Tr.size] at hm; omega, ?_⟩
  cases hq : k.shaped with
  | true => rfl
  | false =>
   have : (ks.any fun k => !k.shaped) = true := List.any_eq_true.2 ⟨k, hk, by rw [hq]; rfl⟩
   rw [this] at hs; cases hs.2
 have hex : ∀ (k : Tr) (b : Bool), k.Ok ∧ k.size ≤ 1000000 ∧ k.shaped = true → isExprB k.op = true → Pf Tryz.prog 82 [scD p gl ls, k.d, .bool b] (outR (typeT (nmR p gl ls) k b)) := fun k b h he => c82n p hp gl ls hg hl k.size k (Nat.le_refl _) h.1 h.2.1 h.2.2 he b
 have hkv := hkid hok hM hsh
 obtain ⟨op, nm, num, ks⟩ := v
 have hop : op = 50 := h50
 subst hop
 obtain ⟨f2, f3, _, _⟩ := var_facts hsh
 rw [Tr.d_mk]
 refine c126 p gl ls 50 nm num ks f2 f3 ?_ fun h1 => ?_
 · by_cases h1 : andI num 1 = 0
   · refine .inl ⟨rfl, by decide, fun h2 => ?_⟩
     obtain ⟨k, hk, he⟩ := f0 h1 h2
     have hk : ks = [k] := hk
     exact ⟨k, [], hk, hex k false (hkv k (by show k ∈ ks; rw [hk]; simp)) he⟩
   · exact .inr h1
 · obtain ⟨x, r, hx, ho, hr⟩ := f1 h1
   have hx : ks = x :: r := hx
   have hxk := hkv x (by show x ∈ ks; rw [hx]; simp)
   refine ⟨x, r, hx, fun h31 => ?_, by rw [hx]; rfl, Nat.le_refl _, fun h2 => ?_⟩
   · have hxx := hkid hxk.1 hxk.2.1 hxk.2.2
     obtain ⟨xop, xnm, xnu, xks⟩ := x
     have h31 : xop = 31 := h31
     subst h31
     have hs := hxk.2.2
     rw [Tr.shaped, Bool.and_eq_true, right31, Bool.and_eq_true] at hs
     obtain ⟨k, hk⟩ := ln1 (kw1 hs.1.2)
     exact Y10
   · obtain ⟨k, hk, he⟩ := hr h2
     exact ⟨k, [], hk, hex k false (hkv k (by show k ∈ ks; rw [hx, hk]; simp)) he⟩
end
section
variable {n n' : Nm}
theorem kidsT_congr : ∀ {ks : List Tr}, (∀ k ∈ ks, typeT n k false = typeT n' k false) → kidsT n ks = kidsT n' ks
 | [], _ => by rw [kidsT, kidsT]
 | k :: r, h => by rw [kidsT, kidsT, h k (.head _), kidsT_congr fun k' hk => h k' (.tail _ hk)]
theorem argsT_congr : ∀ {ks : List Tr}, (∀ k ∈ ks, typeT n k false = typeT n' k false) → argsT n ks = argsT n' ks
 | [], _ => by rw [argsT, argsT]
 | k :: r, h => by rw [argsT, argsT, h k (.head _), argsT_congr fun k' hk => h k' (.tail _ hk)]
theorem typeT_congr (hp : n.p = n'.p) : ∀ (sz : Nat) (t : Tr), t.size ≤ sz → (∀ s, t.emp s = true → lookE (lookN n s) = lookE (lookN n' s)) → ∀ b, typeT n t b = typeT n' t b := by
 intro sz
 induction sz with
 | zero => intro t h; exact absurd t.size_pos (by omega)
 | succ sz ih =>
  intro t hsz hu b
  obtain ⟨op, nm, num, ks⟩ := t
  have hkd : ∀ k ∈ ks, typeT n k false = typeT n' k false := fun k hk => by
   have := Tr.size_mem hk
   rw [Tr.size] at hsz
   exact ih k (by omega) (fun s hs => hu s (by rw [Tr.emp, Tr.empL_of hs hk, Bool.or_true])) false
  rw [typeT, typeT, kidsT_congr hkd, argsT_congr hkd, hp]
  by_cases h4 : op = 4
  · rw [hu nm (by rw [Tr.emp, h4]; simp)]
  · rw [if_neg (c := op = 4) h4, if_neg (c := op = 4) h4]
theorem declT_congr (hp : n.p = n'.p) (h : ∀ s, lookN n s = lookN n' s) (v : Tr) : declT n v = declT n' v := by
 have ht : ∀ t b, typeT n t b = typeT n' t b := fun t b => typeT_congr hp t.size t (Nat.le_refl _) (fun s _ => by rw [h s]) b
 obtain ⟨op, nm, num, ks⟩ := v
 have hz : ∀ t r, declZ n num t r = declZ n' num t r := fun t r => by
  unfold declZ
  split
  · rfl
  · cases r with
    | nil => rfl
    | cons k r => dsimp only; rw [ht]
 have ha : ∀ x, declA n x = declA n' x := fun x => by
  unfold declA
  split
  · cases x.kids with
    | nil => rfl
    | cons k r => dsimp only; rw [ht]
  · rfl
 have hk : declK n num ks = declK n' num ks := by
  cases ks with
  | nil => rfl
  | cons x r =>
   show (declA n x).bind (fun t => declZ n num t r) = (declA n' x).bind fun t => declZ n' num t r
   rw [ha x]
   cases declA n' x with
   | error e => rfl
   | ok t => exact hz t r
 show (if _ then (if _ then declK n num ks else declZ n num ⟨#[]⟩ ks) else _) = (if _ then (if _ then declK n' num ks else declZ n' num ⟨#[]⟩ ks) else _)
 rw [hk, hz]
def gskip (g : Tr) : Bool := g.op != 50 || nodeE g != 0
def hasG (l : List Gv) (nm : ByteArray) : Bool := l.any fun x => decide (x.nm = nm)
def globR (p : Pg) : List Gv → List Tr → List Gv
 | acc, [] => acc
 | acc, g :: r => if gskip g = true then globR p acc r else match declT ⟨p, acc, []⟩ g with
  | .ok t => globR p (acc ++ [⟨g.nm, t, andI g.nu 4 != 0⟩]) r
  | .error _ => globR p acc r
def globC (p : Pg) : List Gv → List Tr → List Gv
 | acc, [] => acc
 | acc, g :: r => if (hasG acc g.nm || gskip g) = true then globC p acc r else match declT ⟨p, acc, []⟩ g with
  | .ok t => globC p (acc ++ [⟨g.nm, t, andI g.nu 4 != 0⟩]) r
  | .error _ => globC p acc r
def findG' (l : List Gv) (s : ByteArray) : Option Gv := l.find? fun x => decide (x.nm = s)
theorem findG_snoc (l : List Gv) (x : Gv) (s : ByteArray) : findG' (l ++ [x]) s = (findG' l s).or (if x.nm = s then some x else none) := by
 unfold findG'
 rw [List.find?_append, List.find?_cons]
 by_cases h : x.nm = s
 · rw [if_pos h, show decide (x.nm = s) = true from decide_eq_true h]
 · rw [if_neg h, show decide (x.nm = s) = false from decide_eq_false h]; rfl
theorem hasG_find (l : List Gv) (s : ByteArray) : hasG l s = (findG' l s).isSome := by
 unfold hasG findG'
 induction l with
 | nil => rfl
 | cons x r ih =>
  rw [List.any_cons, List.find?_cons, ih]
  cases decide (x.nm = s) <;> simp
theorem glob_same (p : Pg) : ∀ (l : List Tr) (a c : List Gv), (∀ s, findG' a s = findG' c s) → ∀ s, findG' (globR p a l) s = findG' (globC p c l) s
 | [], a, c, h, s => h s
 | g :: r, a, c, h, s => by
  have hd : declT ⟨p, a, []⟩ g = declT ⟨p, c, []⟩ g := declT_congr (n := ⟨p, a, []⟩) (n' := ⟨p, c, []⟩) rfl (fun s => h s) g
  rw [globR, globC]
  by_cases hs : gskip g = true
  · rw [if_pos hs, if_pos (by rw [hs, Bool.or_true])]
    exact glob_same p r a c h s
  · rw [if_neg hs, hd]
    by_cases hh : hasG c g.nm = true
    · rw [if_pos (by rw [hh]; rfl)]
      cases declT ⟨p, c, []⟩ g with
      | error e => exact glob_same p r a c h s
      | ok t =>
       refine glob_same p r _ c (fun s' => ?_) s
       rw [findG_snoc, h s']
       by_cases hn : g.nm = s'
       · subst hn
         rw [hasG_find] at hh
         obtain ⟨y, hy⟩ := Option.isSome_iff_exists.1 hh
         rw [hy]; rfl
       · rw [if_neg hn]; simp
    · rw [if_neg (by rw [eq_false_of_ne_true hh, eq_false_of_ne_true hs]; decide)]
      cases declT ⟨p, c, []⟩ g with
      | error e => exact glob_same p r a c h s
      | ok t => exact glob_same p r _ _ (fun s' => by rw [findG_snoc, findG_snoc, h s']) s
theorem declT_err {v : Tr} {e : Int} (h : declT n v = .error e) : e ≠ 0 := by
 have ht : ∀ k e, typeT n k false = .error e → e ≠ 0 := fun k e => typeT_err k.size k (Nat.le_refl _) false e
 have hz : ∀ num t r e, declZ n num t r = .error e → e ≠ 0 := fun num t r e h => by
  by_cases h2 : (andI num 2 == 0) = true
  · rw [declZ_no h2] at h
    split at h
    · cases h
    · injection h with h; subst h; decide
  · cases r with
    | nil =>
     rw [show declZ n num t [] = .error 13 from by unfold declZ; exact if_neg h2] at h
     injection h with h; subst h; decide
    | cons k r =>
     rw [declZ_k h2] at h
     cases hk : typeT n k false with
     | error e' => rw [hk] at h; injection h with h; subst h; exact ht k _ hk
     | ok u =>
      rw [hk] at h
      simp only [Except.bind] at h
      split at h
      · cases h
      · injection h with h; subst h; decide
 have ha : ∀ x e, declA n x = .error e → e ≠ 0 := fun x e h => by
  obtain ⟨xop, xnm, xnu, xks⟩ := x
  by_cases h31 : xop = 31
  · cases xks with
    | nil =>
     subst h31
     rw [show declA n (.mk 31 xnm xnu []) = .error 13 from rfl] at h
     injection h with h; subst h; decide
    | cons k s =>
     rw [declA_arr h31 rfl] at h
     cases hkt : typeT n k false with
     | error e' => rw [hkt] at h; injection h with h; subst h; exact ht k _ hkt
     | ok u =>
      rw [hkt] at h
      simp only [Except.bind] at h
      split at h
      · cases h
      · injection h with h; subst h; decide
  · rw [show declA n (.mk xop xnm xnu xks) = if basicB xnm = true then (if isArrB xnm = true then .error 13 else .ok xnm) else .error 153 from by unfold declA; exact if_neg h31] at h
    split at h
    · split at h
      · injection h with h; subst h; decide
      · cases h
    · injection h with h; subst h; decide
 have hk : ∀ num ks e, declK n num ks = .error e → e ≠ 0 := fun num ks e h => by
  cases ks with
  | nil => rw [show declK n num [] = .error 13 from rfl] at h; injection h with h; subst h; decide
  | cons x r =>
   rw [show declK n num (x :: r) = (declA n x).bind fun t => declZ n num t r from rfl] at h
   cases hx : declA n x with
   | error e' => rw [hx] at h; injection h with h; subst h; exact ha x _ hx
   | ok t => rw [hx] at h; exact hz _ _ _ _ h
 obtain ⟨op, nm, num, ks⟩ := v
 rw [show declT n (.mk op nm num ks) = if (andI num 8 == 0) = true then (if (andI num 1 != 0) = true then declK n num ks else declZ n num ⟨#[]⟩ ks) else .error 153 from rfl] at h
 split at h
 · split at h
   · exact hk _ _ _ h
   · exact hz _ _ _ _ h
 · injection h with h; subst h; decide
theorem nodeE_sh {t : Tr} (h : nodeE t = 0) : t.shaped = true := by
 obtain ⟨op, nm, num, ks⟩ := t
 exact nodeE_shaped h
theorem gskip_no {g : Tr} (h : gskip g = false) : g.op = 50 ∧ nodeE g = 0 ∧ g.shaped = true := by
 unfold gskip at h
 rw [Bool.or_eq_false_iff, bne_eq_false_iff_eq, bne_eq_false_iff_eq] at h
 exact ⟨h.1, h.2, nodeE_sh h.2⟩
theorem globR_drop (p : Pg) (acc : List Gv) {l : List Tr} {z : Nat} {g : Tr} (h : l[z]? = some g) : globR p acc (l.drop z) = if gskip g = true then globR p acc (l.drop (z + 1)) else match declT ⟨p, acc, []⟩ g with
 | .ok t => globR p (acc ++ [⟨g.nm, t, andI g.nu 4 != 0⟩]) (l.drop (z + 1))
 | .error _ => globR p acc (l.drop (z + 1)) := by
 obtain ⟨hz, hk'⟩ := List.getElem?_eq_some_iff.1 h
 rw [List.drop_eq_getElem_cons hz, hk', globR]
def globI (p : Pg) (xs : List D) (z : Nat) : Prop := ∃ acc : List Gv, xs = acc.map Gv.d ∧ globR p [] p.globals = globR p acc (p.globals.drop z) ∧ acc.length ≤ z
set_option maxHeartbeats 4000000 in
theorem c83 (p : Pg) (hp : p.Ok) (hl : p.globals.length ≤ 1000000) (hM : ∀ g ∈ p.globals, g.size ≤ 1000000) : Pf Tryz.prog 83 [p.d] (.d (.sl ((globR p [] p.globals).map Gv.d))) := by
 unfold Pg.d
 refine pfb Tryz.func83 Tryz.ntmps83 Tryz.results83 (fun S0 O0 w0 m0 hm0 => ?_)
 repeat' first | refine st (by exact rfl) ?_ | refine bs (by exact rfl) ?_ | fail
 refine gLo (fun y : List D × Nat => ⟨[(1, .ref 0 0), (3, .osl 3 y.1), (4, .d (.int .i64 (y.2 : Int)))], [[.d (.sl (p.globals.map Tr.d)), .d (.sl (p.procs.map Pc.d))]]⟩) (fun y => p.globals.length - y.2) (fun y => globI p y.1 y.2) ([], 0) ⟨[], rfl, rfl, Nat.le_refl _⟩ le_of (fun y hy Q' hn he hr hp' => ?_)
 obtain ⟨xs, z⟩ := y
 dsimp only at hy
 have hlen : (p.globals.map Tr.d).length = p.globals.length := List.length_map ..
 obtain ⟨acc, hxs, hg, hal⟩ := hy
 have hxl : xs.length = acc.length := by rw [hxs, List.length_map]
 repeat' first | refine st (by exact rfl) ?_ | fail
 refine cd (by exact rfl) (fun hb => ?_) (fun hb => ?_)
 · have hz : z < p.globals.length := by have := oR hb; omega
   obtain ⟨g, hgz⟩ : ∃ g, p.globals[z]? = some g := ⟨_, gE hz⟩
   have hmem := mG hgz
   have hok := hp.g.2 g hmem
   have hsz := hM g hmem
   have q25 := c25 g hok (by omega)
   have hgd := globR_drop p acc hgz
   have hxd := Tr.ds_get hgz
   have hdec := c126n p hp acc [] (by omega) (by decide) g hok hsz
   have hnn : nmR p acc [] = ⟨p, acc, []⟩ := rfl
   rw [hnn] at hdec
   have hvf := fun (h1 : g.op = 50) (h2 : g.shaped = true) => by
    have h := g
    exact (show 0 ≤ g.nu ∧ g.nu ≤ 15 from by
     obtain ⟨gop, gnm, gnu, gks⟩ := g
     have h1 : gop = 50 := h1
     subst h1
     obtain ⟨f1, f2, _⟩ := var_facts h2
     exact ⟨f1, f2⟩)
   rw [t_eta g] at q25 hxd hdec
   repeat' first | refine st (by exact rfl) ?_ | fail
   refine el (by exact rfl) hxd ?_ (by omega)
   repeat' first | refine st (by exact rfl) ?_ | refine clg (by exact rfl) (fun _ => q25) ?_ | fail
   by_cases hs : gskip g = true
   · rw [if_pos hs] at hgd
     refine ct (by exact rfl) ?_ hs
     repeat' first | refine st (by exact rfl) ?_ | fail
     rw [wrap_succ (by omega)]
     exact Y17
   · rw [if_neg hs] at hgd
     obtain ⟨h50, _, hsh⟩ := gskip_no (eq_false_of_ne_true hs)
     have q := hdec hsh h50
     obtain ⟨hv0, hv1⟩ := hvf h50 hsh
     obtain ⟨_, a4, _, _⟩ := and_facts2 hv0 hv1
     refine cf (by exact rfl) ?_ (eq_false_of_ne_true hs)
     cases ht : declT ⟨p, acc, []⟩ g with
     | error e =>
      have hne := declT_err ht
      rw [ht] at q hgd
      dsimp only [outR] at q
      repeat' first | refine st (by exact rfl) ?_ | refine cl (by exact rfl) (by rw [hxs]; exact q) ?_ | fail
      refine cf (by exact rfl) ?_ (by simpa using hne)
      repeat' first | refine st (by exact rfl) ?_ | fail
      rw [wrap_succ (by omega)]
      exact Y17
     | ok t =>
      rw [ht] at q hgd
      dsimp only [outR] at q
      repeat' first | refine st (by exact rfl) ?_ | refine cl (by exact rfl) (by rw [hxs]; exact q) ?_ | fail
      refine ct (by exact rfl) ?_ rfl
      repeat' first | refine st (by exact rfl) ?_ | refine bs (by exact rfl) ?_ | refine ap (by exact rfl) ?_ | fail
      rw [wrap_succ (by omega)]
      exact toL (hn _ (xs ++ [.agg [.str g.nm, .str t, .bool ((IntKind.i64.wrap (g.nu.tdiv 4)).tmod 2 == 1)]], z + 1) ⟨acc ++ [⟨g.nm, t, andI g.nu 4 != 0⟩], by rw [hxs, a4, List.map_append]; rfl, hg.trans hgd, by rw [List.length_append]; simp; omega⟩ (by dsimp only; omega) le_of)
 · have hz : p.globals.length ≤ z := by have := of_decide_eq_false hb; omega
   repeat' first | refine st (by exact rfl) ?_ | fail
   refine Z68 ?_
   repeat' first | refine st (by exact rfl) ?_ | fail
   exact en (by exact rfl) (by rw [hg, List.drop_eq_nil_of_le hz, globR, hxs])
def tyR (p : Pg) (e : Tr) (ls : List Gv) : Except Int ByteArray := if (nodeE e != 0) = true then .error (nodeE e) else if (!isExprB e.op) = true then .error 2 else typeT (nmR p (globR p [] p.globals) ls) e false
theorem globR_len (p : Pg) : ∀ (l : List Tr) (acc : List Gv), (globR p acc l).length ≤ acc.length + l.length
 | [], acc => by rw [globR]; omega
 | g :: r, acc => by
  rw [globR, List.length_cons]
  split
  · have := globR_len p r acc; omega
  · split
    · rename_i t _
      have := globR_len p r (acc ++ [⟨g.nm, t, andI g.nu 4 != 0⟩])
      rw [List.length_append] at this
      simp at this; omega
    · have := globR_len p r acc; omega
theorem c20 (p : Pg) (hp : p.Ok) (hl : p.globals.length ≤ 1000000) (hM : ∀ g ∈ p.globals, g.size ≤ 1000000) (e : Tr) (hok : e.Ok) (he : e.size ≤ 1000000) (ls : List Gv) (hls : ls.length ≤ 1000000) : Pf Tryz.prog 20 [p.d, e.d, .sl (ls.map Gv.d)] (outR (tyR p e ls)) := by
 have q25 := c25 e hok (by omega)
 have q83 := c83 p hp hl hM
 have hgl := globR_len p p.globals []
 rw [List.length_nil, Nat.zero_add] at hgl
 have hex := fun (h1 : e.shaped = true) (h2 : isExprB e.op = true) => c82n p hp (globR p [] p.globals) ls (by omega) hls e.size e (Nat.le_refl _) hok he h1 h2 false
 unfold scD at hex
 unfold Pg.d at *
 unfold tyR
 have hns := @nodeE_sh e
 generalize nodeE e = ne at *
 rw [t_eta e] at q25 hex ⊢
 refine pfb Tryz.func20 Tryz.ntmps20 Tryz.results20 (fun S0 O0 w0 m0 hm0 => ?_)
 repeat' first | refine st (by exact rfl) ?_ | refine cl (by exact rfl) q25 ?_ | fail
 by_cases h1 : (ne != 0) = true
 · rw [if_pos h1]
   refine ct (by exact rfl) ?_ h1
   repeat' first | refine st (by exact rfl) ?_ | fail
   exact Y1
 rw [if_neg h1]
 refine cf (by exact rfl) ?_ (eq_false_of_ne_true h1)
 repeat' first | refine st (by exact rfl) ?_ | refine cl (by exact rfl) (c81 e.op) ?_ | fail
 by_cases h2 : (!isExprB e.op) = true
 · rw [if_pos h2]
   refine ct (by exact rfl) ?_ h2
   repeat' first | refine st (by exact rfl) ?_ | fail
   exact Y1
 rw [if_neg h2]
 refine cf (by exact rfl) ?_ (eq_false_of_ne_true h2)
 repeat' first | refine st (by exact rfl) ?_ | fail
 have q := hex (hns (by simpa using h1)) (by simpa using h2)
 cases ht : typeT (nmR p (globR p [] p.globals) ls) e false with
 | error x =>
  rw [ht] at q
  dsimp only [outR] at q
  refine Z27 ?_;refine Z129 ?_
  refine oc (hcl := q83) (hc := ?_)
  refine Z129 ?_;refine Z3 ?_;refine Z78 ?_;refine Z148 ?_;refine Z28 ?_
  repeat' first | refine st (by exact rfl) ?_ | fail
  exact Y1
 | ok x =>
  rw [ht] at q
  dsimp only [outR] at q
  refine Z27 ?_;refine Z129 ?_
  refine oc (hcl := q83) (hc := ?_)
  refine Z129 ?_;refine Z3 ?_;refine Z78 ?_;refine Z148 ?_;refine Z28 ?_
  repeat' first | refine st (by exact rfl) ?_ | fail
  exact Y1
end
end Go.Proofs.YtklkbfpjimeaoaaGreat
