import Derived.Test.YtklkbfpjimeaoaaGreatProg
import Derived.KernelRfl
import Derived.Test.YtklkbfpjimeaoaaGreatM10
/- Contracts of functions. Conditions: none. -/
namespace Go.Proofs.YtklkbfpjimeaoaaGreat
open Go
theorem sz3 : (Tryz.prog.info? 3).map (·.size) = some 1 := by kernel_rfl
theorem zr3 : (Tryz.prog.info? 3).map (·.zero) = some (some (.int .i64 0)) := by kernel_rfl
theorem sz4 : (Tryz.prog.info? 4).map (·.size) = some 1 := by kernel_rfl
theorem sz5 : (Tryz.prog.info? 5).map (·.size) = some 1 := by kernel_rfl
theorem inf9 : (Tryz.prog.info? 9).map (fun i => (i.zero, i.size, i.bytes)) = some (some (.string ⟨#[]⟩), 1, 16) := by kernel_rfl
theorem sz9 : (Tryz.prog.info? 9).map (·.size) = some 1 := by kernel_rfl
theorem sz22 : (Tryz.prog.info? 22).map (·.size) = some 1 := by kernel_rfl
theorem sz23 : (Tryz.prog.info? 23).map (·.size) = some 1 := by kernel_rfl
theorem sz25 : (Tryz.prog.info? 25).map (·.size) = some 2 := by kernel_rfl
theorem zr25 : (Tryz.prog.info? 25).map (·.zero) = some (some (.agg #[.slice none 0 0, .slice none 0 0])) := by kernel_rfl
theorem inf27 : (Tryz.prog.info? 27).map (fun i => (i.zero, i.size, i.bytes)) = some (some (.agg #[.int .i64 0, .string ⟨#[]⟩, .int .i64 0, .slice none 0 0]), 4, 56) := by kernel_rfl
theorem sz27 : (Tryz.prog.info? 27).map (·.size) = some 4 := by kernel_rfl
theorem zr27 : (Tryz.prog.info? 27).map (·.zero) = some (some (.agg #[.int .i64 0, .string ⟨#[]⟩, .int .i64 0, .slice none 0 0])) := by kernel_rfl
theorem sz48 : (Tryz.prog.info? 48).map (·.size) = some 1 := by kernel_rfl
theorem inf59 : (Tryz.prog.info? 59).map (fun i => (i.zero, i.size, i.bytes)) = some (some (.agg #[.string ⟨#[]⟩, .int .i64 0, .string ⟨#[]⟩, .int .i64 0, .slice none 0 0]), 5, 72) := by kernel_rfl
theorem sz59 : (Tryz.prog.info? 59).map (·.size) = some 5 := by kernel_rfl
theorem zr59 : (Tryz.prog.info? 59).map (·.zero) = some (some (.agg #[.string ⟨#[]⟩, .int .i64 0, .string ⟨#[]⟩, .int .i64 0, .slice none 0 0])) := by kernel_rfl
theorem sz63 : (Tryz.prog.info? 63).map (·.size) = some 1 := by kernel_rfl
theorem inf66 : (Tryz.prog.info? 66).map (fun i => (i.zero, i.size, i.bytes)) = some (some (.agg #[.string ⟨#[]⟩, .int .i64 0, .string ⟨#[]⟩, .int .i64 0, .slice none 0 0]), 5, 72) := by kernel_rfl
theorem sz66 : (Tryz.prog.info? 66).map (·.size) = some 5 := by kernel_rfl
theorem zr66 : (Tryz.prog.info? 66).map (·.zero) = some (some (.agg #[.string ⟨#[]⟩, .int .i64 0, .string ⟨#[]⟩, .int .i64 0, .slice none 0 0])) := by kernel_rfl
theorem sz139 : (Tryz.prog.info? 139).map (·.size) = some 1 := by kernel_rfl
theorem zr139 : (Tryz.prog.info? 139).map (·.zero) = some (some (.pointer none)) := by kernel_rfl
theorem sz141 : (Tryz.prog.info? 141).map (·.size) = some 1 := by kernel_rfl
theorem zr141 : (Tryz.prog.info? 141).map (·.zero) = some (some (.pointer none)) := by kernel_rfl
theorem zr168 : (Tryz.prog.info? 168).map (·.zero) = some (some (.agg #[.string ⟨#[]⟩, .pointer none, .pointer none])) := by kernel_rfl
theorem sz189 : (Tryz.prog.info? 189).map (·.size) = some 3 := by kernel_rfl
theorem zr189 : (Tryz.prog.info? 189).map (·.zero) = some (some (.agg #[.slice none 0 0, .bool false, .nilFunc])) := by kernel_rfl
theorem sz199 : (Tryz.prog.info? 199).map (·.size) = some 3 := by kernel_rfl
theorem zr199 : (Tryz.prog.info? 199).map (·.zero) = some (some (.agg #[.int .i64 0, .int .i64 0, .int .i64 0])) := by kernel_rfl
theorem sz231 : (Tryz.prog.info? 231).map (·.size) = some 3 := by kernel_rfl
theorem zr231 : (Tryz.prog.info? 231).map (·.zero) = some (some (.agg #[.string ⟨#[]⟩, .string ⟨#[]⟩, .int .i64 0])) := by kernel_rfl
theorem zr247 : (Tryz.prog.info? 247).map (·.zero) = some (some (.nilFunc)) := by kernel_rfl
theorem sz251 : (Tryz.prog.info? 251).map (·.size) = some 1 := by kernel_rfl
theorem zr251 : (Tryz.prog.info? 251).map (·.zero) = some (some (.nilFunc)) := by kernel_rfl
theorem sz260 : (Tryz.prog.info? 260).map (·.size) = some 3 := by kernel_rfl
theorem zr260 : (Tryz.prog.info? 260).map (·.zero) = some (some (.agg #[.int .i64 0, .int .i64 0, .int .i64 0])) := by kernel_rfl
theorem sz283 : (Tryz.prog.info? 283).map (·.size) = some 1 := by kernel_rfl
theorem zr283 : (Tryz.prog.info? 283).map (·.zero) = some (some (.nilFunc)) := by kernel_rfl
theorem pl25 : E.structPl Tryz.prog 25 = some [(0, 1), (1, 1)] := by kernel_rfl
theorem pl27 : E.structPl Tryz.prog 27 = some [(0, 1), (1, 1), (2, 1), (3, 1)] := by kernel_rfl
theorem pl66 : E.structPl Tryz.prog 66 = some [(0, 1), (1, 4)] := by kernel_rfl
theorem pl168 : E.structPl Tryz.prog 168 = some [(0, 1), (1, 1), (2, 1)] := by kernel_rfl
theorem pl189 : E.structPl Tryz.prog 189 = some [(0, 1), (1, 1), (2, 1)] := by kernel_rfl
theorem pl199 : E.structPl Tryz.prog 199 = some [(0, 1), (1, 1), (2, 1)] := by kernel_rfl
theorem pl231 : E.structPl Tryz.prog 231 = some [(0, 1), (1, 1), (2, 1)] := by kernel_rfl
theorem pl260 : E.structPl Tryz.prog 260 = some [(0, 1), (1, 1), (2, 1)] := by kernel_rfl
theorem u3 : Tryz.prog.underlying 3 = some (TypeDesc.int IntKind.i64) := Tryz.underlying3
theorem u4 : Tryz.prog.underlying 4 = some TypeDesc.bool := Tryz.underlying4
theorem u5 : Tryz.prog.underlying 5 = some (TypeDesc.int IntKind.u8) := Tryz.underlying5
theorem u9 : Tryz.prog.underlying 9 = some TypeDesc.string := Tryz.underlying9
theorem u22 : Tryz.prog.underlying 22 = some (TypeDesc.slice 27) := Tryz.underlying22
theorem u23 : Tryz.prog.underlying 23 = some (TypeDesc.slice 81) := Tryz.underlying23
theorem u25 : Tryz.prog.underlying 25 = some (TypeDesc.struct #[{ name := "Globals", type := 22, offset := 0, embedded := false, tag := "", pkgPath := "", byteOffset := 0 }, { name := "Procs", type := 23, offset := 1, embedded := false, tag := "", pkgPath := "", byteOffset := 24 }]) := Tryz.underlying25
theorem u27 : Tryz.prog.underlying 27 = some (TypeDesc.struct #[{ name := "Op", type := 3, offset := 0, embedded := false, tag := "", pkgPath := "", byteOffset := 0 }, { name := "Name", type := 9, offset := 1, embedded := false, tag := "", pkgPath := "", byteOffset := 8 }, { name := "Num", type := 3, offset := 2, embedded := false, tag := "", pkgPath := "", byteOffset := 24 }, { name := "Kids", type := 22, offset := 3, embedded := false, tag := "", pkgPath := "", byteOffset := 32 }]) := Tryz.underlying27
theorem u48 : Tryz.prog.underlying 48 = some (TypeDesc.func #[27] #[4] false) := Tryz.underlying48
theorem u49 : Tryz.prog.underlying 49 = some (TypeDesc.slice 59) := Tryz.underlying49
theorem u51 : Tryz.prog.underlying 51 = some (TypeDesc.slice 66) := Tryz.underlying51
theorem u59 : Tryz.prog.underlying 59 = some (TypeDesc.struct #[{ name := "Name", type := 9, offset := 0, embedded := false, tag := "", pkgPath := "", byteOffset := 0 }, { name := "Value", type := 27, offset := 1, embedded := false, tag := "", pkgPath := "", byteOffset := 16 }]) := Tryz.underlying59
theorem u63 : Tryz.prog.underlying 63 = some (TypeDesc.slice 9) := Tryz.underlying63
theorem u66 : Tryz.prog.underlying 66 = some (TypeDesc.struct #[{ name := "Name", type := 9, offset := 0, embedded := false, tag := "", pkgPath := "", byteOffset := 0 }, { name := "Value", type := 27, offset := 1, embedded := false, tag := "", pkgPath := "", byteOffset := 16 }]) := Tryz.underlying66
theorem u109 : Tryz.prog.underlying 109 = some (TypeDesc.func #[3] #[4] false) := Tryz.underlying109
theorem u127 : Tryz.prog.underlying 127 = some (TypeDesc.map 3 189) := Tryz.underlying127
theorem u139 : Tryz.prog.underlying 139 = some (TypeDesc.pointer 27) := Tryz.underlying139
theorem u141 : Tryz.prog.underlying 141 = some (TypeDesc.pointer 168) := Tryz.underlying141
theorem u168 : Tryz.prog.underlying 168 = some (TypeDesc.struct #[{ name := "name", type := 9, offset := 0, embedded := false, tag := "", pkgPath := "raddle/param", byteOffset := 0 }, { name := "value", type := 139, offset := 1, embedded := false, tag := "", pkgPath := "raddle/param", byteOffset := 16 }, { name := "ahead", type := 141, offset := 2, embedded := false, tag := "", pkgPath := "raddle/param", byteOffset := 24 }]) := Tryz.underlying168
theorem u189 : Tryz.prog.underlying 189 = some (TypeDesc.struct #[{ name := "names", type := 63, offset := 0, embedded := false, tag := "", pkgPath := "raddle/check", byteOffset := 0 }, { name := "num", type := 4, offset := 1, embedded := false, tag := "", pkgPath := "raddle/check", byteOffset := 24 }, { name := "rule", type := 48, offset := 2, embedded := false, tag := "", pkgPath := "raddle/check", byteOffset := 32 }]) := Tryz.underlying189
theorem u199 : Tryz.prog.underlying 199 = some (TypeDesc.struct #[{ name := "Low", type := 3, offset := 0, embedded := false, tag := "", pkgPath := "", byteOffset := 0 }, { name := "High", type := 3, offset := 1, embedded := false, tag := "", pkgPath := "", byteOffset := 8 }, { name := "Stride", type := 3, offset := 2, embedded := false, tag := "", pkgPath := "", byteOffset := 16 }]) := Tryz.underlying199
theorem u231 : Tryz.prog.underlying 231 = some (TypeDesc.struct #[{ name := "of", type := 9, offset := 0, embedded := false, tag := "", pkgPath := "raddle/check", byteOffset := 0 }, { name := "gives", type := 9, offset := 1, embedded := false, tag := "", pkgPath := "raddle/check", byteOffset := 16 }, { name := "takes", type := 3, offset := 2, embedded := false, tag := "", pkgPath := "raddle/check", byteOffset := 32 }]) := Tryz.underlying231
theorem u232 : Tryz.prog.underlying 232 = some (TypeDesc.map 9 231) := Tryz.underlying232
theorem u243 : Tryz.prog.underlying 243 = some (TypeDesc.slice 5) := Tryz.underlying243
theorem u249 : Tryz.prog.underlying 249 = some (TypeDesc.map 9 247) := Tryz.underlying249
theorem u251 : Tryz.prog.underlying 251 = some (TypeDesc.func #[3, 3] #[4] false) := Tryz.underlying251
theorem u253 : Tryz.prog.underlying 253 = some (TypeDesc.map 9 251) := Tryz.underlying253
theorem u260 : Tryz.prog.underlying 260 = some (TypeDesc.struct #[{ name := "first", type := 3, offset := 0, embedded := false, tag := "", pkgPath := "raddle/span", byteOffset := 0 }, { name := "by", type := 3, offset := 1, embedded := false, tag := "", pkgPath := "raddle/span", byteOffset := 8 }, { name := "count", type := 3, offset := 2, embedded := false, tag := "", pkgPath := "raddle/span", byteOffset := 16 }]) := Tryz.underlying260
theorem u283 : Tryz.prog.underlying 283 = some (TypeDesc.func #[3, 4] #[139] false) := Tryz.underlying283
theorem u286 : Tryz.prog.underlying 286 = some (TypeDesc.int IntKind.u64) := Tryz.underlying286
end Go.Proofs.YtklkbfpjimeaoaaGreat
namespace Go.Proofs.YtklkbfpjimeaoaaGreat
open Go Go.Proofs.YtklkbfpjimeaoaaGreat.E
inductive Tr where
  | mk (op : Int) (name : ByteArray) (num : Int) (kids : List Tr)
mutual
def Tr.d : Tr → D
  | .mk op name num kids => .agg [.int .i64 op, .str name, .int .i64 num, .sl (Tr.ds kids)]
def Tr.ds : List Tr → List D
  | [] => []
  | k :: ks => k.d :: Tr.ds ks
end
theorem Tr.ds_map : ∀ ks : List Tr, Tr.ds ks = ks.map Tr.d
  | [] => rfl
  | k :: ks => by rw [Tr.ds, Tr.ds_map ks]; rfl
theorem Tr.d_mk (op : Int) (name : ByteArray) (num : Int) (kids : List Tr) : (Tr.mk op name num kids).d = .agg [.int .i64 op, .str name, .int .i64 num, .sl (kids.map Tr.d)] := by rw [Tr.d, Tr.ds_map]
theorem Tr.d_agg (t : Tr) : ∃ op name num kids, t.d = .agg [.int .i64 op, .str name, .int .i64 num, .sl (List.map Tr.d kids)] := by
  obtain ⟨op, name, num, kids⟩ := t; exact ⟨op, name, num, kids, Tr.d_mk ..⟩
theorem Tr.d_cells (t : Tr) : t.d.cells.length = 4 := by obtain ⟨op, name, num, kids⟩ := t; rw [Tr.d_mk]; rfl
theorem Tr.ds_cells (ks : List Tr) : ∀ x ∈ ks.map Tr.d, x.cells.length = 4 := fun x hx => by
  obtain ⟨t, _, rfl⟩ := List.mem_map.1 hx; exact t.d_cells
theorem Tr.ds_get {ks : List Tr} {z : Nat} {k : Tr} (h : ks[z]? = some k) : (ks.map Tr.d)[z]? = some k.d := by rw [List.getElem?_map, h]; rfl
mutual
def Tr.size : Tr → Nat
  | .mk _ _ _ ks => 1 + Tr.sizes ks
def Tr.sizes : List Tr → Nat
  | [] => 0
  | k :: ks => k.size + Tr.sizes ks
end
theorem Tr.size_mem : ∀ {ks : List Tr} {k : Tr}, k ∈ ks → k.size ≤ Tr.sizes ks
  | x :: r, k, h => by
    rw [Tr.sizes]
    rcases List.mem_cons.1 h with rfl | h
    · omega
    · have := Tr.size_mem h; omega
theorem Tr.size_pos (t : Tr) : 1 ≤ t.size := by obtain ⟨op, name, num, ks⟩ := t; rw [Tr.size]; omega
theorem Tr.len_sizes : ∀ ks : List Tr, ks.length ≤ Tr.sizes ks
  | [] => by simp
  | k :: ks => by rw [Tr.sizes, List.length_cons]; have := Tr.len_sizes ks; have := k.size_pos; omega
inductive Tr.Ok : Tr → Prop
  | mk {op : Int} {name : ByteArray} {num : Int} {ks : List Tr} (h1 : (Lit.int .i64 op).wf = true) (h2 : name.size ≤ 140737488355328) (h3 : (Lit.int .i64 num).wf = true) (h4 : ks.length ≤ 140737488355328) (h5 : ∀ k ∈ ks, Tr.Ok k) : Tr.Ok (.mk op name num ks)
mutual
def Tr.cnt : Tr → Int → Int
  | .mk _ _ _ ks, m => Tr.cnts ks 1 m
def Tr.cnts : List Tr → Int → Int → Int
  | [], n, _ => n
  | k :: ks, n, m => if n > m then n else Tr.cnts ks (n + k.cnt (m - n)) m
end
mutual
theorem Tr.cnt_bd : ∀ (t : Tr) (m : Int), 0 ≤ m → 1 ≤ t.cnt m ∧ t.cnt m ≤ m + 1
  | .mk _ _ _ ks, m, h => by rw [Tr.cnt]; exact Tr.cnts_bd ks 1 m h (by omega)
theorem Tr.cnts_bd : ∀ (ks : List Tr) (n m : Int), 0 ≤ m → n ≤ m + 1 → n ≤ Tr.cnts ks n m ∧ Tr.cnts ks n m ≤ m + 1
  | [], n, m, h, h2 => by rw [Tr.cnts]; omega
  | k :: ks, n, m, h, h2 => by
    rw [Tr.cnts]
    split
    · omega
    · have h3 := Tr.cnt_bd k (m - n) (by omega)
      have h4 := Tr.cnts_bd ks (n + k.cnt (m - n)) m h (by omega)
      omega
end
mutual
theorem Tr.cnt_eq : ∀ (t : Tr) (m : Int), 0 ≤ m → t.cnt m ≤ m → t.cnt m = t.size
  | .mk _ _ _ ks, m, h, h2 => by
    rw [Tr.cnt] at h2 ⊢
    rw [Tr.cnts_eq ks 1 m h (by omega) h2, Tr.size]; omega
theorem Tr.cnts_eq : ∀ (ks : List Tr) (n m : Int), 0 ≤ m → n ≤ m + 1 → Tr.cnts ks n m ≤ m → Tr.cnts ks n m = n + Tr.sizes ks
  | [], n, m, h, h2, h3 => by rw [Tr.cnts, Tr.sizes]; omega
  | k :: ks, n, m, h, h2, h3 => by
    rw [Tr.cnts] at h3 ⊢
    split at h3
    · omega
    · rename_i hn
      rw [if_neg hn]
      have h4 := Tr.cnt_bd k (m - n) (by omega)
      have h5 := Tr.cnts_bd ks (n + k.cnt (m - n)) m h (by omega)
      rw [Tr.cnts_eq ks _ m h (by omega) h3, Tr.cnt_eq k (m - n) (by omega) (by omega), Tr.sizes]
      omega
end
theorem Tr.cnts_stop (ks : List Tr) {n m : Int} (h : n > m) : Tr.cnts ks n m = n := by
  cases ks with
  | nil => rw [Tr.cnts]
  | cons k ks => rw [Tr.cnts, if_pos h]
theorem Tr.cnts_drop {ks : List Tr} {z : Nat} {k : Tr} (h : ks[z]? = some k) (n m : Int) (hn : ¬ n > m) : Tr.cnts (ks.drop z) n m = Tr.cnts (ks.drop (z + 1)) (n + k.cnt (m - n)) m := by
  obtain ⟨hlt, rfl⟩ := List.getElem?_eq_some_iff.1 h
  rw [List.drop_eq_getElem_cons hlt, Tr.cnts, if_neg hn]
mutual
def Tr.long : Tr → Bool
  | .mk _ name _ ks => decide ((name.size : Int) > 300) || Tr.longs ks
def Tr.longs : List Tr → Bool
  | [] => false
  | k :: ks => k.long || Tr.longs ks
end
theorem Tr.longs_any : ∀ ks : List Tr, Tr.longs ks = ks.any Tr.long
  | [] => rfl
  | k :: ks => by rw [Tr.longs, Tr.longs_any ks]; rfl
theorem Tr.long_mk (op : Int) (name : ByteArray) (num : Int) (ks : List Tr) : (Tr.mk op name num ks).long = (decide ((name.size : Int) > 300) || ks.any Tr.long) := by rw [Tr.long, Tr.longs_any]
def idxL {α : Type} (p : α → Bool) (xs : List α) : Int := match xs.findIdx? p with | some i => i | none => -1
theorem idxL_step {α : Type} {p : α → Bool} {xs : List α} {z : Nat} {x : α} (h : ∀ i, i < z → ∀ y, xs[i]? = some y → p y = false) (hx : xs[z]? = some x) (hb : p x = false) : ∀ i, i < z + 1 → ∀ y, xs[i]? = some y → p y = false := fun i hi y hy => by
  by_cases hiz : i = z
  · subst hiz; rw [hx] at hy; injection hy with hy; subst hy; exact hb
  · exact h i (by omega) y hy
theorem idxL_found {α : Type} {p : α → Bool} {xs : List α} {z : Nat} {x : α} (h : ∀ i, i < z → ∀ y, xs[i]? = some y → p y = false) (hx : xs[z]? = some x) (hb : p x = true) : PV.d (.int .i64 (z : Nat)) = PV.d (.int .i64 (idxL p xs)) := by
  have hlt := (List.getElem?_eq_some_iff.1 hx).1
  have hxe : xs[z] = x := by rw [List.getElem?_eq_getElem hlt] at hx; injection hx
  have : xs.findIdx? p = some z := by
    rw [List.findIdx?_eq_some_iff_getElem]
    exact ⟨hlt, by rw [hxe]; exact hb, fun j hj => by simpa using h j hj xs[j] (List.getElem?_eq_getElem (by omega))⟩
  simp [idxL, this]
theorem idxL_none {α : Type} {p : α → Bool} {xs : List α} (h : ∀ i, i < xs.length → ∀ y, xs[i]? = some y → p y = false) : PV.d (.int .i64 (-1)) = PV.d (.int .i64 (idxL p xs)) := by
  have : xs.findIdx? p = none := by
    rw [List.findIdx?_eq_none_iff]
    intro x hx
    obtain ⟨i, hi⟩ := List.getElem?_of_mem hx
    exact h i (List.getElem?_eq_some_iff.1 hi).1 x hi
  simp [idxL, this]
theorem idxL_any {α : Type} (p : α → Bool) (xs : List α) : decide (idxL p xs ≥ 0) = xs.any p := by
  unfold idxL
  cases h : xs.findIdx? p with
  | none =>
    rw [List.findIdx?_eq_none_iff] at h
    simp; exact h
  | some i =>
    rw [List.findIdx?_eq_some_iff_getElem] at h
    obtain ⟨h1, h2, _⟩ := h
    have : xs.any p = true := by rw [List.any_eq_true]; exact ⟨xs[i], List.getElem_mem h1, h2⟩
    rw [this]; simp
def Tr.op : Tr → Int
  | .mk op _ _ _ => op
def Tr.nm : Tr → ByteArray
  | .mk _ nm _ _ => nm
def Tr.nu : Tr → Int
  | .mk _ _ nu _ => nu
def Tr.kids : Tr → List Tr
  | .mk _ _ _ ks => ks
theorem Tr.op_mk (op : Int) (nm : ByteArray) (nu : Int) (ks : List Tr) : (Tr.mk op nm nu ks).op = op := rfl
theorem Tr.nm_mk (op : Int) (nm : ByteArray) (nu : Int) (ks : List Tr) : (Tr.mk op nm nu ks).nm = nm := rfl
theorem Tr.nu_mk (op : Int) (nm : ByteArray) (nu : Int) (ks : List Tr) : (Tr.mk op nm nu ks).nu = nu := rfl
theorem Tr.kids_mk (op : Int) (nm : ByteArray) (nu : Int) (ks : List Tr) : (Tr.mk op nm nu ks).kids = ks := rfl
def isExprB (op : Int) : Bool := decide (op ≥ 1) && decide (op ≤ 19) && (op != 3)
def isStmtB (op : Int) : Bool := decide (op ≥ 50) && decide (op ≤ 66)
theorem c74 (op : Int) : Pf Tryz.prog 74 [.int .i64 op] (.d (.bool (isExprB op))) := by
  refine pf_body (rvs := [.tmp 2]) [(0, .d (.int .i64 op))] Tryz.func74 Tryz.ntmps74 Tryz.results74 (fun S0 O0 w0 m0 hm0 => ?_)
  refine gS (gR ?_)
  refine vq rfl qA ?_
  refine gN (tN (gS (gR ?_)))
  refine vq rfl qM ?_
  refine vq rfl q_geq ?_
  refine vq rfl qM ?_
  refine sg rfl (fun hg => qM) ?_
  refine sg rfl (fun hg => sP 6 rfl hg q_leq) ?_
  refine vq rfl q_and ?_
  refine vq rfl qM ?_
  refine sg rfl (fun hg => qM) ?_
  refine sg rfl (fun hg => sP 10 rfl hg q_neq) ?_
  refine vq rfl q_and ?_
  refine vq rfl qA ?_
  refine gN (tN (gT ?_))
  refine fin1 (by simp) ?_
  exact ⟨by simp [isExprB, Bool.and_assoc], rfl⟩
theorem c95 (op : Int) : Pf Tryz.prog 95 [.int .i64 op] (.d (.bool (isStmtB op))) := by
  refine pf_body (rvs := [.tmp 2]) [(0, .d (.int .i64 op))] Tryz.func95 Tryz.ntmps95 Tryz.results95 (fun S0 O0 w0 m0 hm0 => ?_)
  refine gS (gR ?_)
  refine vq rfl qA ?_
  refine gN (tN (gS (gR ?_)))
  refine vq rfl qM ?_
  refine vq rfl q_geq ?_
  refine vq rfl qM ?_
  refine sg rfl (fun hg => qM) ?_
  refine sg rfl (fun hg => sP 6 rfl hg q_leq) ?_
  refine vq rfl q_and ?_
  refine vq rfl qA ?_
  refine gN (tN (gT ?_))
  refine fin1 (by simp) ?_
  exact ⟨by simp [isStmtB], rfl⟩
theorem c99 (t : Tr) : Pf Tryz.prog 99 [t.d] (.d (.bool (isExprB t.op))) := by
  obtain ⟨op, name, num, ks⟩ := t
  rw [Tr.d_mk]
  try simp only [Tr.op_mk]
  refine pf_body (rvs := [.tmp 2]) [(0, .d (.agg [.int .i64 op, .str name, .int .i64 num, .sl (ks.map Tr.d)]))] Tryz.func99 Tryz.ntmps99 Tryz.results99 (fun S0 O0 w0 m0 hm0 => ?_)
  refine gS (gR ?_)
  refine sv rfl y_box ?_
  refine gF 0 [] (.agg [.int .i64 op, .str name, .int .i64 num, .sl (ks.map Tr.d)]) rfl ?_
  refine vq rfl qA ?_
  refine gN (tN (gS (gR ?_)))
  refine vq rfl (qF u27 rfl sz3) ?_
  refine vq rfl (qL u3) ?_
  refine vq rfl q_geq ?_
  refine vq rfl qM ?_
  refine sg rfl (fun hg => qF u27 rfl sz3) ?_
  refine sg rfl (fun hg => sP 7 rfl hg (qL u3)) ?_
  refine sg rfl (fun hg => sP 8 rfl hg q_leq) ?_
  refine vq rfl q_and ?_
  refine vq rfl qM ?_
  refine sg rfl (fun hg => qF u27 rfl sz3) ?_
  refine sg rfl (fun hg => sP 12 rfl hg (qL u3)) ?_
  refine sg rfl (fun hg => sP 13 rfl hg q_neq) ?_
  refine vq rfl q_and ?_
  refine vq rfl qA ?_
  refine gN (tN (gT ?_))
  refine fin1 (by simp) ?_
  exact ⟨by simp [isExprB, Bool.and_assoc], rfl⟩
theorem c125 (ts : List Tr) (g : FuncId) (fa fc : List D) (p : Tr → Bool) (hlim : ts.length ≤ 140737488355328)
    (hcb : ∀ x ∈ ts, Pf Tryz.prog g (fa ++ [x.d] ++ fc) (.d (.bool (p x)))) : Pf Tryz.prog 125 [.sl (ts.map Tr.d), .fn (.func g) fa fc] (.d (.int .i64 (idxL p ts))) := by
  refine pf_body (rvs := [.tmp 4]) [(0, .d (.sl (ts.map Tr.d))), (1, .d (.fn (.func g) fa fc))] Tryz.func125 Tryz.ntmps125 Tryz.results125 (fun S0 O0 w0 m0 hm0 => ?_)
  refine gS (gR ?_)
  refine vq rfl qA ?_
  refine gN (tN (gS (gS (gR ?_))))
  refine vq rfl qM ?_
  refine vq rfl (q_len u22) ?_
  refine vq rfl qM ?_
  refine gN (tN (G_block ?_))
  refine g_loop (α := Nat) (fun z => ⟨[(8, .d (.int .i64 (z : Nat))), (7, .d (.int .i64 ((ts.map Tr.d).length : Nat))), (6, .d (.sl (ts.map Tr.d))), (1, .d (.fn (.func g) fa fc)), (0, .d (.sl (ts.map Tr.d)))], []⟩) (fun z => ts.length - z) (fun z => z ≤ ts.length ∧ ∀ i, i < z → ∀ x, ts[i]? = some x → p x = false) 0 ⟨Nat.zero_le _, by simp⟩ (fun z hz Q' hn0 he0 hr0 => ?_) (le_of)
  obtain ⟨hz1, hz2⟩ := hz
  refine gS (gR ?_)
  refine vq rfl q_lss ?_
  refine gN (tN (gS ?_))
  refine gC (fun hb0 => ?_) (fun hb0 => ?_)
  ·
    have hlt : z < ts.length := by simpa using hb0
    obtain ⟨x, hx⟩ : ∃ x, ts[z]? = some x := ⟨_, List.getElem?_eq_getElem hlt⟩
    have hmem := List.mem_of_getElem? hx
    have hxd := Tr.ds_get hx
    have hcx := hcb x hmem
    obtain ⟨op, name, num, kids⟩ := x
    rw [Tr.d_mk] at hxd hcx
    refine gK (tN (gS (G_block (gS (gR ?_)))))
    refine vq rfl qM ?_
    refine vq rfl qA ?_
    refine gN (tN (gS (gR ?_)))
    refine vq rfl qM ?_
    refine vq rfl qM ?_
    refine vq rfl qM ?_
    refine vq rfl (qI u22 sz27) ?_
    refine vq rfl (qG (by exact sz27) u27 rfl) ?_
    refine gL (xs := [.tmp 15]) rfl (hcx) ?_
    refine gN (tN ?_)
    refine gC (fun hb1 => ?_) (fun hb1 => ?_)
    ·
      refine gS (gR ?_)
      refine vq rfl qM ?_
      refine vq rfl qA ?_
      refine gN (tN (gT (bR (tR ?_))))
      refine hr0 _ ?_
      refine bR (tR ?_)
      exact fin1 (by simp) ⟨idxL_found hz2 hx hb1, rfl⟩
    refine gK (bN (tN (gR ?_)))
    refine vq rfl q_add ?_
    refine vq rfl qM ?_
    refine gN ?_
    refine hn0 _ (z + 1) ⟨by omega, idxL_step hz2 hx hb1⟩ (by omega) le_of
  have hge : z = ts.length := by
    have : ¬ (z : Int) < (ts.map Tr.d).length := by simpa using hb0
    rw [List.length_map] at this
    omega
  refine G_exit (thn_exit ?_)
  refine he0 _ _ ?_
  refine blk_exit (tN (gS (gR ?_)))
  refine vq rfl qA ?_
  refine gN (tN (gT ?_))
  exact fin1 (by simp) ⟨idxL_none (hge ▸ hz2), rfl⟩
theorem c52 (ts : List Tr) (g : FuncId) (fa fc : List D) (p : Tr → Bool) (hlim : ts.length ≤ 140737488355328)
    (hcb : ∀ x ∈ ts, Pf Tryz.prog g (fa ++ [x.d] ++ fc) (.d (.bool (p x)))) : Pf Tryz.prog 52 [.sl (ts.map Tr.d), .fn (.func g) fa fc] (.d (.bool (ts.any p))) := by
  refine pf_body (rvs := [.tmp 4]) [(0, .d (.sl (ts.map Tr.d))), (1, .d (.fn (.func g) fa fc))] Tryz.func52 Tryz.ntmps52 Tryz.results52 (fun S0 O0 w0 m0 hm0 => ?_)
  refine gS (gR ?_)
  refine vq rfl qA ?_
  refine gN (tN (gS (gR ?_)))
  refine vq rfl qM ?_
  refine vq rfl qM ?_
  refine gL (xs := [.tmp 5, .tmp 6]) rfl (c125 ts g fa fc p hlim hcb) ?_
  refine vq rfl q_geq ?_
  refine vq rfl qA ?_
  refine gN (tN (gT ?_))
  refine fin1 (by simp) ?_
  exact ⟨by rw [idxL_any], rfl⟩
theorem c68n : ∀ (n : Nat) (t : Tr), t.size ≤ n → t.Ok → Pf Tryz.prog 68 [t.d] (.d (.bool t.long)) := by
  intro n
  induction n with
  | zero => intro t h; exact absurd t.size_pos (by omega)
  | succ n ih =>
    intro t hsz hok
    obtain ⟨op, name, num, ks⟩ := t
    have hkd : ∀ k ∈ ks, k.size ≤ n := fun k hk => by
      have := Tr.size_mem hk
      rw [Tr.size] at hsz
      omega
    rw [Tr.d_mk]
    cases hok with | mk h1 h2 h3 h4 h5 =>
    refine pf_body (rvs := [.tmp 2]) [(0, .d (.agg [.int .i64 op, .str name, .int .i64 num, .sl (ks.map Tr.d)]))] Tryz.func68 Tryz.ntmps68 Tryz.results68 (fun S0 O0 w0 m0 hm0 => ?_)
    refine gS (gR ?_)
    refine sv rfl y_box ?_
    refine gF 0 [] (.agg [.int .i64 op, .str name, .int .i64 num, .sl (ks.map Tr.d)]) rfl ?_
    refine vq rfl qA ?_
    refine gN (tN (gS (gR ?_)))
    refine vq rfl (qF u27 rfl sz9) ?_
    refine vq rfl (qL u9) ?_
    refine vq rfl (q_lenstr u9) ?_
    refine vq rfl q_gtr ?_
    refine vq rfl qM ?_
    refine sg rfl (fun hg => qF u27 rfl sz22) ?_
    refine sg rfl (fun hg => sP 8 rfl hg (qL u22)) ?_
    refine g_callg (xs := [.tmp 9, .func 68]) rfl (fun hg => c52 ks 68 [] [] Tr.long h4 (fun x hx => ih x (hkd x hx) (h5 x hx))) ?_
    refine vq rfl q_or ?_
    refine vq rfl qA ?_
    refine gN (tN (gT ?_))
    refine fin1 (by simp) ?_
    exact ⟨by rw [Tr.long_mk], rfl⟩
theorem c21n : ∀ (n : Nat) (t : Tr), t.size ≤ n → t.Ok → ∀ most : Int, 0 ≤ most → most ≤ 1000000 → Pf Tryz.prog 21 [t.d, .int .i64 most] (.d (.int .i64 (t.cnt most))) := by
  intro n
  induction n with
  | zero => intro t h; exact absurd t.size_pos (by omega)
  | succ n ih =>
    intro t hsz hok most hm0' hm1'
    obtain ⟨op, name, num, ks⟩ := t
    have hkd : ∀ k ∈ ks, k.size ≤ n := fun k hk => by
      have := Tr.size_mem hk
      rw [Tr.size] at hsz
      omega
    rw [Tr.d_mk]
    cases hok with | mk h1 h2 h3 h4 h5 =>
    refine pf_body (rvs := [.tmp 4]) [(0, .d (.agg [.int .i64 op, .str name, .int .i64 num, .sl (ks.map Tr.d)])), (1, .d (.int .i64 most))] Tryz.func21 Tryz.ntmps21 Tryz.results21 (fun S0 O0 w0 m0 hm0 => ?_)
    refine gS (gR ?_)
    refine sv rfl y_box ?_
    refine gF 0 [] (.agg [.int .i64 op, .str name, .int .i64 num, .sl (ks.map Tr.d)]) rfl ?_
    refine vq rfl qA ?_
    refine gN (tN (gS (gR ?_)))
    refine vq rfl qA ?_
    refine gN (tN (gS (gS (gR ?_))))
    refine vq rfl (qF u27 rfl sz22) ?_
    refine vq rfl (qL u22) ?_
    refine vq rfl (q_len u22) ?_
    refine vq rfl qM ?_
    refine gN (tN (G_block ?_))
    refine g_loop (α := Nat × Int) (fun z => ⟨[(11, .d (.int .i64 (z.1 : Nat))), (10, .d (.int .i64 ((ks.map Tr.d).length : Nat))), (9, .d (.sl (ks.map Tr.d))), (5, .d (.int .i64 z.2)), (1, .d (.int .i64 most))], []⟩) (fun z => ks.length - z.1) (fun z => z.1 ≤ ks.length ∧ 1 ≤ z.2 ∧ z.2 ≤ most + 1 ∧ Tr.cnts (ks.drop z.1) z.2 most = Tr.cnts ks 1 most) (0, 1) ⟨Nat.zero_le _, by show (1 : Int) ≤ 1; omega, by show (1 : Int) ≤ most + 1; omega, rfl⟩ (fun z hz Q' hn0 he0 hr0 => ?_) (le_of)
    obtain ⟨z, c⟩ := z
    obtain ⟨hz1, hc1, hc2, hc3⟩ := hz
    replace hz1 : z ≤ ks.length := hz1
    replace hc1 : 1 ≤ c := hc1
    replace hc2 : c ≤ most + 1 := hc2
    replace hc3 : Tr.cnts (ks.drop z) c most = Tr.cnts ks 1 most := hc3
    refine gS (gR ?_)
    refine vq rfl q_lss ?_
    refine gN (tN (gS ?_))
    refine gC (fun hb0 => ?_) (fun hb0 => ?_)
    ·
      have hlt : z < ks.length := by simpa using hb0
      obtain ⟨k, hk⟩ : ∃ k, ks[z]? = some k := ⟨_, List.getElem?_eq_getElem hlt⟩
      have hmem := List.mem_of_getElem? hk
      have hxd := Tr.ds_get hk
      have hxa := hxd
      obtain ⟨kop, knm, knu, kks, hka⟩ := k.d_agg
      rw [hka] at hxa
      refine gK (tN (gS (G_block (gS (gR ?_)))))
      refine vq rfl (qI u22 sz27) ?_
      refine vq rfl (qG (by exact sz27) u27 rfl) ?_
      refine sv rfl (y_alloc zr27) ?_
      refine sa rfl (dS sz27) ?_
      refine gF 0 [] (.agg [.int .i64 kop, .str knm, .int .i64 knu, .sl (kks.map Tr.d)]) rfl ?_
      refine gN (tN (gS (gS (gR ?_))))
      refine vq rfl qM ?_
      refine vq rfl qM ?_
      refine vq rfl q_gtr ?_
      refine gN (tN ?_)
      refine gC (fun hb1 => ?_) (fun hb1 => ?_)
      ·
        have hnn : c > most := by simpa using hb1
        refine G_exit (thn_exit (blk_other (by decide) (thn_exit ?_)))
        refine he0 _ _ ?_
        refine blk_exit (tN (gS (gR ?_)))
        refine vq rfl qM ?_
        refine vq rfl qA ?_
        refine gN (tN (gT ?_))
        refine fin1 (by simp) ?_
        exact ⟨by rw [Tr.cnt, ← hc3, Tr.cnts_stop _ hnn], rfl⟩
      have hnn : ¬ c > most := by simpa using hb1
      have hbd := Tr.cnt_bd k (most - c) (by omega)
      refine gK (tN (gR ?_))
      refine vq rfl qM ?_
      refine vq rfl (qG (by exact sz27) u27 rfl) ?_
      refine vq rfl qM ?_
      refine vq rfl qM ?_
      refine vq rfl q_sub ?_
      refine gL (xs := [.tmp 19, .tmp 22]) rfl ((hka ▸ ih k (hkd k hmem) (h5 k hmem) (most - c) (by omega) (by omega))) ?_
      refine vq rfl q_add ?_
      refine vq rfl qA ?_
      refine gN (bN (tN ?_))
      refine gP [0, 1, 2, 4, 5, 7, 9, 10, 11] ?_
      refine gR ?_
      refine vq rfl q_add ?_
      refine vq rfl qM ?_
      refine gN ?_
      refine hn0 _ (z + 1, c + k.cnt (most - c)) ⟨by show z + 1 ≤ ks.length; omega, by show 1 ≤ c + k.cnt (most - c); omega, by show c + k.cnt (most - c) ≤ most + 1; omega, by show Tr.cnts (ks.drop (z + 1)) (c + k.cnt (most - c)) most = _; rw [← Tr.cnts_drop hk c most hnn]; exact hc3⟩ (by show ks.length - (z + 1) < ks.length - z; omega) le_of
    have hge : z = ks.length := by
      have : ¬ (z : Int) < (ks.map Tr.d).length := by simpa using hb0
      rw [List.length_map] at this
      omega
    refine G_exit (thn_exit ?_)
    refine he0 _ _ ?_
    refine blk_exit (tN (gS (gR ?_)))
    refine vq rfl qM ?_
    refine vq rfl qA ?_
    refine gN (tN (gT ?_))
    refine fin1 (by simp) ?_
    exact ⟨by rw [Tr.cnt, ← hc3, hge, List.drop_length, Tr.cnts], rfl⟩
theorem c137 (ks : List Tr) (n most : Int) (h4 : ks.length ≤ 140737488355328) (h5 : ∀ k ∈ ks, k.Ok) (hm0' : 0 ≤ most) (hm1' : most ≤ 1000000) (hn0 : 0 ≤ n) (hn1 : n ≤ most + 1) : Gm Tryz.prog 137 [.d (.sl (ks.map Tr.d)), .ref 0 0, .d (.ptr (.int .i64 most))] [[.d (.int .i64 n)]] (.tup []) [[.d (.int .i64 (Tr.cnts ks n most))]] := by
  refine gm_body (rvs := []) 1 [(0, .d (.sl (ks.map Tr.d))), (1, .ref 0 0), (2, .d (.ptr (.int .i64 most)))] Tryz.func137 Tryz.ntmps137 Tryz.results137 (fun S0 O0 w0 m0 hm0 => ?_)
  refine gS (gR ?_)
  refine vq rfl qM ?_
  refine vq rfl (q_len u22) ?_
  refine vq rfl qM ?_
  refine gN (tN (G_block ?_))
  refine g_loop (α := Nat × Int) (fun z => ⟨[(8, .d (.int .i64 (z.1 : Nat))), (7, .d (.int .i64 ((ks.map Tr.d).length : Nat))), (6, .d (.sl (ks.map Tr.d))), (1, .ref 0 0), (2, .d (.ptr (.int .i64 most)))], [[.d (.int .i64 z.2)]]⟩) (fun z => ks.length - z.1) (fun z => z.1 ≤ ks.length ∧ 0 ≤ z.2 ∧ z.2 ≤ most + 1 ∧ Tr.cnts (ks.drop z.1) z.2 most = Tr.cnts ks n most) (0, n) ⟨Nat.zero_le _, hn0, hn1, rfl⟩ (fun z hz Q' hn0 he0 hr0 => ?_) (le_of)
  obtain ⟨z, c⟩ := z
  obtain ⟨hz1, hc1, hc2, hc3⟩ := hz
  replace hz1 : z ≤ ks.length := hz1
  replace hc1 : 0 ≤ c := hc1
  replace hc2 : c ≤ most + 1 := hc2
  replace hc3 : Tr.cnts (ks.drop z) c most = Tr.cnts ks n most := hc3
  refine gS (gR ?_)
  refine vq rfl q_lss ?_
  refine gN (tN (gS ?_))
  refine gC (fun hb0 => ?_) (fun hb0 => ?_)
  ·
    have hlt : z < ks.length := by simpa using hb0
    obtain ⟨k, hk⟩ : ∃ k, ks[z]? = some k := ⟨_, List.getElem?_eq_getElem hlt⟩
    have hmem := List.mem_of_getElem? hk
    have hxd := Tr.ds_get hk
    have hxa := hxd
    obtain ⟨kop, knm, knu, kks, hka⟩ := k.d_agg
    rw [hka] at hxa
    refine gK (tN (gS (G_block (gS (gR ?_)))))
    refine vq rfl (qI u22 sz27) ?_
    refine vq rfl (qG (by exact sz27) u27 rfl) ?_
    refine sv rfl (y_alloc zr27) ?_
    refine sa rfl (dS sz27) ?_
    refine gF 1 [[.d (.int .i64 c)]] (.agg [.int .i64 kop, .str knm, .int .i64 knu, .sl (kks.map Tr.d)]) rfl ?_
    refine gN (tN (gS (gR ?_)))
    refine sv rfl (y_load_leaf u3) ?_
    refine vq rfl (qL u3) ?_
    refine vq rfl q_leq ?_
    refine gN (tN ?_)
    refine gC (fun hb1 => ?_) (fun hb1 => ?_)
    ·
      have hnn : ¬ c > most := by simpa using hb1
      have hbd := Tr.cnt_bd k (most - c) (by omega)
      refine G_drawB 8 rfl (by kernel_rfl) (fun S1 O1 w1 m1 hm1 hm2 => ?_)
      have hB1 : ∀ i, i < m1.length → (List.range m1.length).contains i = true := fun i hi => by simpa using hi
      refine bq 1 hB1 rfl (qG (by exact sz27) u27 rfl) ?_
      refine bq 2 hB1 rfl (qL u3) ?_
      refine GB_go ?_
      refine ga2 0 3 ?_ ?_
      ·
        refine sv rfl (y_load_leaf u3) ?_
        refine gN ⟨rfl, ?_⟩
        refine ga1 3 ?_
        refine sv rfl (y_load_leaf u3) ?_
        refine gN ⟨rfl, ?_⟩
        refine ga1 4 ?_
        refine vq rfl q_sub ?_
        refine gN ⟨rfl, ?_⟩
        refine ga1 5 ?_
        refine gL (xs := [.tmp 16, .tmp 19]) rfl ((hka ▸ c21n k.size k (Nat.le_refl _) (h5 k hmem) (most - c) (by omega) (by omega))) ?_
        refine gN ⟨rfl, ?_⟩
        refine ga1 6 ?_
        refine vq rfl q_add ?_
        refine gN ⟨rfl, ?_⟩
        refine ga1 7 ?_
        refine sa rfl (dS sz3) ?_
        refine gN ⟨rfl, ?_⟩
        refine GA_done (by kernel_rfl) ?_
        refine bN (tN ?_)
        refine gP [0, 1, 2, 5, 6, 7, 8] ?_
        refine gR ?_
        refine vq rfl q_add ?_
        refine vq rfl qM ?_
        refine gN ?_
        refine hn0 _ (z + 1, c + k.cnt (most - c)) ⟨by show z + 1 ≤ ks.length; omega, by show 0 ≤ c + k.cnt (most - c); omega, by show c + k.cnt (most - c) ≤ most + 1; omega, by show Tr.cnts (ks.drop (z + 1)) (c + k.cnt (most - c)) most = _; rw [← Tr.cnts_drop hk c most hnn]; exact hc3⟩ (by show ks.length - (z + 1) < ks.length - z; omega) le_of
      refine sv rfl (y_load_leaf u3) ?_
      refine gN ⟨rfl, ?_⟩
      refine ga2 0 4 ?_ ?_
      ·
        refine sv rfl (y_load_leaf u3) ?_
        refine gN ⟨rfl, ?_⟩
        refine ga1 4 ?_
        refine vq rfl q_sub ?_
        refine gN ⟨rfl, ?_⟩
        refine ga1 5 ?_
        refine gL (xs := [.tmp 16, .tmp 19]) rfl ((hka ▸ c21n k.size k (Nat.le_refl _) (h5 k hmem) (most - c) (by omega) (by omega))) ?_
        refine gN ⟨rfl, ?_⟩
        refine ga1 6 ?_
        refine vq rfl q_add ?_
        refine gN ⟨rfl, ?_⟩
        refine ga1 7 ?_
        refine sa rfl (dS sz3) ?_
        refine gN ⟨rfl, ?_⟩
        refine GA_done (by kernel_rfl) ?_
        refine bN (tN ?_)
        refine gP [0, 1, 2, 5, 6, 7, 8] ?_
        refine gR ?_
        refine vq rfl q_add ?_
        refine vq rfl qM ?_
        refine gN ?_
        refine hn0 _ (z + 1, c + k.cnt (most - c)) ⟨by show z + 1 ≤ ks.length; omega, by show 0 ≤ c + k.cnt (most - c); omega, by show c + k.cnt (most - c) ≤ most + 1; omega, by show Tr.cnts (ks.drop (z + 1)) (c + k.cnt (most - c)) most = _; rw [← Tr.cnts_drop hk c most hnn]; exact hc3⟩ (by show ks.length - (z + 1) < ks.length - z; omega) le_of
      refine vq rfl q_sub ?_
      refine gN ⟨rfl, ?_⟩
      refine ga2 0 5 ?_ ?_
      ·
        refine sv rfl (y_load_leaf u3) ?_
        refine gN ⟨rfl, ?_⟩
        refine ga1 5 ?_
        refine gL (xs := [.tmp 16, .tmp 19]) rfl ((hka ▸ c21n k.size k (Nat.le_refl _) (h5 k hmem) (most - c) (by omega) (by omega))) ?_
        refine gN ⟨rfl, ?_⟩
        refine ga1 6 ?_
        refine vq rfl q_add ?_
        refine gN ⟨rfl, ?_⟩
        refine ga1 7 ?_
        refine sa rfl (dS sz3) ?_
        refine gN ⟨rfl, ?_⟩
        refine GA_done (by kernel_rfl) ?_
        refine bN (tN ?_)
        refine gP [0, 1, 2, 5, 6, 7, 8] ?_
        refine gR ?_
        refine vq rfl q_add ?_
        refine vq rfl qM ?_
        refine gN ?_
        refine hn0 _ (z + 1, c + k.cnt (most - c)) ⟨by show z + 1 ≤ ks.length; omega, by show 0 ≤ c + k.cnt (most - c); omega, by show c + k.cnt (most - c) ≤ most + 1; omega, by show Tr.cnts (ks.drop (z + 1)) (c + k.cnt (most - c)) most = _; rw [← Tr.cnts_drop hk c most hnn]; exact hc3⟩ (by show ks.length - (z + 1) < ks.length - z; omega) le_of
      refine gL (xs := [.tmp 16, .tmp 19]) rfl ((hka ▸ c21n k.size k (Nat.le_refl _) (h5 k hmem) (most - c) (by omega) (by omega))) ?_
      refine gN ⟨rfl, ?_⟩
      refine ga1 0 ?_
      refine sv rfl (y_load_leaf u3) ?_
      refine gN ⟨rfl, ?_⟩
      refine ga1 6 ?_
      refine vq rfl q_add ?_
      refine gN ⟨rfl, ?_⟩
      refine ga1 7 ?_
      refine sa rfl (dS sz3) ?_
      refine gN ⟨rfl, ?_⟩
      refine GA_done (by kernel_rfl) ?_
      refine bN (tN ?_)
      refine gP [0, 1, 2, 5, 6, 7, 8] ?_
      refine gR ?_
      refine vq rfl q_add ?_
      refine vq rfl qM ?_
      refine gN ?_
      refine hn0 _ (z + 1, c + k.cnt (most - c)) ⟨by show z + 1 ≤ ks.length; omega, by show 0 ≤ c + k.cnt (most - c); omega, by show c + k.cnt (most - c) ≤ most + 1; omega, by show Tr.cnts (ks.drop (z + 1)) (c + k.cnt (most - c)) most = _; rw [← Tr.cnts_drop hk c most hnn]; exact hc3⟩ (by show ks.length - (z + 1) < ks.length - z; omega) le_of
    have hnn : c > most := by simpa using hb1
    refine gK (bN (tN (gR ?_)))
    refine vq rfl q_add ?_
    refine vq rfl qM ?_
    refine gN ?_
    refine hn0 _ (z + 1, c) ⟨by show z + 1 ≤ ks.length; omega, hc1, hc2, by show Tr.cnts (ks.drop (z + 1)) c most = _; rw [← hc3, Tr.cnts_stop _ hnn, Tr.cnts_stop _ hnn]⟩ (by show ks.length - (z + 1) < ks.length - z; omega) le_of
  have hge : z = ks.length := by
    have : ¬ (z : Int) < (ks.map Tr.d).length := by simpa using hb0
    rw [List.length_map] at this
    omega
  refine G_exit (thn_exit ?_)
  refine he0 _ _ ?_
  refine blk_exit ?_
  exact ⟨by simp, .inl ⟨[], [[.d (.int .i64 c)]], .nil, Nat.le_refl _, MSub.cons (CSub.cons (.inl rfl) rfl .nil) .nil, rfl, rfl, by rw [← hc3, hge, List.drop_length, Tr.cnts]⟩⟩
set_option maxHeartbeats 1000000 in
theorem c67 (t : Tr) (most : Int) (hok : t.Ok) (hm0' : 0 ≤ most) (hm1' : most ≤ 1000000) : Pf Tryz.prog 67 [.agg [.sl [t.d], .sl []], .int .i64 most] (.d (.int .i64 (Tr.cnts [t] 0 most))) := by
  refine pf_body (rvs := [.tmp 4]) [(0, .d (.agg [.sl [t.d], .sl []])), (1, .d (.int .i64 most))] Tryz.func67 Tryz.ntmps67 Tryz.results67 (fun S0 O0 w0 m0 hm0 => ?_)
  refine gS (gR ?_)
  refine sv rfl y_box ?_
  refine gF 0 [] (.agg [.sl [t.d], .sl []]) rfl ?_
  refine sv rfl y_box ?_
  refine gF 0 [] (.int .i64 most) rfl ?_
  refine vq rfl qA ?_
  refine gN (tN (gS (gR ?_)))
  refine sv rfl (y_alloc zr3) ?_
  refine sa rfl (dS sz3) ?_
  refine gN (tN (gS (gR ?_)))
  refine vq rfl (q_makeFunc (xs := []) (ys := [.tmp 5, .tmp 3])) ?_
  refine vq rfl qA ?_
  refine gN (tN (gS (gR ?_)))
  refine vq rfl qM ?_
  refine vq rfl (qF u25 rfl sz22) ?_
  refine vq rfl (qL u22) ?_
  refine g_callm [0] (xs := [.tmp 14]) rfl (c137 [t] 0 most (by simp) (by simpa using hok) hm0' hm1' (by omega) (by omega)) ?_
  refine gN (tN (gS (gS (gR ?_))))
  refine vq rfl (qF u25 rfl sz23) ?_
  refine vq rfl (qL u23) ?_
  refine vq rfl (q_len u23) ?_
  refine vq rfl qM ?_
  refine gN (tN (G_block ?_))
  refine g_loop (α := Unit) (fun z => ⟨[(19, .d (.int .i64 0)), (18, .d (.int .i64 0)), (17, .d (.sl [])), (5, .ref 0 0)], [[.d (.int .i64 (Tr.cnts [t] 0 most))]]⟩) (fun z => 0) (fun z => True) () trivial (fun z hz Q' hn0 he0 hr0 => ?_) (le_of)
  skip
  refine gS (gR ?_)
  refine vq rfl q_lss ?_
  refine gN (tN (gS ?_))
  refine gC (fun hb0 => ?_) (fun hb0 => ?_)
  ·
    exact absurd hb0 (by decide)
  refine G_exit (thn_exit ?_)
  refine he0 _ _ ?_
  refine blk_exit (tN (gS (gR ?_)))
  refine sv rfl (y_load_leaf u3) ?_
  refine vq rfl qA ?_
  refine gN (tN (gT ?_))
  refine fin1 (by simp) ?_
  exact ⟨rfl, rfl⟩
theorem c123 (g : FuncId) (fa fc : List D) : Pf Tryz.prog 123 [.sl [], .fn (.func g) fa fc] (.d (.int .i64 (-1))) := by
  refine pf_body (rvs := [.tmp 4]) [(0, .d (.sl [])), (1, .d (.fn (.func g) fa fc))] Tryz.func123 Tryz.ntmps123 Tryz.results123 (fun S0 O0 w0 m0 hm0 => ?_)
  refine gS (gR ?_)
  refine vq rfl qA ?_
  refine gN (tN (gS (gS (gR ?_))))
  refine vq rfl qM ?_
  refine vq rfl (q_len u23) ?_
  refine vq rfl qM ?_
  refine gN (tN (G_block ?_))
  refine g_loop (α := Unit) (fun z => ⟨[(8, .d (.int .i64 0)), (7, .d (.int .i64 0))], []⟩) (fun z => 0) (fun z => True) () trivial (fun z hz Q' hn0 he0 hr0 => ?_) (le_of)
  skip
  refine gS (gR ?_)
  refine vq rfl q_lss ?_
  refine gN (tN (gS ?_))
  refine gC (fun hb0 => ?_) (fun hb0 => ?_)
  ·
    exact absurd hb0 (by decide)
  refine G_exit (thn_exit ?_)
  refine he0 _ _ ?_
  refine blk_exit (tN (gS (gR ?_)))
  refine vq rfl qA ?_
  refine gN (tN (gT ?_))
  refine fin1 (by simp) ?_
  exact ⟨rfl, rfl⟩
theorem c63 (g : FuncId) (fa fc : List D) : Pf Tryz.prog 63 [.sl [], .fn (.func g) fa fc] (.d (.bool false)) := by
  refine pf_body (rvs := [.tmp 4]) [(0, .d (.sl [])), (1, .d (.fn (.func g) fa fc))] Tryz.func63 Tryz.ntmps63 Tryz.results63 (fun S0 O0 w0 m0 hm0 => ?_)
  refine gS (gR ?_)
  refine vq rfl qA ?_
  refine gN (tN (gS (gR ?_)))
  refine vq rfl qM ?_
  refine vq rfl qM ?_
  refine gL (xs := [.tmp 5, .tmp 6]) rfl (c123 g fa fc) ?_
  refine vq rfl q_geq ?_
  refine vq rfl qA ?_
  refine gN (tN (gT ?_))
  refine fin1 (by simp) ?_
  exact ⟨rfl, rfl⟩
def Tr.few (t : Tr) (most : Int) : Bool := !(decide (Tr.cnts [t] 0 most > most) || t.long)
set_option maxHeartbeats 1000000 in
theorem c14 (t : Tr) (most : Int) (hok : t.Ok) (hm0' : 0 ≤ most) (hm1' : most ≤ 1000000) : Pf Tryz.prog 14 [.agg [.sl [t.d], .sl []], .int .i64 most] (.d (.bool (t.few most))) := by
  refine pf_body (rvs := [.tmp 4]) [(0, .d (.agg [.sl [t.d], .sl []])), (1, .d (.int .i64 most))] Tryz.func14 Tryz.ntmps14 Tryz.results14 (fun S0 O0 w0 m0 hm0 => ?_)
  refine gS (gR ?_)
  refine sv rfl y_box ?_
  refine gF 0 [] (.agg [.sl [t.d], .sl []]) rfl ?_
  refine vq rfl qA ?_
  refine gN (tN (gS (gS (gR ?_))))
  refine vq rfl (qG (by exact sz25) u25 rfl) ?_
  refine vq rfl qM ?_
  refine gL (xs := [.tmp 5, .tmp 6]) rfl (c67 t most hok hm0' hm1') ?_
  refine vq rfl qM ?_
  refine vq rfl q_gtr ?_
  refine vq rfl qM ?_
  refine sg rfl (fun hg => qF u25 rfl sz22) ?_
  refine sg rfl (fun hg => sP 11 rfl hg (qL u22)) ?_
  refine g_callg (xs := [.tmp 12, .func 68]) rfl (fun hg => c52 [t] 68 [] [] Tr.long (by simp) (fun x hx => by rw [List.mem_singleton.1 hx]; exact c68n _ t (Nat.le_refl _) hok)) ?_
  refine vq rfl q_or ?_
  refine gN (tN ?_)
  refine gC (fun hb0 => ?_) (fun hb0 => ?_)
  ·
    have hfe : t.few most = false := by unfold Tr.few; simp only [List.any_cons, List.any_nil, Bool.or_false] at hb0; rw [hb0]; rfl
    refine gS ?_
    refine gP [0, 1, 2, 4] ?_
    refine gR ?_
    refine vq rfl qA ?_
    refine gN (tN (gT (tR ?_)))
    refine fin1 (by simp) ?_
    exact ⟨by rw [hfe], rfl⟩
  have hfe : t.few most = true := by unfold Tr.few; simp only [List.any_cons, List.any_nil, Bool.or_false] at hb0; rw [hb0]; rfl
  refine gK (tN (gS ?_))
  refine gP [0, 1, 2, 4] ?_
  refine gR ?_
  refine vq rfl (qF u25 rfl sz23) ?_
  refine vq rfl (qL u23) ?_
  refine gL (xs := [.tmp 16, .func 69]) rfl (c63 69 [] []) ?_
  refine vq rfl q_not ?_
  refine vq rfl qA ?_
  refine gN (tN (gT ?_))
  refine fin1 (by simp) ?_
  exact ⟨by rw [hfe]; rfl, rfl⟩
theorem c26 (t : Tr) (most : Int) (hok : t.Ok) (hm0' : 0 ≤ most) (hm1' : most ≤ 1000000) : Pf Tryz.prog 26 [t.d, .int .i64 most] (.d (.bool (t.few most))) := by
  refine pf_body (rvs := [.tmp 4]) [(0, .d t.d), (1, .d (.int .i64 most))] Tryz.func26 Tryz.ntmps26 Tryz.results26 (fun S0 O0 w0 m0 hm0 => ?_)
  refine gS (gR ?_)
  obtain ⟨kop, knm, knu, kks, hka⟩ := t.d_agg
  have h37 := c14 t most hok hm0' hm1'
  rw [hka] at h37 ⊢
  refine sv rfl y_box ?_
  refine gF 0 [] (.agg [.int .i64 kop, .str knm, .int .i64 knu, .sl (kks.map Tr.d)]) rfl ?_
  refine vq rfl qA ?_
  refine gN (tN (gS (gR ?_)))
  refine vq rfl (qG (by exact sz27) u27 rfl) ?_
  refine sv rfl (y_buildSlice (xs := [.tmp 5]) u22 inf27) ?_
  refine vq rfl (q_buildS pl25 zr25) ?_
  refine vq rfl qM ?_
  refine gL (xs := [.tmp 7, .tmp 8]) rfl (h37) ?_
  refine vq rfl qA ?_
  refine gN (tN (gT ?_))
  refine fin1 (by simp) ?_
  exact ⟨rfl, rfl⟩
theorem Tr.few_size {t : Tr} {most : Int} (h0 : 0 ≤ most) (h : t.few most = true) : (t.size : Int) ≤ most ∧ t.long = false := by
  unfold Tr.few at h
  simp only [Bool.not_eq_true', Bool.or_eq_false_iff, decide_eq_false_iff_not] at h
  obtain ⟨h1, h2⟩ := h
  have h3 := Tr.cnts_eq [t] 0 most h0 (by omega) (by omega)
  simp only [Tr.sizes] at h3
  exact ⟨by omega, h2⟩
theorem c47t (xs ys : List Tr) (g : FuncId) (hlen : xs.length = ys.length) (hlim : xs.length ≤ 140737488355328)
    (hcb : ∀ (i : Nat) x y, xs[i]? = some x → ys[i]? = some y → Pf Tryz.prog g [x.d, y.d] (.d (.bool true))) : Pf Tryz.prog 47 [.sl (xs.map Tr.d), .sl (ys.map Tr.d), .fn (.func g) [] []] (.d (.bool true)) := by
  refine pf_body (rvs := [.tmp 6]) [(0, .d (.sl (xs.map Tr.d))), (1, .d (.sl (ys.map Tr.d))), (2, .d (.fn (.func g) [] []))] Tryz.func47 Tryz.ntmps47 Tryz.results47 (fun S0 O0 w0 m0 hm0 => ?_)
  refine gS (gR ?_)
  refine vq rfl qA ?_
  refine gN (tN (gS (gS (gR ?_))))
  refine vq rfl qM ?_
  refine vq rfl (q_len u22) ?_
  refine vq rfl qM ?_
  refine vq rfl (q_len u22) ?_
  refine vq rfl q_neq ?_
  refine gN (tN ?_)
  refine gC (fun hb0 => ?_) (fun hb0 => ?_)
  ·
    exfalso
    simp [hlen] at hb0
    skip
  refine gK (tN (gS (gS (gR ?_))))
  refine vq rfl qM ?_
  refine vq rfl (q_len u22) ?_
  refine vq rfl qM ?_
  refine gN (tN (G_block ?_))
  refine g_loop (α := Nat) (fun z => ⟨[(17, .d (.int .i64 (z : Nat))), (16, .d (.int .i64 ((xs.map Tr.d).length : Nat))), (15, .d (.sl (xs.map Tr.d))), (1, .d (.sl (ys.map Tr.d))), (2, .d (.fn (.func g) [] []))], []⟩) (fun z => xs.length - z) (fun z => z ≤ xs.length) 0 (Nat.zero_le _) (fun z hz Q' hn0 he0 hr0 => ?_) (le_of)
  skip
  refine gS (gR ?_)
  refine vq rfl q_lss ?_
  refine gN (tN (gS ?_))
  refine gC (fun hb1 => ?_) (fun hb1 => ?_)
  ·
    have hlt : z < xs.length := by simpa using hb1
    obtain ⟨x, hx⟩ : ∃ x, xs[z]? = some x := ⟨_, List.getElem?_eq_getElem hlt⟩
    obtain ⟨y, hy⟩ : ∃ y, ys[z]? = some y := ⟨_, List.getElem?_eq_getElem (hlen ▸ hlt)⟩
    have hcx := hcb z x y hx hy
    have hxd := Tr.ds_get hx
    have hyd := Tr.ds_get hy
    obtain ⟨xop, xnm, xnu, xks, hxa⟩ := x.d_agg
    obtain ⟨yop, ynm, ynu, yks, hya⟩ := y.d_agg
    rw [hxa] at hxd hcx
    rw [hya] at hyd hcx
    refine gK (tN (gS (G_block (gS (gR ?_)))))
    refine vq rfl qM ?_
    refine vq rfl (qI u22 sz27) ?_
    refine vq rfl (qG (by exact sz27) u27 rfl) ?_
    refine sv rfl (y_alloc zr27) ?_
    refine vq rfl qA ?_
    refine sa rfl (dS sz27) ?_
    refine gN (tN (gS (gR ?_)))
    refine vq rfl qM ?_
    refine vq rfl qM ?_
    refine vq rfl (qI u22 sz27) ?_
    refine vq rfl (qG (by exact sz27) u27 rfl) ?_
    refine sv rfl (y_alloc zr27) ?_
    refine sa rfl (dS sz27) ?_
    refine gN (tN (gS ?_))
    refine gP [0, 1, 2, 6, 7, 8, 9, 15, 16, 17] ?_
    refine gR ?_
    refine vq rfl qM ?_
    refine sv rfl (y_load_agg sz27 u27 rfl) ?_
    refine sv rfl (y_load_agg sz27 u27 rfl) ?_
    refine gL (xs := [.tmp 27, .tmp 28]) rfl (hcx) ?_
    refine vq rfl q_not ?_
    refine gN (tN ?_)
    refine gC (fun hb2 => ?_) (fun hb2 => ?_)
    ·
      exact absurd hb2 (by decide)
    refine gK (bN (tN (gR ?_)))
    refine vq rfl q_add ?_
    refine vq rfl qM ?_
    refine gN ?_
    refine hn0 _ (z + 1) (by omega) (by omega) le_of
  refine G_exit (thn_exit ?_)
  refine he0 _ _ ?_
  refine blk_exit (tN (gS (gR ?_)))
  refine vq rfl qA ?_
  refine gN (tN (gT ?_))
  refine fin1 (by simp) ?_
  exact ⟨rfl, rfl⟩
theorem c30n : ∀ (n : Nat) (t : Tr), t.size ≤ n → t.Ok → Pf Tryz.prog 30 [t.d, t.d] (.d (.bool true)) := by
  intro n
  induction n with
  | zero => intro t h; exact absurd t.size_pos (by omega)
  | succ n ih =>
    intro t hsz hok
    obtain ⟨op, name, num, ks⟩ := t
    have hkd : ∀ k ∈ ks, k.size ≤ n := fun k hk => by
      have := Tr.size_mem hk
      rw [Tr.size] at hsz
      omega
    rw [Tr.d_mk]
    cases hok with | mk h1 h2 h3 h4 h5 =>
    refine pf_body (rvs := [.tmp 4]) [(0, .d (.agg [.int .i64 op, .str name, .int .i64 num, .sl (ks.map Tr.d)])), (1, .d (.agg [.int .i64 op, .str name, .int .i64 num, .sl (ks.map Tr.d)]))] Tryz.func30 Tryz.ntmps30 Tryz.results30 (fun S0 O0 w0 m0 hm0 => ?_)
    refine gS (gR ?_)
    refine sv rfl y_box ?_
    refine gF 0 [] (.agg [.int .i64 op, .str name, .int .i64 num, .sl (ks.map Tr.d)]) rfl ?_
    refine sv rfl y_box ?_
    refine gF 0 [] (.agg [.int .i64 op, .str name, .int .i64 num, .sl (ks.map Tr.d)]) rfl ?_
    refine vq rfl qA ?_
    refine gN (tN (gS (gR ?_)))
    refine vq rfl (qF u27 rfl sz3) ?_
    refine vq rfl (qL u3) ?_
    refine vq rfl (qF u27 rfl sz3) ?_
    refine vq rfl (qL u3) ?_
    refine vq rfl q_eql ?_
    refine vq rfl qM ?_
    refine sg rfl (fun hg => qF u27 rfl sz9) ?_
    refine sg rfl (fun hg => sP 11 rfl hg (qL u9)) ?_
    refine sg rfl (fun hg => qF u27 rfl sz9) ?_
    refine sg rfl (fun hg => sP 13 rfl hg (qL u9)) ?_
    refine sg rfl (fun hg => sP 14 rfl hg (sP 12 rfl hg q_streq)) ?_
    refine vq rfl q_and ?_
    refine vq rfl qM ?_
    refine sg rfl (fun hg => qF u27 rfl sz3) ?_
    refine sg rfl (fun hg => sP 18 rfl hg (qL u3)) ?_
    refine sg rfl (fun hg => qF u27 rfl sz3) ?_
    refine sg rfl (fun hg => sP 20 rfl hg (qL u3)) ?_
    refine sg rfl (fun hg => sP 21 rfl hg (sP 19 rfl hg q_eql)) ?_
    refine vq rfl q_and ?_
    refine vq rfl qM ?_
    refine sg rfl (fun hg => qF u27 rfl sz22) ?_
    refine sg rfl (fun hg => sP 25 rfl hg (qL u22)) ?_
    refine sg rfl (fun hg => qF u27 rfl sz22) ?_
    refine sg rfl (fun hg => sP 27 rfl hg (qL u22)) ?_
    refine g_callg (xs := [.tmp 26, .tmp 28, .func 30]) rfl (fun hg => c47t ks ks 30 rfl h4 (fun i x y hx hy => by rw [hx] at hy; injection hy with hy; subst hy; exact ih x (hkd x (List.mem_of_getElem? hx)) (h5 x (List.mem_of_getElem? hx)))) ?_
    refine vq rfl q_and ?_
    refine vq rfl qA ?_
    refine gN (tN (gT ?_))
    refine fin1 (by simp) ?_
    exact ⟨by simp, rfl⟩
end Go.Proofs.YtklkbfpjimeaoaaGreat
