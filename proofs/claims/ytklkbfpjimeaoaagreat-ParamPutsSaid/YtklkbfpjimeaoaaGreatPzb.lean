/- Contracts of functions. Conditions: none. -/
import Derived.Test.YtklkbfpjimeaoaaGreatPza
namespace Go.Proofs.YtklkbfpjimeaoaaGreat
open Go Go.Proofs.YtklkbfpjimeaoaaGreat.E
theorem c1_59 : Tryz.prog.cellsOf 59 = 5 := by kernel_rfl
theorem list5 : ∀ (ds : List D), ds.length = 5 → ∃ d0 d1 d2 d3 d4, ds = [d0, d1, d2, d3, d4]
  | [d0, d1, d2, d3, d4], _ => ⟨d0, d1, d2, d3, d4, rfl⟩
/-- What is handed over as a constant is one. -/
theorem const_of {ds : List D} (h : DT Tryz.prog 59 ds) : ∃ c : ByteArray × Tr, (c.1.size ≤ 140737488355328 ∧ c.2.Ok) ∧ D.agg ds = cD c := by
  obtain ⟨hl, hf⟩ := h.struct_of Tryz.underlying59
  rw [c1_59] at hl
  obtain ⟨d0, d1, d2, d3, d4, rfl⟩ := list5 ds hl
  have h0 : DT Tryz.prog 9 ((List.drop 0 [d0, d1, d2, d3, d4]).take (Tryz.prog.cellsOf 9)) := hf 0 _ rfl
  have h1 : DT Tryz.prog 27 ((List.drop 1 [d0, d1, d2, d3, d4]).take (Tryz.prog.cellsOf 27)) := hf 1 _ rfl
  rw [c1_9] at h0
  rw [c1_27] at h1
  obtain ⟨s, e0, w0⟩ := h0.str_of Tryz.underlying9
  obtain rfl := (List.cons.inj e0).1
  obtain ⟨t, hok, ht⟩ := node_of h1
  refine ⟨(s, t), ⟨by unfold reachBytes at w0; show s.size ≤ _; omega, hok⟩, ?_⟩
  obtain ⟨op, nm, num, ks⟩ := t
  rw [Tr.d_mk] at ht
  injection ht with ht
  replace ht : [d1, d2, d3, d4] = _ := ht
  unfold cD
  rw [Tr.d_mk]
  show D.agg (D.str s :: [d1, d2, d3, d4]) = _
  rw [ht]; rfl
theorem mkconst_of {ds : List D} (h : DT Tryz.prog 59 ds) : ∃ c : ByteArray × Tr, (c.1.size ≤ 140737488355328 ∧ c.2.Ok) ∧ D.mk Tryz.prog 59 ds = cD c := by
  obtain ⟨c, h1, h2⟩ := const_of h
  exact ⟨c, h1, by rw [← h2]; simp [D.mk, Tryz.underlying59]⟩
/-- The bytes of a list that is handed over. -/
theorem arg_bytes {H : Type} {enc : TypeId × Value → H} {P : Program} {w : World} {sp : Nat → Bool} {held : Bool} {t e : TypeId} (hu : P.underlying t = some (.slice e))
    {a : Option Addr} {len cap : Nat} {d : DataW H} {ps : List MemPlace} (h : DataW.Trod enc P w 0 sp held t (.slice a len cap) d ps) (hw : ∀ n ∈ d.weights P t, n ≤ reachBytes) : len * P.bytesOf e ≤ reachBytes := by
  obtain ⟨fuel, hf⟩ := h
  rcases DataW.trod_slice hu hf with ⟨h1, _⟩ | ⟨a', len', cap', elems, rest, n, hn, h1, h2, _, hlc, _, hel, hall, _, _⟩
  · have h3 : Value.slice a len cap = .slice none 0 0 := (List.cons.inj h1).1
    injection h3 with _ h3 _
    rw [h3, Nat.zero_mul]; exact Nat.zero_le _
  · have h3 : Value.slice a len cap = .slice (some a') len' cap' := (List.cons.inj h1).1
    injection h3 with _ h3 _
    injection h2 with h2 _
    have := hw ((elems.map (·.1)).length * P.bytesOf e + (rest.map (·.1)).length * P.bytesOf e) (by rw [h2]; simp [DataW.weights, hu, Nat.add_mul])
    rw [List.length_map, hel] at this
    rw [h3]; omega
theorem rd_len {w : World} {S : Reg} {xs : List D} {a : Option Addr} {len cap : Nat} (h : Rd w S (.sl xs) (.slice a len cap)) : xs.length = len := by cases h; rfl
end Go.Proofs.YtklkbfpjimeaoaaGreat
