/- Contracts of functions. Conditions: none. -/
import Derived.Test.YtklkbfpjimeaoaaGreatPo
namespace Go.Proofs.YtklkbfpjimeaoaaGreat
open Go Go.Proofs.YtklkbfpjimeaoaaGreat.E
theorem c1_3 : Tryz.prog.cellsOf 3 = 1 := by kernel_rfl
theorem c1_9 : Tryz.prog.cellsOf 9 = 1 := by kernel_rfl
theorem c1_22 : Tryz.prog.cellsOf 22 = 1 := by kernel_rfl
theorem c1_27 : Tryz.prog.cellsOf 27 = 4 := by kernel_rfl
theorem list4 : ∀ (ds : List D), ds.length = 4 → ∃ d0 d1 d2 d3, ds = [d0, d1, d2, d3]
  | [d0, d1, d2, d3], _ => ⟨d0, d1, d2, d3, rfl⟩
/-- What is handed over as a node is a tree. -/
theorem tree_of {e : TypeId} {ds : List D} (h : DT Tryz.prog e ds) : (e = 27 → ∃ t : Tr, t.Ok ∧ D.agg ds = t.d) ∧ (e = 22 → ∃ ts : List Tr, ds = [.sl (ts.map Tr.d)] ∧ ts.length ≤ 140737488355328 ∧ ∀ t ∈ ts, t.Ok) := by
  induction h with
  | bool t b hu => exact ⟨fun h => (by subst h; rw [Tryz.underlying27] at hu; cases hu), fun h => (by subst h; rw [Tryz.underlying22] at hu; cases hu)⟩
  | int t k n hu => exact ⟨fun h => (by subst h; rw [Tryz.underlying27] at hu; cases hu), fun h => (by subst h; rw [Tryz.underlying22] at hu; cases hu)⟩
  | str t s hu => exact ⟨fun h => (by subst h; rw [Tryz.underlying27] at hu; cases hu), fun h => (by subst h; rw [Tryz.underlying22] at hu; cases hu)⟩
  | nil t e hu => exact ⟨fun h => (by subst h; rw [Tryz.underlying27] at hu; cases hu), fun h => (by subst h; rw [Tryz.underlying22] at hu; cases hu)⟩
  | ptr t e ds hu => exact ⟨fun h => (by subst h; rw [Tryz.underlying27] at hu; cases hu), fun h => (by subst h; rw [Tryz.underlying22] at hu; cases hu)⟩
  | sl t e dss hu hl hall ih =>
    refine ⟨fun h => (by subst h; rw [Tryz.underlying27] at hu; cases hu), fun h => ?_⟩
    subst h
    rw [Tryz.underlying22] at hu
    injection hu with hu
    injection hu with hu
    subst hu
    obtain ⟨ts, h1, h2, h3⟩ := list_at (P := Tryz.prog) (e := 27) (f := Tr.d) (Q := Tr.Ok) dss (fun i ds hi => by
      obtain ⟨t, ho, ht⟩ := (ih i ds hi).1 rfl
      exact ⟨t, ho, by simpa [D.mk, Tryz.underlying27] using ht⟩)
    exact ⟨ts, by rw [h1], by rw [h3]; unfold reachBytes at hl; omega, h2⟩
  | struct t fs ds hu hl hall ih =>
    refine ⟨fun h => ?_, fun h => (by subst h; rw [Tryz.underlying22] at hu; cases hu)⟩
    subst h
    rw [Tryz.underlying27] at hu
    injection hu with hu
    injection hu with hu
    subst hu
    rw [c1_27] at hl
    obtain ⟨d0, d1, d2, d3, rfl⟩ := list4 ds hl
    have h0 : DT Tryz.prog 3 ((List.drop 0 [d0, d1, d2, d3]).take (Tryz.prog.cellsOf 3)) := hall 0 _ rfl
    have h1 : DT Tryz.prog 9 ((List.drop 1 [d0, d1, d2, d3]).take (Tryz.prog.cellsOf 9)) := hall 1 _ rfl
    have h2 : DT Tryz.prog 3 ((List.drop 2 [d0, d1, d2, d3]).take (Tryz.prog.cellsOf 3)) := hall 2 _ rfl
    obtain ⟨ts, h3, hlen, hok⟩ := (ih 3 _ rfl).2 rfl
    replace h3 : (List.drop 3 [d0, d1, d2, d3]).take (Tryz.prog.cellsOf 22) = [.sl (ts.map Tr.d)] := h3
    simp only [c1_3, c1_9, c1_22, List.drop_zero, List.drop_succ_cons, List.take_succ_cons, List.take_zero] at h0 h1 h2 h3
    obtain ⟨n0, e0, w0⟩ := h0.int_of Tryz.underlying3
    obtain ⟨s1, e1, w1⟩ := h1.str_of Tryz.underlying9
    obtain ⟨n2, e2, w2⟩ := h2.int_of Tryz.underlying3
    obtain rfl := (List.cons.inj e0).1
    obtain rfl := (List.cons.inj e1).1
    obtain rfl := (List.cons.inj e2).1
    obtain rfl := (List.cons.inj h3).1
    exact ⟨.mk n0 s1 n2 ts, .mk w0 (by unfold reachBytes at w1; omega) w2 hlen hok, by rw [Tr.d_mk]⟩
theorem node_of {ds : List D} (h : DT Tryz.prog 27 ds) : ∃ t : Tr, t.Ok ∧ D.agg ds = t.d := (tree_of h).1 rfl
end Go.Proofs.YtklkbfpjimeaoaaGreat
