import Derived.Test.YtklkbfpjimeaoaaGreatM23
/- Contracts of functions. Conditions: none. -/
namespace Go.Proofs.YtklkbfpjimeaoaaGreat
open Go Go.Proofs.YtklkbfpjimeaoaaGreat.E
set_option maxHeartbeats 16000000 in
theorem c237 (t : Tr) (hok : t.Ok) (hE : isExprB t.op = true) : Pf Tryz.prog 237 [t.d] (.d (.bool (rightB t))) := by
  obtain ⟨op, name, num, ks⟩ := t
  rw [Tr.d_mk]
  try simp only [Tr.op_mk, Tr.nm_mk, Tr.nu_mk, Tr.kids_mk]
  replace hE : isExprB op = true := hE
  have h4 : ks.length ≤ 140737488355328 := Tr.kids_len hok
  refine pf_body (rvs := [.tmp 2]) [(0, .d (.agg [.int .i64 op, .str name, .int .i64 num, .sl (ks.map Tr.d)]))] Tryz.func237 Tryz.ntmps237 Tryz.results237 (fun S0 O0 w0 m0 hm0 => ?_)
  refine gS (gR ?_)
  refine sv rfl y_box ?_
  refine gF 0 [] (.agg [.int .i64 op, .str name, .int .i64 num, .sl (ks.map Tr.d)]) rfl ?_
  refine vq rfl qA ?_
  refine gN (tN (gS (gS (gR ?_))))
  refine vq rfl (qF u27 rfl sz3) ?_
  refine vq rfl (qL u3) ?_
  refine gN (tN (G_block (gS (gR ?_))))
  refine vq rfl q_eql ?_
  refine vq rfl qA ?_
  refine gN (tN ?_)
  refine gC (fun hb0 => ?_) (fun hb0 => ?_)
  ·
    refine gS (gR ?_)
    refine vq rfl (qF u27 rfl sz9) ?_
    refine vq rfl (qL u9) ?_
    refine vq rfl q_streq ?_
    refine vq rfl qM ?_
    refine sg rfl (fun hg => qF u27 rfl sz22) ?_
    refine sg rfl (fun hg => sP 15 rfl hg (qL u22)) ?_
    refine sg rfl (fun hg => sP 16 rfl hg (q_len u22)) ?_
    refine sg rfl (fun hg => sP 17 rfl hg q_eql) ?_
    refine vq rfl q_and ?_
    refine vq rfl qA ?_
    refine gN (tN (gT (bR (tR ?_))))
    obtain rfl := eq_of_beq hb0
    refine fin1 (by simp) ?_
    exact ⟨by (first | rw [right1] | rw [right2] | rw [right5] | rw [right6] | rw [right7] | rw [right8] | rw [right9] | rw [right10] | rw [right12] | rw [right14] | rw [right16] | rw [right17] | rw [right18] | rw [right19] | rw [right31] | rw [right51] | rw [right52] | rw [right53] | rw [right54] | rw [right55] | rw [right56] | rw [right57] | rw [right58] | rw [right59] | rw [right60] | rw [right61] | rw [right62] | rw [right63] | rw [right64] | rw [right65] | rw [right66] | rw [right67] | rw [right3] | rw [right4] | rw [right30] | rw [right50] | rw [right13] | rw [right15] | rw [right11]) <;> first | rfl | (rw [List.length_map]; rfl) | rw [List.length_map], rfl⟩
  refine gS (gR ?_)
  refine vq rfl q_eql ?_
  refine vq rfl qA ?_
  refine gN (tN ?_)
  refine gC (fun hb1 => ?_) (fun hb1 => ?_)
  ·
    refine gS (gR ?_)
    refine vq rfl (qF u27 rfl sz9) ?_
    refine vq rfl (qL u9) ?_
    refine vq rfl q_streq ?_
    refine vq rfl qM ?_
    refine sg rfl (fun hg => qF u27 rfl sz3) ?_
    refine sg rfl (fun hg => sP 26 rfl hg (qL u3)) ?_
    refine sg rfl (fun hg => sP 27 rfl hg q_eql) ?_
    refine sg rfl (fun hg => sP 28 rfl hg qM) ?_
    refine sg rfl (fun hg => qF u27 rfl sz3) ?_
    refine sg rfl (fun hg => sP 30 rfl hg (qL u3)) ?_
    refine sg rfl (fun hg => sP 31 rfl hg q_eql) ?_
    refine sg rfl (fun hg => sP 29 rfl hg q_or) ?_
    refine vq rfl q_and ?_
    refine vq rfl qM ?_
    refine sg rfl (fun hg => qF u27 rfl sz22) ?_
    refine sg rfl (fun hg => sP 36 rfl hg (qL u22)) ?_
    refine sg rfl (fun hg => sP 37 rfl hg (q_len u22)) ?_
    refine sg rfl (fun hg => sP 38 rfl hg q_eql) ?_
    refine vq rfl q_and ?_
    refine vq rfl qA ?_
    refine gN (tN (gT (bR (tR ?_))))
    obtain rfl := eq_of_beq hb1
    refine fin1 (by simp) ?_
    exact ⟨by (first | rw [right1] | rw [right2] | rw [right5] | rw [right6] | rw [right7] | rw [right8] | rw [right9] | rw [right10] | rw [right12] | rw [right14] | rw [right16] | rw [right17] | rw [right18] | rw [right19] | rw [right31] | rw [right51] | rw [right52] | rw [right53] | rw [right54] | rw [right55] | rw [right56] | rw [right57] | rw [right58] | rw [right59] | rw [right60] | rw [right61] | rw [right62] | rw [right63] | rw [right64] | rw [right65] | rw [right66] | rw [right67] | rw [right3] | rw [right4] | rw [right30] | rw [right50] | rw [right13] | rw [right15] | rw [right11]) <;> first | rfl | (rw [List.length_map]; rfl) | rw [List.length_map], rfl⟩
  refine gS (gR ?_)
  refine vq rfl q_eql ?_
  refine vq rfl qA ?_
  refine gN (tN ?_)
  refine gC (fun hb2 => ?_) (fun hb2 => ?_)
  ·
    refine gS (gR ?_)
    refine vq rfl (qF u27 rfl sz9) ?_
    refine vq rfl (qL u9) ?_
    refine gL (xs := [.tmp 44]) rfl (c174 name) ?_
    refine vq rfl qM ?_
    refine sg rfl (fun hg => qF u27 rfl sz3) ?_
    refine sg rfl (fun hg => sP 47 rfl hg (qL u3)) ?_
    refine sg rfl (fun hg => sP 48 rfl hg q_eql) ?_
    refine vq rfl q_and ?_
    refine vq rfl qM ?_
    refine sg rfl (fun hg => qF u27 rfl sz22) ?_
    refine sg rfl (fun hg => sP 52 rfl hg (qL u22)) ?_
    refine sg rfl (fun hg => sP 53 rfl hg (q_len u22)) ?_
    refine sg rfl (fun hg => sP 54 rfl hg q_eql) ?_
    refine vq rfl q_and ?_
    refine vq rfl qA ?_
    refine gN (tN (gT (bR (tR ?_))))
    obtain rfl := eq_of_beq hb2
    refine fin1 (by simp) ?_
    exact ⟨by (first | rw [right1] | rw [right2] | rw [right5] | rw [right6] | rw [right7] | rw [right8] | rw [right9] | rw [right10] | rw [right12] | rw [right14] | rw [right16] | rw [right17] | rw [right18] | rw [right19] | rw [right31] | rw [right51] | rw [right52] | rw [right53] | rw [right54] | rw [right55] | rw [right56] | rw [right57] | rw [right58] | rw [right59] | rw [right60] | rw [right61] | rw [right62] | rw [right63] | rw [right64] | rw [right65] | rw [right66] | rw [right67] | rw [right3] | rw [right4] | rw [right30] | rw [right50] | rw [right13] | rw [right15] | rw [right11]) <;> first | rfl | (rw [List.length_map]; rfl) | rw [List.length_map], rfl⟩
  refine gS (gR ?_)
  refine vq rfl q_eql ?_
  refine vq rfl qA ?_
  refine gN (tN ?_)
  refine gC (fun hb3 => ?_) (fun hb3 => ?_)
  ·
    refine gS ?_
    refine gP [0, 1, 2, 3, 4, 8, 91, 222] ?_
    refine gR ?_
    refine vq rfl (qF u27 rfl sz9) ?_
    refine vq rfl (qL u9) ?_
    refine vq rfl q_streq ?_
    refine vq rfl qM ?_
    refine sg rfl (fun hg => qF u27 rfl sz9) ?_
    refine sg rfl (fun hg => sP 63 rfl hg (qL u9)) ?_
    refine sg rfl (fun hg => sP 64 rfl hg q_streq) ?_
    refine vq rfl q_or ?_
    refine vq rfl qM ?_
    refine sg rfl (fun hg => qF u27 rfl sz3) ?_
    refine sg rfl (fun hg => sP 68 rfl hg (qL u3)) ?_
    refine sg rfl (fun hg => sP 69 rfl hg q_eql) ?_
    refine vq rfl q_and ?_
    refine vq rfl qM ?_
    refine sg rfl (fun hg => qG (by exact sz27) u27 rfl) ?_
    refine g_callg (xs := [.tmp 73, .const (.string ⟨#[101]⟩)]) rfl (fun hg => (Tr.d_mk op name num ks ▸ c239 (.mk op name num ks) ⟨#[101]⟩ hok)) ?_
    refine vq rfl q_and ?_
    refine vq rfl qA ?_
    refine gN (tN (gT (bR (tR ?_))))
    obtain rfl := eq_of_beq hb3
    refine fin1 (by simp) ?_
    exact ⟨by (first | rw [right1] | rw [right2] | rw [right5] | rw [right6] | rw [right7] | rw [right8] | rw [right9] | rw [right10] | rw [right12] | rw [right14] | rw [right16] | rw [right17] | rw [right18] | rw [right19] | rw [right31] | rw [right51] | rw [right52] | rw [right53] | rw [right54] | rw [right55] | rw [right56] | rw [right57] | rw [right58] | rw [right59] | rw [right60] | rw [right61] | rw [right62] | rw [right63] | rw [right64] | rw [right65] | rw [right66] | rw [right67] | rw [right3] | rw [right4] | rw [right30] | rw [right50] | rw [right13] | rw [right15] | rw [right11]) <;> first | rfl | (rw [List.length_map]; rfl) | rw [List.length_map], rfl⟩
  refine gS ?_
  refine gP [0, 1, 2, 3, 4, 8, 91, 222] ?_
  refine gR ?_
  refine vq rfl q_eql ?_
  refine vq rfl qA ?_
  refine gN (tN ?_)
  refine gC (fun hb4 => ?_) (fun hb4 => ?_)
  ·
    refine gS (gR ?_)
    refine sv rfl (y_buildSlice (xs := [.const (.string ⟨#[43]⟩), .const (.string ⟨#[45]⟩), .const (.string ⟨#[42]⟩), .const (.string ⟨#[47]⟩), .const (.string ⟨#[37]⟩), .const (.string ⟨#[61, 61]⟩), .const (.string ⟨#[33, 61]⟩), .const (.string ⟨#[60]⟩), .const (.string ⟨#[60, 61]⟩), .const (.string ⟨#[62]⟩), .const (.string ⟨#[62, 61]⟩), .const (.string ⟨#[38, 38]⟩), .const (.string ⟨#[124, 124]⟩)]) u63 inf9) ?_
    refine vq rfl (qF u27 rfl sz9) ?_
    refine vq rfl (qL u9) ?_
    refine gL (xs := [.tmp 78, .tmp 80]) rfl (c176 [⟨#[43]⟩, ⟨#[45]⟩, ⟨#[42]⟩, ⟨#[47]⟩, ⟨#[37]⟩, ⟨#[61, 61]⟩, ⟨#[33, 61]⟩, ⟨#[60]⟩, ⟨#[60, 61]⟩, ⟨#[62]⟩, ⟨#[62, 61]⟩, ⟨#[38, 38]⟩, ⟨#[124, 124]⟩] name (by decide)) ?_
    refine vq rfl qM ?_
    refine sg rfl (fun hg => qF u27 rfl sz3) ?_
    refine sg rfl (fun hg => sP 83 rfl hg (qL u3)) ?_
    refine sg rfl (fun hg => sP 84 rfl hg q_eql) ?_
    refine vq rfl q_and ?_
    refine vq rfl qM ?_
    refine sg rfl (fun hg => qG (by exact sz27) u27 rfl) ?_
    refine g_callg (xs := [.tmp 88, .const (.string ⟨#[101, 101]⟩)]) rfl (fun hg => (Tr.d_mk op name num ks ▸ c239 (.mk op name num ks) ⟨#[101, 101]⟩ hok)) ?_
    refine vq rfl q_and ?_
    refine vq rfl qA ?_
    refine gN (tN (gT (bR (tR ?_))))
    obtain rfl := eq_of_beq hb4
    refine fin1 (by simp) ?_
    exact ⟨by (first | rw [right1] | rw [right2] | rw [right5] | rw [right6] | rw [right7] | rw [right8] | rw [right9] | rw [right10] | rw [right12] | rw [right14] | rw [right16] | rw [right17] | rw [right18] | rw [right19] | rw [right31] | rw [right51] | rw [right52] | rw [right53] | rw [right54] | rw [right55] | rw [right56] | rw [right57] | rw [right58] | rw [right59] | rw [right60] | rw [right61] | rw [right62] | rw [right63] | rw [right64] | rw [right65] | rw [right66] | rw [right67] | rw [right3] | rw [right4] | rw [right30] | rw [right50] | rw [right13] | rw [right15] | rw [right11]) <;> first | rfl | (rw [List.length_map]; rfl) | rw [List.length_map], rfl⟩
  refine gS (gS (gR ?_))
  refine vq rfl q_eql ?_
  refine vq rfl qA ?_
  refine gN (tN ?_)
  refine gC (fun hb5 => ?_) (fun hb5 => ?_)
  ·
    refine gK (tN ?_)
    refine gC (fun hb6 => ?_) (fun hb6 => ?_)
    ·
      refine gS (gR ?_)
      refine vq rfl (qG (by exact sz27) u27 rfl) ?_
      refine gL (xs := [.tmp 95]) rfl ((Tr.d_mk op name num ks ▸ c177 (.mk op name num ks))) ?_
      refine vq rfl qM ?_
      refine sg rfl (fun hg => qG (by exact sz27) u27 rfl) ?_
      refine g_callg (xs := [.tmp 98, .const (.string ⟨#[101, 101]⟩)]) rfl (fun hg => (Tr.d_mk op name num ks ▸ c239 (.mk op name num ks) ⟨#[101, 101]⟩ hok)) ?_
      refine vq rfl q_and ?_
      refine vq rfl qA ?_
      refine gN (tN (gT (bR (tR ?_))))
      obtain rfl := eq_of_beq hb6
      refine fin1 (by simp) ?_
      exact ⟨by (first | rw [right1] | rw [right2] | rw [right5] | rw [right6] | rw [right7] | rw [right8] | rw [right9] | rw [right10] | rw [right12] | rw [right14] | rw [right16] | rw [right17] | rw [right18] | rw [right19] | rw [right31] | rw [right51] | rw [right52] | rw [right53] | rw [right54] | rw [right55] | rw [right56] | rw [right57] | rw [right58] | rw [right59] | rw [right60] | rw [right61] | rw [right62] | rw [right63] | rw [right64] | rw [right65] | rw [right66] | rw [right67] | rw [right3] | rw [right4] | rw [right30] | rw [right50] | rw [right13] | rw [right15] | rw [right11]) <;> first | rfl | (rw [List.length_map]; rfl) | rw [List.length_map], rfl⟩
    exact absurd (hb5.symm.trans hb6) (by decide)
  refine gS (gR ?_)
  refine vq rfl q_eql ?_
  refine vq rfl qA ?_
  refine gN (tN ?_)
  refine gC (fun hb7 => ?_) (fun hb7 => ?_)
  ·
    refine gK (tN ?_)
    refine gC (fun hb8 => ?_) (fun hb8 => ?_)
    ·
      refine gS (gR ?_)
      refine vq rfl (qG (by exact sz27) u27 rfl) ?_
      refine gL (xs := [.tmp 95]) rfl ((Tr.d_mk op name num ks ▸ c177 (.mk op name num ks))) ?_
      refine vq rfl qM ?_
      refine sg rfl (fun hg => qG (by exact sz27) u27 rfl) ?_
      refine g_callg (xs := [.tmp 98, .const (.string ⟨#[101, 101]⟩)]) rfl (fun hg => (Tr.d_mk op name num ks ▸ c239 (.mk op name num ks) ⟨#[101, 101]⟩ hok)) ?_
      refine vq rfl q_and ?_
      refine vq rfl qA ?_
      refine gN (tN (gT (bR (tR ?_))))
      obtain rfl := eq_of_beq hb8
      refine fin1 (by simp) ?_
      exact ⟨by (first | rw [right1] | rw [right2] | rw [right5] | rw [right6] | rw [right7] | rw [right8] | rw [right9] | rw [right10] | rw [right12] | rw [right14] | rw [right16] | rw [right17] | rw [right18] | rw [right19] | rw [right31] | rw [right51] | rw [right52] | rw [right53] | rw [right54] | rw [right55] | rw [right56] | rw [right57] | rw [right58] | rw [right59] | rw [right60] | rw [right61] | rw [right62] | rw [right63] | rw [right64] | rw [right65] | rw [right66] | rw [right67] | rw [right3] | rw [right4] | rw [right30] | rw [right50] | rw [right13] | rw [right15] | rw [right11]) <;> first | rfl | (rw [List.length_map]; rfl) | rw [List.length_map], rfl⟩
    exact absurd (hb7.symm.trans hb8) (by decide)
  refine gR ?_
  refine vq rfl q_eql ?_
  refine vq rfl qA ?_
  refine gN (tN ?_)
  refine gC (fun hb9 => ?_) (fun hb9 => ?_)
  ·
    refine gS (gR ?_)
    refine vq rfl (qG (by exact sz27) u27 rfl) ?_
    refine gL (xs := [.tmp 95]) rfl ((Tr.d_mk op name num ks ▸ c177 (.mk op name num ks))) ?_
    refine vq rfl qM ?_
    refine sg rfl (fun hg => qG (by exact sz27) u27 rfl) ?_
    refine g_callg (xs := [.tmp 98, .const (.string ⟨#[101, 101]⟩)]) rfl (fun hg => (Tr.d_mk op name num ks ▸ c239 (.mk op name num ks) ⟨#[101, 101]⟩ hok)) ?_
    refine vq rfl q_and ?_
    refine vq rfl qA ?_
    refine gN (tN (gT (bR (tR ?_))))
    obtain rfl := eq_of_beq hb9
    refine fin1 (by simp) ?_
    exact ⟨by (first | rw [right1] | rw [right2] | rw [right5] | rw [right6] | rw [right7] | rw [right8] | rw [right9] | rw [right10] | rw [right12] | rw [right14] | rw [right16] | rw [right17] | rw [right18] | rw [right19] | rw [right31] | rw [right51] | rw [right52] | rw [right53] | rw [right54] | rw [right55] | rw [right56] | rw [right57] | rw [right58] | rw [right59] | rw [right60] | rw [right61] | rw [right62] | rw [right63] | rw [right64] | rw [right65] | rw [right66] | rw [right67] | rw [right3] | rw [right4] | rw [right30] | rw [right50] | rw [right13] | rw [right15] | rw [right11]) <;> first | rfl | (rw [List.length_map]; rfl) | rw [List.length_map], rfl⟩
  refine gS (gR ?_)
  refine vq rfl q_eql ?_
  refine vq rfl qA ?_
  refine gN (tN ?_)
  refine gC (fun hb10 => ?_) (fun hb10 => ?_)
  ·
    refine gS (gR ?_)
    refine vq rfl (qG (by exact sz27) u27 rfl) ?_
    refine gL (xs := [.tmp 103]) rfl ((Tr.d_mk op name num ks ▸ c177 (.mk op name num ks))) ?_
    refine vq rfl qM ?_
    refine sg rfl (fun hg => qG (by exact sz27) u27 rfl) ?_
    refine g_callg (xs := [.tmp 106, .const (.string ⟨#[101]⟩)]) rfl (fun hg => (Tr.d_mk op name num ks ▸ c239 (.mk op name num ks) ⟨#[101]⟩ hok)) ?_
    refine sg rfl (fun hg => sP 107 rfl hg qM) ?_
    refine sg rfl (fun hg => qG (by exact sz27) u27 rfl) ?_
    refine g_callg (xs := [.tmp 109, .const (.string ⟨#[101, 101]⟩)]) rfl (fun hg => (Tr.d_mk op name num ks ▸ c239 (.mk op name num ks) ⟨#[101, 101]⟩ hok)) ?_
    refine sg rfl (fun hg => sP 108 rfl hg q_or) ?_
    refine vq rfl q_and ?_
    refine vq rfl qA ?_
    refine gN (tN (gT (bR (tR ?_))))
    obtain rfl := eq_of_beq hb10
    refine fin1 (by simp) ?_
    exact ⟨by (first | rw [right1] | rw [right2] | rw [right5] | rw [right6] | rw [right7] | rw [right8] | rw [right9] | rw [right10] | rw [right12] | rw [right14] | rw [right16] | rw [right17] | rw [right18] | rw [right19] | rw [right31] | rw [right51] | rw [right52] | rw [right53] | rw [right54] | rw [right55] | rw [right56] | rw [right57] | rw [right58] | rw [right59] | rw [right60] | rw [right61] | rw [right62] | rw [right63] | rw [right64] | rw [right65] | rw [right66] | rw [right67] | rw [right3] | rw [right4] | rw [right30] | rw [right50] | rw [right13] | rw [right15] | rw [right11]) <;> first | rfl | (rw [List.length_map]; rfl) | rw [List.length_map], rfl⟩
  refine gS (gR ?_)
  refine vq rfl q_eql ?_
  refine vq rfl qA ?_
  refine gN (tN ?_)
  refine gC (fun hb11 => ?_) (fun hb11 => ?_)
  ·
    refine gS (gS ?_)
    refine gP [0, 1, 2, 3, 4, 8, 91, 222] ?_
    refine gR ?_
    refine vq rfl (qF u27 rfl sz9) ?_
    refine vq rfl (qL u9) ?_
    refine vq rfl q_streq ?_
    refine gN (tN ?_)
    refine gC (fun hb12 => ?_) (fun hb12 => ?_)
    ·
      refine gS (gR ?_)
      refine vq rfl (qF u27 rfl sz3) ?_
      refine vq rfl (qL u3) ?_
      refine vq rfl q_eql ?_
      refine vq rfl qM ?_
      refine sg rfl (fun hg => qG (by exact sz27) u27 rfl) ?_
      refine g_callg (xs := [.tmp 122, .const (.string ⟨#[101, 101]⟩)]) rfl (fun hg => (Tr.d_mk op name num ks ▸ c239 (.mk op name num ks) ⟨#[101, 101]⟩ hok)) ?_
      refine vq rfl q_and ?_
      refine vq rfl qA ?_
      refine gN (tN (gT (tR (bR (tR ?_)))))
      obtain rfl := eq_of_beq hb11
      refine fin1 (by simp) ?_
      exact ⟨by rw [right11, if_pos hb12]; rfl, rfl⟩
    refine gK (tN (gS (gR ?_)))
    refine sv rfl (y_buildSlice (xs := [.const (.string ⟨#[98, 108, 111, 99, 107]⟩), .const (.string ⟨#[99, 121, 99, 108, 105, 99]⟩), .const (.string ⟨#[104, 97, 115, 104, 101, 100]⟩)]) u63 inf9) ?_
    refine vq rfl (qF u27 rfl sz9) ?_
    refine vq rfl (qL u9) ?_
    refine gL (xs := [.tmp 125, .tmp 127]) rfl (c176 [⟨#[98, 108, 111, 99, 107]⟩, ⟨#[99, 121, 99, 108, 105, 99]⟩, ⟨#[104, 97, 115, 104, 101, 100]⟩] name (by decide)) ?_
    refine vq rfl qM ?_
    refine sg rfl (fun hg => qF u27 rfl sz3) ?_
    refine sg rfl (fun hg => sP 130 rfl hg (qL u3)) ?_
    refine sg rfl (fun hg => sP 131 rfl hg q_eql) ?_
    refine vq rfl q_and ?_
    refine vq rfl qM ?_
    refine sg rfl (fun hg => qG (by exact sz27) u27 rfl) ?_
    refine g_callg (xs := [.tmp 135, .const (.string ⟨#[101]⟩)]) rfl (fun hg => (Tr.d_mk op name num ks ▸ c239 (.mk op name num ks) ⟨#[101]⟩ hok)) ?_
    refine vq rfl q_and ?_
    refine vq rfl qA ?_
    refine gN (tN (gT (bR (tR ?_))))
    obtain rfl := eq_of_beq hb11
    refine fin1 (by simp) ?_
    exact ⟨by rw [right11, if_neg (by rw [hb12]; decide)]; rfl, rfl⟩
  refine gS ?_
  refine gP [0, 1, 2, 3, 4, 8, 91, 222] ?_
  refine gR ?_
  refine vq rfl q_eql ?_
  refine vq rfl qA ?_
  refine gN (tN ?_)
  refine gC (fun hb13 => ?_) (fun hb13 => ?_)
  ·
    refine gS (gR ?_)
    refine vq rfl (qG (by exact sz27) u27 rfl) ?_
    refine gL (xs := [.tmp 140]) rfl ((Tr.d_mk op name num ks ▸ c177 (.mk op name num ks))) ?_
    refine vq rfl qM ?_
    refine sg rfl (fun hg => qG (by exact sz27) u27 rfl) ?_
    refine g_callg (xs := [.tmp 143, .const (.string ⟨#[101, 101]⟩)]) rfl (fun hg => (Tr.d_mk op name num ks ▸ c239 (.mk op name num ks) ⟨#[101, 101]⟩ hok)) ?_
    refine sg rfl (fun hg => sP 144 rfl hg qM) ?_
    refine sg rfl (fun hg => qG (by exact sz27) u27 rfl) ?_
    refine g_callg (xs := [.tmp 146, .const (.string ⟨#[101, 101, 101]⟩)]) rfl (fun hg => (Tr.d_mk op name num ks ▸ c239 (.mk op name num ks) ⟨#[101, 101, 101]⟩ hok)) ?_
    refine sg rfl (fun hg => sP 145 rfl hg q_or) ?_
    refine vq rfl q_and ?_
    refine vq rfl qA ?_
    refine gN (tN (gT (bR (tR ?_))))
    obtain rfl := eq_of_beq hb13
    refine fin1 (by simp) ?_
    exact ⟨by (first | rw [right1] | rw [right2] | rw [right5] | rw [right6] | rw [right7] | rw [right8] | rw [right9] | rw [right10] | rw [right12] | rw [right14] | rw [right16] | rw [right17] | rw [right18] | rw [right19] | rw [right31] | rw [right51] | rw [right52] | rw [right53] | rw [right54] | rw [right55] | rw [right56] | rw [right57] | rw [right58] | rw [right59] | rw [right60] | rw [right61] | rw [right62] | rw [right63] | rw [right64] | rw [right65] | rw [right66] | rw [right67] | rw [right3] | rw [right4] | rw [right30] | rw [right50] | rw [right13] | rw [right15] | rw [right11]) <;> first | rfl | (rw [List.length_map]; rfl) | rw [List.length_map], rfl⟩
  refine gS (gR ?_)
  refine vq rfl q_eql ?_
  refine vq rfl qA ?_
  refine gN (tN ?_)
  refine gC (fun hb14 => ?_) (fun hb14 => ?_)
  ·
    refine gS (gS (gR ?_))
    refine vq rfl qA ?_
    refine gN (tN (G_block ?_))
    refine g_loop (α := Nat) (fun z => ⟨[(3, .d (.int .i64 (z : Nat))), (1, .d (.ptr (.agg [.int .i64 op, .str name, .int .i64 num, .sl (ks.map Tr.d)])))], []⟩) (fun z => ks.length - z) (fun z => z ≤ ks.length ∧ ∀ i, i < z → ∀ k, ks[i]? = some k → (fun o : Int => isExprB o || o == 30) k.op = true) 0 ⟨Nat.zero_le _, by simp⟩ (fun z hz Q' hn0 he0 hr0 => ?_) (le_of)
    obtain ⟨hz1, hz2⟩ := hz
    refine gS (gS (gR ?_))
    refine vq rfl qM ?_
    refine vq rfl (qF u27 rfl sz22) ?_
    refine vq rfl (qL u22) ?_
    refine vq rfl (q_len u22) ?_
    refine vq rfl q_lss ?_
    refine gN (tN ?_)
    refine gC (fun hb15 => ?_) (fun hb15 => ?_)
    ·
      have hlt : z < ks.length := by simpa using hb15
      obtain ⟨a, hka⟩ : ∃ k, ks[z]? = some k := ⟨_, List.getElem?_eq_getElem (by omega)⟩
      have hmem := List.mem_of_getElem? hka
      obtain ⟨aop, anm, anu, aks, hke⟩ : ∃ op nm nu ks', a = .mk op nm nu ks' := by cases a; exact ⟨_, _, _, _, rfl⟩
      subst hke
      have hxa := Tr.ds_get hka
      rw [Tr.d_mk] at hxa
      refine gK (tN (gS (G_block (gS (gR ?_)))))
      refine vq rfl (qF u27 rfl sz22) ?_
      refine vq rfl (qL u22) ?_
      refine vq rfl qM ?_
      refine vq rfl (qI u22 sz27) ?_
      refine vq rfl (qF u27 rfl sz3) ?_
      refine vq rfl (qL u3) ?_
      refine gL (xs := [.tmp 164]) rfl (c81 _) ?_
      refine vq rfl q_not ?_
      refine vq rfl qM ?_
      refine sg rfl (fun hg => qF u27 rfl sz22) ?_
      refine sg rfl (fun hg => sP 168 rfl hg (qL u22)) ?_
      refine sg rfl (fun hg => qM) ?_
      refine sg rfl (fun hg => sP 170 rfl hg (sP 169 rfl hg (qI u22 sz27))) ?_
      refine sg rfl (fun hg => sP 171 rfl hg (qF u27 rfl sz3)) ?_
      refine sg rfl (fun hg => sP 172 rfl hg (qL u3)) ?_
      refine sg rfl (fun hg => sP 173 rfl hg q_neq) ?_
      refine vq rfl q_and ?_
      refine gN (tN ?_)
      refine gC (fun hb16 => ?_) (fun hb16 => ?_)
      ·
        refine gS ?_
        refine gP [0, 1, 2, 3, 4, 8, 91, 222] ?_
        refine gR ?_
        refine vq rfl qA ?_
        refine gN (tN (gT (bR (tR ?_))))
        refine hr0 _ ?_
        refine bR (tR (bR (tR ?_)))
        obtain rfl := eq_of_beq hb14
        refine fin1 (by simp) ?_
        exact ⟨by rw [right13, every_no hmem (by show (fun o : Int => isExprB o || o == 30) aop = false; revert hb16; show (!isExprB aop && aop != 30) = true → (isExprB aop || aop == 30) = false; cases isExprB aop <;> cases h : (aop == 30) <;> simp [bne, h])]; rfl, rfl⟩
      refine gK (bN (tN ?_))
      refine gP [0, 1, 2, 3, 4, 8, 91, 222] ?_
      refine gR ?_
      refine vq rfl qM ?_
      refine vq rfl q_add ?_
      refine vq rfl qA ?_
      refine gN ?_
      refine hn0 _ (z + 1) ⟨by omega, upto_step (p := fun _ (k : Tr) => (fun o : Int => isExprB o || o == 30) k.op) hz2 hka (by show (fun o : Int => isExprB o || o == 30) aop = true; revert hb16; show (!isExprB aop && aop != 30) = false → (isExprB aop || aop == 30) = true; cases isExprB aop <;> cases h : (aop == 30) <;> simp [bne, h])⟩ (by omega) le_of
    have hge : z = ks.length := by
      have : ¬ (z : Int) < ((ks.map Tr.d).length : Nat) := by simpa using hb15
      rw [List.length_map] at this
      omega
    refine G_exit (thn_exit ?_)
    refine he0 _ _ ?_
    refine blk_exit (tN (gS (gR ?_)))
    refine vq rfl (qF u27 rfl sz9) ?_
    refine vq rfl (qL u9) ?_
    refine gL (xs := [.tmp 177]) rfl (c174 name) ?_
    refine vq rfl qM ?_
    refine sg rfl (fun hg => qF u27 rfl sz3) ?_
    refine sg rfl (fun hg => sP 180 rfl hg (qL u3)) ?_
    refine sg rfl (fun hg => sP 181 rfl hg q_eql) ?_
    refine vq rfl q_and ?_
    refine vq rfl qA ?_
    refine gN (tN (gT (bR (tR ?_))))
    obtain rfl := eq_of_beq hb14
    refine fin1 (by simp) ?_
    exact ⟨by rw [right13, every_yes (fun i hi => hz2 i (by omega))]; rfl, rfl⟩
  refine gS (gR ?_)
  refine vq rfl q_eql ?_
  refine vq rfl qA ?_
  refine gN (tN ?_)
  refine gC (fun hb17 => ?_) (fun hb17 => ?_)
  ·
    refine gS (gR ?_)
    refine sv rfl (y_buildSlice (xs := [.const (.string ⟨#[115, 105, 122, 101]⟩), .const (.string ⟨#[108, 111, 119]⟩), .const (.string ⟨#[104, 105, 103, 104]⟩), .const (.string ⟨#[115, 116, 114, 105, 100, 101]⟩), .const (.string ⟨#[100, 111, 109, 97, 105, 110]⟩)]) u63 inf9) ?_
    refine vq rfl (qF u27 rfl sz9) ?_
    refine vq rfl (qL u9) ?_
    refine gL (xs := [.tmp 186, .tmp 188]) rfl (c176 [⟨#[115, 105, 122, 101]⟩, ⟨#[108, 111, 119]⟩, ⟨#[104, 105, 103, 104]⟩, ⟨#[115, 116, 114, 105, 100, 101]⟩, ⟨#[100, 111, 109, 97, 105, 110]⟩] name (by decide)) ?_
    refine vq rfl qM ?_
    refine sg rfl (fun hg => qF u27 rfl sz3) ?_
    refine sg rfl (fun hg => sP 191 rfl hg (qL u3)) ?_
    refine sg rfl (fun hg => sP 192 rfl hg q_eql) ?_
    refine vq rfl q_and ?_
    refine vq rfl qM ?_
    refine sg rfl (fun hg => qG (by exact sz27) u27 rfl) ?_
    refine g_callg (xs := [.tmp 196, .const (.string ⟨#[101]⟩)]) rfl (fun hg => (Tr.d_mk op name num ks ▸ c239 (.mk op name num ks) ⟨#[101]⟩ hok)) ?_
    refine vq rfl q_and ?_
    refine vq rfl qA ?_
    refine gN (tN (gT (bR (tR ?_))))
    obtain rfl := eq_of_beq hb17
    refine fin1 (by simp) ?_
    exact ⟨by (first | rw [right1] | rw [right2] | rw [right5] | rw [right6] | rw [right7] | rw [right8] | rw [right9] | rw [right10] | rw [right12] | rw [right14] | rw [right16] | rw [right17] | rw [right18] | rw [right19] | rw [right31] | rw [right51] | rw [right52] | rw [right53] | rw [right54] | rw [right55] | rw [right56] | rw [right57] | rw [right58] | rw [right59] | rw [right60] | rw [right61] | rw [right62] | rw [right63] | rw [right64] | rw [right65] | rw [right66] | rw [right67] | rw [right3] | rw [right4] | rw [right30] | rw [right50] | rw [right13] | rw [right15] | rw [right11]) <;> first | rfl | (rw [List.length_map]; rfl) | rw [List.length_map], rfl⟩
  refine gS (gR ?_)
  refine vq rfl q_eql ?_
  refine vq rfl qA ?_
  refine gN (tN ?_)
  refine gC (fun hb18 => ?_) (fun hb18 => ?_)
  ·
    refine gS (gR ?_)
    have hmf := (meth_facts name).1
    refine vq rfl (qF u27 rfl sz9) ?_
    refine vq rfl (qL u9) ?_
    refine gL (xs := [.tmp 203]) rfl (c228 name) ?_
    refine vq rfl qM ?_
    refine vq rfl qE ?_
    refine vq rfl qE ?_
    refine vq rfl qE ?_
    refine vq rfl qA ?_
    refine vq rfl qA ?_
    refine vq rfl qA ?_
    refine gN (tN (gS ?_))
    refine gP [0, 1, 2, 3, 4, 8, 91, 222] ?_
    refine g_cg0 [208, 209, 210, 211, 212, 213, 214, 215, 216, 217, 218, 219, 220, 221, 2] ?_
    refine cP [] ?_
    refine cS 1 (fun bq rest hc1 hc2 hc3 => vq rfl qM (gN ⟨rfl, rfl⟩)) ?_
    refine cP [0] ?_
    refine cS 2 (fun bq rest hc1 hc2 hc3 => vq rfl q_geq (gN ⟨rfl, rfl⟩)) ?_
    refine cP [1] ?_
    refine cS 3 (fun bq rest hc1 hc2 hc3 => vq rfl qM (gN ⟨rfl, rfl⟩)) ?_
    refine cP [2] ?_
    refine cS 4 (fun bq rest hc1 hc2 hc3 => sg rfl (fun hg => qF u27 rfl sz3) (gN ⟨rfl, rfl⟩)) ?_
    refine cP [3, 2] ?_
    refine cS 5 (fun bq rest hc1 hc2 hc3 => sg rfl (fun hg => sP 211 rfl hg (qL u3)) (gN ⟨rfl, rfl⟩)) ?_
    refine cP [4, 2] ?_
    refine cS 6 (fun bq rest hc1 hc2 hc3 => sg rfl (fun hg => sP 212 rfl hg q_eql) (gN ⟨rfl, rfl⟩)) ?_
    refine cP [2, 5] ?_
    refine cS 7 (fun bq rest hc1 hc2 hc3 => vq rfl q_and (gN ⟨rfl, rfl⟩)) ?_
    refine cP [6, 2] ?_
    refine cS 8 (fun bq rest hc1 hc2 hc3 => vq rfl qM (gN ⟨rfl, rfl⟩)) ?_
    refine cP [7] ?_
    refine cS 9 (fun bq rest hc1 hc2 hc3 => sg rfl (fun hg => qG (by exact sz27) u27 rfl) (gN ⟨rfl, rfl⟩)) ?_
    refine cP [7] ?_
    refine cS 10 (fun bq rest hc1 hc2 hc3 => sg rfl (fun hg => qM) (gN ⟨rfl, rfl⟩)) ?_
    refine cP [9, 7] ?_
    refine cS 11 (fun bq rest hc1 hc2 hc3 => sg rfl (fun hg => sP 217 rfl hg q_add) (gN ⟨rfl, rfl⟩)) ?_
    refine cP [10, 7] ?_
    refine cS 12 (fun bq rest hc1 hc2 hc3 => sg rfl (fun hg => sP 218 rfl hg (q_strh u9 (h0 := by simp at hg; omega) (h1 := by show _ ≤ (3 : Int); simp at hg; omega))) (gN ⟨rfl, rfl⟩)) ?_
    refine cP [8, 11, 7, 7] ?_
    refine cS 13 (fun bq rest hc1 hc2 hc3 => g_callg (xs := [.tmp 216, .tmp 219]) rfl (fun hg => (Tr.d_mk op name num ks ▸ c239 (.mk op name num ks) (eee.extract 0 ((methR name).1 + 1).toNat) hok)) (gN ⟨rfl, rfl⟩)) ?_
    refine cP [7, 12] ?_
    refine cS 14 (fun bq rest hc1 hc2 hc3 => vq rfl q_and (gN ⟨rfl, rfl⟩)) ?_
    refine cP [13, 12, 0, 1, 2, 3, 4, 5, 6, 7, 8, 9, 10, 11, 12, 13] ?_
    refine cS 15 (fun bq rest hc1 hc2 hc3 => vq rfl qA (gN ⟨rfl, rfl⟩)) ?_
    refine cg_done ?_
    refine tN (gT (bR (tR ?_)))
    obtain rfl := eq_of_beq hb18
    refine fin1 (by simp) ?_
    exact ⟨by (first | rw [right1] | rw [right2] | rw [right5] | rw [right6] | rw [right7] | rw [right8] | rw [right9] | rw [right10] | rw [right12] | rw [right14] | rw [right16] | rw [right17] | rw [right18] | rw [right19] | rw [right31] | rw [right51] | rw [right52] | rw [right53] | rw [right54] | rw [right55] | rw [right56] | rw [right57] | rw [right58] | rw [right59] | rw [right60] | rw [right61] | rw [right62] | rw [right63] | rw [right64] | rw [right65] | rw [right66] | rw [right67] | rw [right3] | rw [right4] | rw [right30] | rw [right50] | rw [right13] | rw [right15] | rw [right11]) <;> first | rfl | (rw [List.length_map]; rfl) | rw [List.length_map], rfl⟩
  refine gS (gS (gR ?_))
  refine vq rfl q_eql ?_
  refine vq rfl qA ?_
  refine gN (tN ?_)
  refine gC (fun hb19 => ?_) (fun hb19 => ?_)
  ·
    refine gK (tN ?_)
    refine gC (fun hb20 => ?_) (fun hb20 => ?_)
    ·
      refine gS (gR ?_)
      refine vq rfl (qG (by exact sz27) u27 rfl) ?_
      refine gL (xs := [.tmp 225]) rfl ((Tr.d_mk op name num ks ▸ c177 (.mk op name num ks))) ?_
      refine vq rfl qM ?_
      refine sg rfl (fun hg => qF u27 rfl sz22) ?_
      refine sg rfl (fun hg => sP 228 rfl hg (qL u22)) ?_
      refine sg rfl (fun hg => sP 229 rfl hg (q_len u22)) ?_
      refine sg rfl (fun hg => sP 230 rfl hg q_eql) ?_
      refine vq rfl q_and ?_
      refine vq rfl qA ?_
      refine gN (tN (gT (bR (tR ?_))))
      obtain rfl := eq_of_beq hb20
      refine fin1 (by simp) ?_
      exact ⟨by (first | rw [right1] | rw [right2] | rw [right5] | rw [right6] | rw [right7] | rw [right8] | rw [right9] | rw [right10] | rw [right12] | rw [right14] | rw [right16] | rw [right17] | rw [right18] | rw [right19] | rw [right31] | rw [right51] | rw [right52] | rw [right53] | rw [right54] | rw [right55] | rw [right56] | rw [right57] | rw [right58] | rw [right59] | rw [right60] | rw [right61] | rw [right62] | rw [right63] | rw [right64] | rw [right65] | rw [right66] | rw [right67] | rw [right3] | rw [right4] | rw [right30] | rw [right50] | rw [right13] | rw [right15] | rw [right11]) <;> first | rfl | (rw [List.length_map]; rfl) | rw [List.length_map], rfl⟩
    exact absurd (hb19.symm.trans hb20) (by decide)
  refine gR ?_
  refine vq rfl q_eql ?_
  refine vq rfl qA ?_
  refine gN (tN ?_)
  refine gC (fun hb21 => ?_) (fun hb21 => ?_)
  ·
    refine gS ?_
    refine gP [0, 1, 2, 3, 4, 8, 91, 222] ?_
    refine gR ?_
    refine vq rfl (qG (by exact sz27) u27 rfl) ?_
    refine gL (xs := [.tmp 225]) rfl ((Tr.d_mk op name num ks ▸ c177 (.mk op name num ks))) ?_
    refine vq rfl qM ?_
    refine sg rfl (fun hg => qF u27 rfl sz22) ?_
    refine sg rfl (fun hg => sP 228 rfl hg (qL u22)) ?_
    refine sg rfl (fun hg => sP 229 rfl hg (q_len u22)) ?_
    refine sg rfl (fun hg => sP 230 rfl hg q_eql) ?_
    refine vq rfl q_and ?_
    refine vq rfl qA ?_
    refine gN (tN (gT (bR (tR ?_))))
    obtain rfl := eq_of_beq hb21
    refine fin1 (by simp) ?_
    exact ⟨by (first | rw [right1] | rw [right2] | rw [right5] | rw [right6] | rw [right7] | rw [right8] | rw [right9] | rw [right10] | rw [right12] | rw [right14] | rw [right16] | rw [right17] | rw [right18] | rw [right19] | rw [right31] | rw [right51] | rw [right52] | rw [right53] | rw [right54] | rw [right55] | rw [right56] | rw [right57] | rw [right58] | rw [right59] | rw [right60] | rw [right61] | rw [right62] | rw [right63] | rw [right64] | rw [right65] | rw [right66] | rw [right67] | rw [right3] | rw [right4] | rw [right30] | rw [right50] | rw [right13] | rw [right15] | rw [right11]) <;> first | rfl | (rw [List.length_map]; rfl) | rw [List.length_map], rfl⟩
  refine gS ?_
  refine gP [0, 1, 2, 3, 4, 8, 91, 222] ?_
  refine gR ?_
  refine vq rfl q_eql ?_
  refine vq rfl qA ?_
  refine gN (tN ?_)
  refine gC (fun hb22 => ?_) (fun hb22 => ?_)
  ·
    refine gS (gR ?_)
    refine sv rfl (y_buildSlice (xs := [.const (.string ⟨#[43]⟩), .const (.string ⟨#[42]⟩), .const (.string ⟨#[109, 105, 110]⟩), .const (.string ⟨#[109, 97, 120]⟩)]) u63 inf9) ?_
    refine vq rfl (qF u27 rfl sz9) ?_
    refine vq rfl (qL u9) ?_
    refine gL (xs := [.tmp 235, .tmp 237]) rfl (c176 [⟨#[43]⟩, ⟨#[42]⟩, ⟨#[109, 105, 110]⟩, ⟨#[109, 97, 120]⟩] name (by decide)) ?_
    refine vq rfl qM ?_
    refine sg rfl (fun hg => qF u27 rfl sz3) ?_
    refine sg rfl (fun hg => sP 240 rfl hg (qL u3)) ?_
    refine sg rfl (fun hg => sP 241 rfl hg q_eql) ?_
    refine vq rfl q_and ?_
    refine vq rfl qM ?_
    refine sg rfl (fun hg => qG (by exact sz27) u27 rfl) ?_
    refine g_callg (xs := [.tmp 245, .const (.string ⟨#[101]⟩)]) rfl (fun hg => (Tr.d_mk op name num ks ▸ c239 (.mk op name num ks) ⟨#[101]⟩ hok)) ?_
    refine vq rfl q_and ?_
    refine vq rfl qA ?_
    refine gN (tN (gT (bR (tR ?_))))
    obtain rfl := eq_of_beq hb22
    refine fin1 (by simp) ?_
    exact ⟨by (first | rw [right1] | rw [right2] | rw [right5] | rw [right6] | rw [right7] | rw [right8] | rw [right9] | rw [right10] | rw [right12] | rw [right14] | rw [right16] | rw [right17] | rw [right18] | rw [right19] | rw [right31] | rw [right51] | rw [right52] | rw [right53] | rw [right54] | rw [right55] | rw [right56] | rw [right57] | rw [right58] | rw [right59] | rw [right60] | rw [right61] | rw [right62] | rw [right63] | rw [right64] | rw [right65] | rw [right66] | rw [right67] | rw [right3] | rw [right4] | rw [right30] | rw [right50] | rw [right13] | rw [right15] | rw [right11]) <;> first | rfl | (rw [List.length_map]; rfl) | rw [List.length_map], rfl⟩
  refine gS (gR ?_)
  refine vq rfl q_eql ?_
  refine vq rfl qA ?_
  refine gN (tN ?_)
  refine gC (fun hb23 => ?_) (fun hb23 => ?_)
  ·
    refine gS (gR ?_)
    refine vq rfl (qG (by exact sz27) u27 rfl) ?_
    refine gL (xs := [.tmp 250]) rfl ((Tr.d_mk op name num ks ▸ c177 (.mk op name num ks))) ?_
    refine vq rfl qM ?_
    refine sg rfl (fun hg => qG (by exact sz27) u27 rfl) ?_
    refine g_callg (xs := [.tmp 253, .const (.string ⟨#[101, 101, 101]⟩)]) rfl (fun hg => (Tr.d_mk op name num ks ▸ c239 (.mk op name num ks) ⟨#[101, 101, 101]⟩ hok)) ?_
    refine vq rfl q_and ?_
    refine vq rfl qA ?_
    refine gN (tN (gT (bR (tR ?_))))
    obtain rfl := eq_of_beq hb23
    refine fin1 (by simp) ?_
    exact ⟨by (first | rw [right1] | rw [right2] | rw [right5] | rw [right6] | rw [right7] | rw [right8] | rw [right9] | rw [right10] | rw [right12] | rw [right14] | rw [right16] | rw [right17] | rw [right18] | rw [right19] | rw [right31] | rw [right51] | rw [right52] | rw [right53] | rw [right54] | rw [right55] | rw [right56] | rw [right57] | rw [right58] | rw [right59] | rw [right60] | rw [right61] | rw [right62] | rw [right63] | rw [right64] | rw [right65] | rw [right66] | rw [right67] | rw [right3] | rw [right4] | rw [right30] | rw [right50] | rw [right13] | rw [right15] | rw [right11]) <;> first | rfl | (rw [List.length_map]; rfl) | rw [List.length_map], rfl⟩
  refine gK (bN (tN (gS (gR ?_))))
  refine vq rfl qA ?_
  refine gN (tN (gT ?_))
  exfalso
  simp only [isExprB, Bool.and_eq_true, decide_eq_true_eq, bne_iff_ne] at hE
  simp only [beq_eq_false_iff_ne] at hb0 hb1 hb2 hb3 hb4 hb5 hb7 hb9 hb10 hb11 hb13 hb14 hb17 hb18 hb19 hb21 hb22 hb23
  omega
end Go.Proofs.YtklkbfpjimeaoaaGreat
