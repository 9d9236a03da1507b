/- The law: two interfaces that differ have different bytes. No condition but what each theorem says. -/
import Derived.Test.YtgnkfegkdjfnjaaSyp11
namespace Go.Proofs.Ytgnkfegkdjfnjaa
open Go Go.Eng

set_option maxHeartbeats 4000000 in
theorem apartL_fn {h : Heap} {fv gv : Value} {f g : Face} (hF : FaceV h.size h fv f) (hS : FaceShort f) (hG : FaceV h.size h gv g) (hS' : FaceShort g) :
    Does Try.prog 10 [fv, gv] h (fun v h' => v = .bool true ∧ Ext h h') := by
  have hmx : maxLen = 9223372036854775807 := by decide
  have k0 : At h.size h h := At.refl (Nat.le_refl _)
  have hF0 := hF
  have hG0 := hG
  obtain ⟨hfn, hfk, hft⟩ := face_name hF
  obtain ⟨hgn, hgk, hgt⟩ := face_name hG
  have hfu := uses_key hF
  have hgu := uses_key hG
  have hsz := short_sized hS
  have hsz' := short_sized hS'
  obtain ⟨au, cu, at0, ct0, ao, co, rfl⟩ := face_form hF
  obtain ⟨au', cu', at', ct', ao', co', rfl⟩ := face_form hG
  refine fn_enter (N := 61) Try.func10 (by kernel_rfl) rfl rfl rfl (fun w0 => ?_)
  refine c_seq ?_; refine c_reg ?_; refine bx rfl nofun rfl (fun h1 n1 => ?_)
  have s1 : h1.size = h.size + 1 := n1.size
  have k_1 := k0.ext n1.ext
  have b2_1 := n1.at_
  refine bx rfl nofun rfl (fun h2 n2 => ?_)
  have s2 : h2.size = h1.size + 1 := n2.size
  have k_2 := k_1.ext n2.ext
  have b2_2 := n2.ext.get b2_1
  have b3_2 := n2.at_
  refine asg rfl rfl ?_; refine o_nil ?_; refine x_seq ?_
  refine c_seq ?_; refine c_seq ?_; refine c_reg ?_
  refine ldn rfl rfl (row_blk b2_2) rfl (clE ((large16_fn (FaceV.up hF0 k_2) hsz)) rfl rfl (fun h3 x3 => ?_))
  have s3 : h2.size ≤ h3.size := x3.size
  have k_3 := k_2.ext x3
  have b2_3 := x3.get b2_2
  have b3_3 := x3.get b3_2
  refine mv rfl rfl (gqf rfl rfl rfl (fun e => ldn rfl rfl (row_blk b3_3) rfl) (gef rfl rfl rfl (fun e kk => clE ((large16_fn (FaceV.up hG0 k_3) hsz')) (a1 (cg rfl e)) rfl kk) (fun h4 x4 => ?_)))
  have s4 : h3.size ≤ h4.size := x4.size
  have k_4 := k_3.ext x4
  have b2_4 := x4.get b2_3
  have b3_4 := x4.get b3_3
  refine pko rfl rfl rfl rfl ?_; refine o_nil ?_; refine x_seq ?_; refine c_cond rfl (fun c5 => ?_) (fun c5 => ?_)
  · refine c_seq ?_; refine c_reg ?_; refine clE (wakes17_fn) rfl rfl (fun h6 x6 => ?_)
    have s6 : h4.size ≤ h6.size := x6.size
    have k_6 := k_4.ext x6
    have b2_6 := x6.get b2_4
    have b3_6 := x6.get b3_4
    refine asg rfl rfl ?_; refine o_nil ?_; refine x_seq ?_; refine c_ret ?_; refine x_seq_ret ?_; refine ret1 (.inr rfl) rfl rfl ?_
    exact ⟨rfl, (k_6).toExt⟩
  · have hlg : ¬ Large16P f := fun e => c5 (.inl e)
    have hlg' : ¬ Large16P g := fun e => c5 (.inr e)
    refine c_skip ?_; refine x_seq ?_; refine c_seq ?_; refine c_reg ?_
    refine ldn rfl rfl (row_blk b2_4) rfl (cl (vs := [faceC f au cu at0 ct0 ao co]) rfl ((copy16_fn (FaceV.up hF0 k_4) hlg)) rfl (fun v7 h7 r7 => ?_))
    obtain ⟨nn7, x7⟩ := r7
    have z7 := x7.size
    have p7 := nn7.face hfn hfk hft
    have k_7 := (k_4.ext x7)
    have b2_7 := (x7.get b2_4)
    have b3_7 := (x7.get b3_4)
    refine cl (vs := [v7]) rfl ((encode_fn p7 nn7.cap)) rfl (fun v8 h8 r8 => ?_)
    obtain ⟨s, e, rfl, hE8, x8⟩ := r8
    have k_8 := (k_7.ext x8)
    have b2_8 := (x8.get b2_7)
    have b3_8 := (x8.get b3_7)
    refine mv rfl rfl (ext rfl rfl rfl (ext rfl rfl rfl (asg rfl rfl (asg rfl rfl ?_))))
    refine o_nil ?_; refine x_seq ?_; refine c_seq ?_; refine c_reg ?_
    refine ldn rfl rfl (row_blk b3_8) rfl (cl (vs := [faceC g au' cu' at' ct' ao' co']) rfl ((copy16_fn (FaceV.up hG0 k_8) hlg')) rfl (fun v9 h9 r9 => ?_))
    obtain ⟨nn9, x9⟩ := r9
    have z9 := x9.size
    have p9 := nn9.face hgn hgk hgt
    have k_9 := (k_8.ext x9)
    have b2_9 := (x9.get b2_8)
    have b3_9 := (x9.get b3_8)
    refine cl (vs := [v9]) rfl ((encode_fn p9 nn9.cap)) rfl (fun v10 h10 r10 => ?_)
    obtain ⟨t, e', rfl, hE10, x10⟩ := r10
    have k_10 := (k_9.ext x10)
    have b2_10 := (x10.get b2_9)
    have b3_10 := (x10.get b3_9)
    refine mv rfl rfl (ext rfl rfl rfl (ext rfl rfl rfl (asg rfl rfl (asg rfl rfl ?_))))
    refine o_nil ?_; refine x_seq ?_
    refine c_seq ?_; refine c_seq ?_; refine c_reg ?_
    refine mv rfl rfl (nei rfl rfl rfl (mv rfl rfl (gqf rfl rfl rfl (fun e => mv rfl rfl) (gqf rfl rfl rfl (fun e => nei (cg rfl e) rfl rfl) (pko rfl rfl rfl rfl ?_)))))
    refine o_nil ?_; refine x_seq ?_; refine c_cond rfl (fun c11 => ?_) (fun c11 => ?_)
    · refine c_seq ?_; refine c_reg ?_
      refine mv rfl rfl (eqi rfl rfl rfl (mv rfl rfl (gqf rfl rfl rfl (fun e => mv rfl rfl) (gqf rfl rfl rfl (fun e => eqs (cg rfl e) rfl rfl) (pko rfl rfl rfl rfl (mv rfl rfl ?_))))))
      refine gqt rfl rfl rfl (fun e => mv rfl rfl) (gqt rfl rfl rfl (fun e => eqi (cg rfl e) rfl rfl) (gqt rfl rfl rfl (fun e => mv (cg rfl e) rfl) (gqf2 rfl rfl rfl (fun e => mv rfl rfl) ?_)))
      refine gqf2 rfl rfl rfl (fun e => eqs (cg rfl e) rfl rfl) (gqt rfl rfl rfl (fun e => pko (cg rfl e) rfl (cg2 rfl e) rfl) (pka rfl rfl rfl rfl (mv rfl rfl (getr rfl rfl rfl (fun e kk => clE (wakes17_fn) rfl rfl kk) (fun h12 x12 => ?_)))))
      have s12 : h10.size ≤ h12.size := x12.size
      have k_12 := k_10.ext x12
      have b2_12 := x12.get b2_10
      have b3_12 := x12.get b3_10
      refine pka rfl rfl rfl rfl (asg rfl rfl ?_)
      refine o_nil ?_; refine x_seq ?_; refine c_ret ?_; refine x_seq_ret ?_; refine ret1 (.inr rfl) rfl rfl ?_
      refine ⟨congrArg Value.bool ?_, (k_12).toExt⟩
      by_cases a1 : e = 0 <;> by_cases a2 : e' = 0
      · rcases c11 with c | c <;> exact absurd (by assumption) c
      · have := enc_bad hE10 a2
        simp [a1, this]
      · have := enc_bad hE8 a1
        simp [a2, this]
      · have h1 := enc_bad hE8 a1
        have h2 := enc_bad hE10 a2
        simp [h1, h2]
    · have a1 : e = 0 := Classical.not_not.1 (fun c => c11 (.inl c))
      have a2 : e' = 0 := Classical.not_not.1 (fun c => c11 (.inr c))
      subst a1
      subst a2
      refine c_skip ?_; refine x_seq ?_; refine c_seq ?_; refine c_reg ?_
      refine mv rfl rfl (mv rfl rfl (eqs rfl rfl rfl (ldn rfl rfl (row_blk b2_10) rfl (ldn rfl rfl (row_blk b3_10) rfl (clE ((same16_fn (FaceV.up hF0 k_10) (FaceV.up hG0 k_10))) rfl rfl (fun h13 x13 => ?_))))))
      have s13 : h10.size ≤ h13.size := x13.size
      have k_13 := k_10.ext x13
      have b2_13 := x13.get b2_10
      have b3_13 := x13.get b3_10
      refine eqb rfl rfl rfl (mv rfl rfl (getr rfl rfl rfl (fun e kk => clE (wakes17_fn) rfl rfl kk) (fun h14 x14 => ?_)))
      have s14 : h13.size ≤ h14.size := x14.size
      have k_14 := k_13.ext x14
      have b2_14 := x14.get b2_13
      have b3_14 := x14.get b3_13
      refine pka rfl rfl rfl rfl (asg rfl rfl ?_)
      refine o_nil ?_; refine x_seq ?_; refine c_ret ?_; refine ret1 (.inr rfl) rfl rfl ?_
      refine ⟨congrArg Value.bool ?_, (k_14).toExt⟩
      have key : s = t ↔ f = g := ⟨fun e => by subst e; exact enc_inj hE8 hE10 hfk hfu hgk hgu, fun e => by subst e; exact (encR_fun hE8 hE10).1⟩
      by_cases c : f = g
      · rw [tb_t c]; simp [key.2 c]
      · have hst : ¬ s = t := fun e => c (key.1 e)
        rw [tb_f c]; simp [hst]
end Go.Proofs.Ytgnkfegkdjfnjaa
