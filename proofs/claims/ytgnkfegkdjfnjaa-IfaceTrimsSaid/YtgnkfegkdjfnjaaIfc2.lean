/- The law: any interface with the needed types alone, or why not. No condition but what each theorem says. -/
import Derived.Test.YtgnkfegkdjfnjaaIfc1
namespace Go.Proofs.Ytgnkfegkdjfnjaa
open Go Go.Eng

set_option maxHeartbeats 4000000 in
theorem trimsL_fn {h : Heap} {fv : Value} {f : Face} (hF : FaceV h.size h fv f) (hS : FaceShort f) :
    Does Try.prog 4 [fv] h (fun v h' => v = .bool true ∧ Ext h h') := by
  have hmx : maxLen = 9223372036854775807 := by decide
  have k0 : At h.size h h := At.refl (Nat.le_refl _)
  have hF0 := hF
  obtain ⟨hfn, hfk, hft⟩ := face_name hF
  have hsz := short_sized hS
  obtain ⟨au, cu, at0, ct0, ao, co, rfl⟩ := face_form hF
  refine fn_enter (N := 39) Try.func4 (by kernel_rfl) rfl rfl rfl (fun w0 => ?_)
  refine c_seq ?_; refine c_reg ?_; refine bx rfl nofun rfl (fun h1 n1 => ?_)
  have s1 : h1.size = h.size + 1 := n1.size
  have k_1 := k0.ext n1.ext
  have b1_1 := n1.at_
  refine asg rfl rfl ?_; refine o_nil ?_; refine x_seq ?_
  refine c_seq ?_; refine c_seq ?_; refine c_reg ?_
  refine ldn rfl rfl (row_blk b1_1) rfl (clE ((large16_fn (FaceV.up hF0 k_1) hsz)) rfl rfl (fun h2 x2 => ?_))
  have s2 : h1.size ≤ h2.size := x2.size
  have k_2 := k_1.ext x2
  have b1_2 := x2.get b1_1
  refine o_nil ?_; refine x_seq ?_; refine c_cond rfl (fun c3 => ?_) (fun c3 => ?_)
  · refine c_seq ?_; refine c_reg ?_; refine clE (wakes16_fn) rfl rfl (fun h4 x4 => ?_)
    have s4 : h2.size ≤ h4.size := x4.size
    have k_4 := k_2.ext x4
    have b1_4 := x4.get b1_2
    refine asg rfl rfl ?_; refine o_nil ?_; refine x_seq ?_; refine c_ret ?_; refine x_seq_ret ?_; refine ret1 (.inr rfl) rfl rfl ?_
    exact ⟨rfl, (k_4).toExt⟩
  · have hlg : ¬ Large16P f := c3
    refine c_skip ?_; refine x_seq ?_; refine c_seq ?_; refine c_reg ?_
    refine ldn rfl rfl (row_blk b1_2) rfl (cl (vs := [faceC f au cu at0 ct0 ao co]) rfl ((copy16_fn (FaceV.up hF0 k_2) hlg)) rfl (fun v5 h5 r5 => ?_))
    obtain ⟨nn5, x5⟩ := r5
    have z5 := x5.size
    have p5 := nn5.face hfn hfk hft
    obtain ⟨au5, cu5, at5, ct5, ao5, co5, rfl⟩ := face_form p5
    have kk5 : At h5.size h5 h5 := At.refl (Nat.le_refl _)
    have k5 := k_2.ext x5
    have q5 := FaceV.up hF0 k5
    have k_5 := (k_2.ext x5)
    have b1_5 := (x5.get b1_2)
    refine alc nofun rfl (fun h6 n6 => ?_)
    have s6 : h6.size = h5.size + 1 := n6.size
    have k_6 := kk5.ext n6.ext
    have b1_6 := n6.ext.get b1_5
    have b3_6 := n6.at_
    refine stw rfl rfl rfl (ones rfl) b3_6 rfl nofun (fun h7 u7 => ?_)
    have s7 : h7.size = h6.size := u7.size
    have k_7 := k_6.upd u7 (by omega)
    have b1_7 := u7.ne b1_6 (by omega)
    have b3_7 := u7.at_
    refine o_nil ?_; refine x_seq ?_; refine c_seq ?_; refine c_reg ?_
    refine ldn rfl rfl (row_blk b3_7) rfl (cl (vs := [faceC f au5 cu5 at5 ct5 ao5 co5]) rfl ((trim_fn (FaceV.up p5 k_7))) rfl (fun v8 h8 r8 => ?_))
    obtain ⟨xv, x, e, rfl, p8, x8, hr8⟩ := r8
    have z8 := x8.size
    obtain ⟨au8, cu8, at8, ct8, ao8, co8, rfl⟩ := face_form p8
    have k_8 := (k_7.ext x8)
    have b1_8 := (x8.get b1_7)
    have b3_8 := (x8.get b3_7)
    refine mv rfl rfl (ext rfl rfl rfl (ext rfl rfl rfl (alc nofun rfl (fun h9 n9 => ?_))))
    have s9 : h9.size = h8.size + 1 := n9.size
    have k_9 := k_8.ext n9.ext
    have b1_9 := n9.ext.get b1_8
    have b3_9 := n9.ext.get b3_8
    have b4_9 := n9.at_
    refine stw rfl rfl rfl (ones rfl) b4_9 rfl nofun (fun h10 u10 => ?_)
    have s10 : h10.size = h9.size := u10.size
    have k_10 := k_9.upd u10 (by omega)
    have b1_10 := u10.ne b1_9 (by omega)
    have b3_10 := u10.ne b3_9 (by omega)
    have b4_10 := u10.at_
    refine asg rfl rfl ?_; refine o_nil ?_; refine x_seq ?_; refine c_seq ?_; refine c_reg ?_
    refine ldn rfl rfl (row_blk b1_10) rfl (cl (vs := [faceC f au cu at0 ct0 ao co]) rfl ((rtrim_fn (FaceV.up q5 k_10) hlg)) rfl (fun v11 h11 r11 => ?_))
    obtain ⟨yv, y, e', rfl, p11, x11, hr11⟩ := r11
    have z11 := x11.size
    obtain ⟨au11, cu11, at11, ct11, ao11, co11, rfl⟩ := face_form p11
    have k_11 := (k_10.ext x11)
    have b1_11 := (x11.get b1_10)
    have b3_11 := (x11.get b3_10)
    have b4_11 := (x11.get b4_10)
    refine mv rfl rfl (ext rfl rfl rfl (ext rfl rfl rfl (alc nofun rfl (fun h12 n12 => ?_))))
    have s12 : h12.size = h11.size + 1 := n12.size
    have k_12 := k_11.ext n12.ext
    have b1_12 := n12.ext.get b1_11
    have b3_12 := n12.ext.get b3_11
    have b4_12 := n12.ext.get b4_11
    have b6_12 := n12.at_
    refine stw rfl rfl rfl (ones rfl) b6_12 rfl nofun (fun h13 u13 => ?_)
    have P8 := FaceV.up p8 ((((((At.refl (Nat.le_refl _)).ext n9.ext).upd u10 (Nat.le_refl _)).ext x11).ext n12.ext).upd u13 (by have := n9.size; have := u10.size; omega))
    have P11 := FaceV.up p11 (((At.refl (Nat.le_refl _)).ext n12.ext).upd u13 (Nat.le_refl _))
    have s13 : h13.size = h12.size := u13.size
    have k_13 := k_12.upd u13 (by omega)
    have b1_13 := u13.ne b1_12 (by omega)
    have b3_13 := u13.ne b3_12 (by omega)
    have b4_13 := u13.ne b4_12 (by omega)
    have b6_13 := u13.at_
    refine asg rfl rfl ?_; refine o_nil ?_; refine x_seq ?_; refine c_seq ?_; refine c_reg ?_
    refine mv rfl rfl (mv rfl rfl (eqi rfl rfl rfl (mv rfl rfl (gqt rfl rfl rfl (fun e => ldn rfl rfl (row_blk b4_13) rfl) (gqt rfl rfl rfl (fun e => ldn rfl rfl (row_blk b6_13) rfl) ?_)))))
    refine getr rfl rfl rfl (fun e kk => clE ((same16_fn P8 P11)) (a2 (cg rfl e) (cg rfl e)) rfl kk) (fun h14 x14 => ?_)
    have s14 : h13.size ≤ h14.size := x14.size
    have k_14 := k_13.ext x14
    have b1_14 := x14.get b1_13
    have b3_14 := x14.get b3_13
    have b4_14 := x14.get b4_13
    have b6_14 := x14.get b6_13
    refine pka rfl rfl rfl rfl (mv rfl rfl (gqt rfl rfl rfl (fun e => ldn rfl rfl (row_blk b3_14) rfl) (gqt rfl rfl rfl (fun e => ldn rfl rfl (row_blk b1_14) rfl) ?_)))
    refine getr rfl rfl rfl (fun e kk => clE ((same16_fn (FaceV.up p5 k_14) (FaceV.up q5 k_14))) (a2 (cg rfl e) (cg rfl e)) rfl kk) (fun h15 x15 => ?_)
    have s15 : h14.size ≤ h15.size := x15.size
    have k_15 := k_14.ext x15
    have b1_15 := x15.get b1_14
    have b3_15 := x15.get b3_14
    have b4_15 := x15.get b4_14
    have b6_15 := x15.get b6_14
    refine pka rfl rfl rfl rfl (mv rfl rfl (getr rfl rfl rfl (fun e kk => clE (wakes16_fn) rfl rfl kk) (fun h16 x16 => ?_)))
    have s16 : h15.size ≤ h16.size := x16.size
    have k_16 := k_15.ext x16
    have b1_16 := x16.get b1_15
    have b3_16 := x16.get b3_15
    have b4_16 := x16.get b4_15
    have b6_16 := x16.get b6_15
    refine pka rfl rfl rfl rfl (asg rfl rfl ?_)
    refine o_nil ?_; refine x_seq ?_; refine c_ret ?_; refine ret1 (.inr rfl) rfl rfl ?_
    have key : x = y ∧ e = e' := by
     rcases hr8 with ⟨h1, rfl, rfl⟩ | ⟨h1, rfl, rfl⟩
     · rcases hr11 with ⟨h2, rfl, rfl⟩ | ⟨h2, -, -⟩
       · exact ⟨rfl, rfl⟩
       · exact absurd h1 h2
     · rcases hr11 with ⟨h2, -, -⟩ | ⟨h2, rfl, rfl⟩
       · exact absurd h2 h1
       · exact ⟨rfl, rfl⟩
    obtain ⟨rfl, rfl⟩ := key
    exact ⟨congrArg Value.bool (by simp [tb_t]), (k5.toExt).trans (k_16).toExt⟩
end Go.Proofs.Ytgnkfegkdjfnjaa
