/- The law: the bytes and the key of every interface, or why it has none. No condition but what each theorem says. -/
import Derived.Test.YtgnkfegkdjfnjaaSyp8
namespace Go.Proofs.Ytgnkfegkdjfnjaa
open Go Go.Eng

theorem encR_fun {f : Face} {s s' : Bytes} {e e' : Int} (a : EncR f s e) (b : EncR f s' e') : s = s' ∧ e = e' := by
  rcases a with ⟨h1, rfl, rfl⟩ | ⟨h1, rfl, rfl⟩ <;> rcases b with ⟨h2, rfl, rfl⟩ | ⟨h2, rfl, rfl⟩
  · exact ⟨rfl, rfl⟩
  · exact absurd h1 h2
  · exact absurd h2 h1
  · exact ⟨rfl, rfl⟩
theorem keyR_fun {f : Face} {k k' e e' : Int} (a : KeyR f k e) (b : KeyR f k' e') : k = k' ∧ e = e' := by
  obtain ⟨s, d, h1, a⟩ := a
  obtain ⟨s', d', h2, b⟩ := b
  obtain ⟨rfl, rfl⟩ := encR_fun h1 h2
  rcases a with ⟨a1, rfl, rfl⟩ | ⟨a1, rfl, rfl⟩ <;> rcases b with ⟨b1, rfl, rfl⟩ | ⟨b1, rfl, rfl⟩
  · exact ⟨rfl, rfl⟩
  · exact absurd b1 a1
  · exact absurd a1 b1
  · exact ⟨rfl, rfl⟩
set_option maxHeartbeats 4000000 in
theorem writesL_fn {h : Heap} {fv : Value} {f : Face} (hF : FaceV h.size h fv f) (hS : FaceShort f) :
    Does Try.prog 9 [fv] h (fun v h' => v = .bool true ∧ Ext h h') := by
  have hmx : maxLen = 9223372036854775807 := by decide
  have k0 : At h.size h h := At.refl (Nat.le_refl _)
  have hF0 := hF
  obtain ⟨hfn, hfk, hft⟩ := face_name hF
  have hsz := short_sized hS
  obtain ⟨au, cu, at0, ct0, ao, co, rfl⟩ := face_form hF
  refine fn_enter (N := 64) Try.func9 (by kernel_rfl) rfl rfl rfl (fun w0 => ?_)
  refine c_seq ?_; refine c_reg ?_; refine bx rfl nofun rfl (fun h1 n1 => ?_)
  have s1 : h1.size = h.size + 1 := n1.size
  have k_1 := k0.ext n1.ext
  have b1_1 := n1.at_
  refine asg rfl rfl ?_; refine o_nil ?_; refine x_seq ?_
  refine c_seq ?_; refine c_seq ?_; refine c_reg ?_
  refine ldn rfl rfl (row_blk b1_1) rfl (clE ((large16_fn (FaceV.up hF0 k_1) hsz)) rfl rfl (fun h2 x2 => ?_))
  have s2 : h1.size ≤ h2.size := x2.size
  have k_2 := k_1.ext x2
  have b1_2 := x2.get b1_1
  refine o_nil ?_; refine x_seq ?_; refine c_cond rfl (fun c3 => ?_) (fun c3 => ?_)
  · refine c_seq ?_; refine c_reg ?_; refine clE (wakes17_fn) rfl rfl (fun h4 x4 => ?_)
    have s4 : h2.size ≤ h4.size := x4.size
    have k_4 := k_2.ext x4
    have b1_4 := x4.get b1_2
    refine asg rfl rfl ?_; refine o_nil ?_; refine x_seq ?_; refine c_ret ?_; refine x_seq_ret ?_; refine ret1 (.inr rfl) rfl rfl ?_
    exact ⟨rfl, (k_4).toExt⟩
  · have hlg : ¬ Large16P f := c3
    refine c_skip ?_; refine x_seq ?_; refine c_seq ?_; refine c_reg ?_
    refine ldn rfl rfl (row_blk b1_2) rfl (cl (vs := [faceC f au cu at0 ct0 ao co]) rfl ((copy16_fn (FaceV.up hF0 k_2) hlg)) rfl (fun v5 h5 r5 => ?_))
    obtain ⟨nn5, x5⟩ := r5
    have z5 := x5.size
    have p5 := nn5.face hfn hfk hft
    have hc5 := nn5.cap
    obtain ⟨au5, cu5, at5, ct5, ao5, co5, rfl⟩ := face_form p5
    have kk5 : At h5.size h5 h5 := At.refl (Nat.le_refl _)
    have k5 := k_2.ext x5
    have q5 := FaceV.up hF0 k5
    have k_5 := (k_2.ext x5)
    have b1_5 := (x5.get b1_2)
    refine alc nofun rfl (fun h6 n6 => ?_)
    have s6 : h6.size = h5.size + 1 := n6.size
    have k_6 := kk5.ext n6.ext
    have b1_6 := n6.ext.get b1_5
    have b3_6 := n6.at_
    refine stw rfl rfl rfl (ones rfl) b3_6 rfl nofun (fun h7 u7 => ?_)
    have s7 : h7.size = h6.size := u7.size
    have k_7 := k_6.upd u7 (by omega)
    have b1_7 := u7.ne b1_6 (by omega)
    have b3_7 := u7.at_
    refine o_nil ?_; refine x_seq ?_; refine c_seq ?_; refine c_reg ?_
    refine ldn rfl rfl (row_blk b3_7) rfl (cl (vs := [faceC f au5 cu5 at5 ct5 ao5 co5]) rfl ((encode_fn (FaceV.up p5 k_7) hc5)) rfl (fun v8 h8 r8 => ?_))
    obtain ⟨s, e, rfl, hE8, x8⟩ := r8
    have k_8 := (k_7.ext x8)
    have b1_8 := (x8.get b1_7)
    have b3_8 := (x8.get b3_7)
    refine mv rfl rfl (ext rfl rfl rfl (ext rfl rfl rfl (asg rfl rfl (asg rfl rfl ?_))))
    refine o_nil ?_; refine x_seq ?_; refine c_seq ?_; refine c_reg ?_
    refine ldn rfl rfl (row_blk b1_8) rfl (cl (vs := [faceC f au cu at0 ct0 ao co]) rfl ((rencode_fn (FaceV.up q5 k_8))) rfl (fun v9 h9 r9 => ?_))
    obtain ⟨t, g, rfl, hE9, x9⟩ := r9
    obtain ⟨rfl, rfl⟩ := encR_fun hE8 hE9
    have k_9 := (k_8.ext x9)
    have b1_9 := (x9.get b1_8)
    have b3_9 := (x9.get b3_8)
    refine mv rfl rfl (ext rfl rfl rfl (ext rfl rfl rfl (asg rfl rfl (asg rfl rfl ?_))))
    refine o_nil ?_; refine x_seq ?_; refine c_seq ?_; refine c_reg ?_
    refine ldn rfl rfl (row_blk b1_9) rfl (cl (vs := [faceC f au cu at0 ct0 ao co]) rfl ((copy16_fn (FaceV.up q5 k_9) hlg)) rfl (fun v10 h10 r10 => ?_))
    obtain ⟨nn10, x10⟩ := r10
    have p10 := nn10.face hfn hfk hft
    have hc10 := nn10.cap
    have k_10 := (k_9.ext x10)
    have b1_10 := (x10.get b1_9)
    have b3_10 := (x10.get b3_9)
    refine cl (vs := [v10]) rfl ((key_fn p10 hc10)) rfl (fun v11 h11 r11 => ?_)
    obtain ⟨k, e1, rfl, hK11, x11⟩ := r11
    have k_11 := (k_10.ext x11)
    have b1_11 := (x11.get b1_10)
    have b3_11 := (x11.get b3_10)
    refine mv rfl rfl (ext rfl rfl rfl (ext rfl rfl rfl (asg rfl rfl (asg rfl rfl ?_))))
    refine o_nil ?_; refine x_seq ?_; refine c_seq ?_; refine c_reg ?_
    refine ldn rfl rfl (row_blk b1_11) rfl (cl (vs := [faceC f au cu at0 ct0 ao co]) rfl ((rkey_fn (FaceV.up q5 k_11))) rfl (fun v12 h12 r12 => ?_))
    obtain ⟨j, i1, rfl, hK12, x12⟩ := r12
    obtain ⟨rfl, rfl⟩ := keyR_fun hK11 hK12
    have k_12 := (k_11.ext x12)
    have b1_12 := (x12.get b1_11)
    have b3_12 := (x12.get b3_11)
    refine mv rfl rfl (ext rfl rfl rfl (ext rfl rfl rfl (asg rfl rfl (asg rfl rfl ?_))))
    refine o_nil ?_; refine x_seq ?_; refine c_seq ?_; refine c_reg ?_
    refine mv rfl rfl (mv rfl rfl (eqs rfl rfl rfl (mv rfl rfl (gqt rfl rfl rfl (fun e => mv rfl rfl) (gqt rfl rfl rfl (fun e => mv rfl rfl) (gqt rfl rfl rfl (fun e => eqi (cg rfl e) (cg rfl e) rfl) ?_))))))
    refine pka rfl rfl rfl rfl (mv rfl rfl (gqt rfl rfl rfl (fun e => mv rfl rfl) (gqt rfl rfl rfl (fun e => mv rfl rfl) (gqt rfl rfl rfl (fun e => eqi (cg rfl e) (cg rfl e) rfl) ?_))))
    refine pka rfl rfl rfl rfl (mv rfl rfl (gqt rfl rfl rfl (fun e => mv rfl rfl) (gqt rfl rfl rfl (fun e => mv rfl rfl) (gqt rfl rfl rfl (fun e => eqi (cg rfl e) (cg rfl e) rfl) ?_))))
    refine pka rfl rfl rfl rfl (mv rfl rfl (gqt rfl rfl rfl (fun e => ldn rfl rfl (row_blk b3_12) rfl) (gqt rfl rfl rfl (fun e => ldn rfl rfl (row_blk b1_12) rfl) ?_)))
    refine getr rfl rfl rfl (fun e kk => clE ((same16_fn (FaceV.up p5 k_12) (FaceV.up q5 k_12))) (a2 (cg rfl e) (cg rfl e)) rfl kk) (fun h13 x13 => ?_)
    have s13 : h12.size ≤ h13.size := x13.size
    have k_13 := k_12.ext x13
    have b1_13 := x13.get b1_12
    have b3_13 := x13.get b3_12
    refine pka rfl rfl rfl rfl (mv rfl rfl (getr rfl rfl rfl (fun e kk => clE (wakes17_fn) rfl rfl kk) (fun h14 x14 => ?_)))
    have s14 : h13.size ≤ h14.size := x14.size
    have k_14 := k_13.ext x14
    have b1_14 := x14.get b1_13
    have b3_14 := x14.get b3_13
    refine pka rfl rfl rfl rfl (asg rfl rfl ?_)
    refine o_nil ?_; refine x_seq ?_; refine c_ret ?_; refine ret1 (.inr rfl) rfl rfl ?_
    exact ⟨congrArg Value.bool (by simp [tb_t]), (k5.toExt).trans (k_14).toExt⟩
end Go.Proofs.Ytgnkfegkdjfnjaa
