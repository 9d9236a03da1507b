/- The law: which interfaces are alike. No condition but what each theorem says. -/
import Derived.Test.YtgnkfegkdjfnjaaIfb5
namespace Go.Proofs.Ytgnkfegkdjfnjaa
open Go Go.Eng

set_option maxHeartbeats 4000000 in
theorem samesL_fn {h : Heap} {fv gv : Value} {f g : Face} (hF : FaceV h.size h fv f) (hS : FaceShort f) (hG : FaceV h.size h gv g) (hS' : FaceShort g) :
    Does Try.prog 7 [fv, gv] h (fun v h' => v = .bool true ∧ Ext h h') := by
  have hmx : maxLen = 9223372036854775807 := by decide
  have k0 : At h.size h h := At.refl (Nat.le_refl _)
  have hF0 := hF
  have hG0 := hG
  obtain ⟨hfn, hfk, hft⟩ := face_name hF
  obtain ⟨hgn, hgk, hgt⟩ := face_name hG
  have hsz := short_sized hS
  have hsz' := short_sized hS'
  obtain ⟨au, cu, at0, ct0, ao, co, rfl⟩ := face_form hF
  obtain ⟨au', cu', at', ct', ao', co', rfl⟩ := face_form hG
  refine fn_enter (N := 31) Try.func7 (by kernel_rfl) rfl rfl rfl (fun w0 => ?_)
  refine c_seq ?_; refine c_reg ?_; refine bx rfl nofun rfl (fun h1 n1 => ?_)
  have s1 : h1.size = h.size + 1 := n1.size
  have k_1 := k0.ext n1.ext
  have b2_1 := n1.at_
  refine bx rfl nofun rfl (fun h2 n2 => ?_)
  have s2 : h2.size = h1.size + 1 := n2.size
  have k_2 := k_1.ext n2.ext
  have b2_2 := n2.ext.get b2_1
  have b3_2 := n2.at_
  refine asg rfl rfl ?_; refine o_nil ?_; refine x_seq ?_
  refine c_seq ?_; refine c_seq ?_; refine c_reg ?_
  refine ldn rfl rfl (row_blk b2_2) rfl (clE ((large16_fn (FaceV.up hF0 k_2) hsz)) rfl rfl (fun h3 x3 => ?_))
  have s3 : h2.size ≤ h3.size := x3.size
  have k_3 := k_2.ext x3
  have b2_3 := x3.get b2_2
  have b3_3 := x3.get b3_2
  refine mv rfl rfl (gqf rfl rfl rfl (fun e => ldn rfl rfl (row_blk b3_3) rfl) (gef rfl rfl rfl (fun e kk => clE ((large16_fn (FaceV.up hG0 k_3) hsz')) (a1 (cg rfl e)) rfl kk) (fun h4 x4 => ?_)))
  have s4 : h3.size ≤ h4.size := x4.size
  have k_4 := k_3.ext x4
  have b2_4 := x4.get b2_3
  have b3_4 := x4.get b3_3
  refine pko rfl rfl rfl rfl ?_; refine o_nil ?_; refine x_seq ?_; refine c_cond rfl (fun c5 => ?_) (fun c5 => ?_)
  · refine c_seq ?_; refine c_reg ?_; refine clE (wakes16_fn) rfl rfl (fun h6 x6 => ?_)
    have s6 : h4.size ≤ h6.size := x6.size
    have k_6 := k_4.ext x6
    have b2_6 := x6.get b2_4
    have b3_6 := x6.get b3_4
    refine asg rfl rfl ?_; refine o_nil ?_; refine x_seq ?_; refine c_ret ?_; refine x_seq_ret ?_; refine ret1 (.inr rfl) rfl rfl ?_
    exact ⟨rfl, (k_6).toExt⟩
  · have hlg : ¬ Large16P f := fun e => c5 (.inl e)
    have hlg' : ¬ Large16P g := fun e => c5 (.inr e)
    refine c_skip ?_; refine x_seq ?_; refine c_seq ?_
    refine c_treg (Mod (fun k => False) h4) (some 13) [13, 11, 12, 10, 9, 8, 7, 4, 3, 1, 6, 5, 2, 0] (.leaf [0, 2, 5, 6, 1, 3, 4, 7, 8, 9, 10, 12, 11] [13, 14, 15, 16, 17, 18, 19]) rfl (Mod.refl _ _) (by kernel_rfl) ?_
    have c0_1 : Mod (fun k => False) h4 h4 := Mod.refl _ _
    refine t_leaf ?_
    refine ldnI rfl rfl (fun _ hI => row_blk (hI.get b2_4 (by first | exact id | (intro e; have e : _ = _ := e; omega) | assumption))) rfl (ldnI rfl rfl (fun _ hI => row_blk (hI.get b3_4 (by first | exact id | (intro e; have e : _ = _ := e; omega) | assumption))) rfl ?_)
    refine ldnI rfl rfl (fun _ hI => row_blk (hI.get b2_4 (by first | exact id | (intro e; have e : _ = _ := e; omega) | assumption))) rfl (ldnI rfl rfl (fun _ hI => row_blk (hI.get b3_4 (by first | exact id | (intro e; have e : _ = _ := e; omega) | assumption))) rfl ?_)
    refine clI (vs := [faceC f au cu at0 ct0 ao co]) rfl ((copy16_fn (FaceV.up hF0 k_4) hlg)) (fun _ _ w => w.2) rfl (fun v7 h7 r7 => ?_)
    obtain ⟨nn7, x7⟩ := r7
    have z7 := x7.size
    have p7 := nn7.face hfn hfk hft
    have c_7 := x7
    have k_7 := (k_4.ext x7)
    have b2_7 := (x7.get b2_4)
    have b3_7 := (x7.get b3_4)
    refine clI (vs := [faceC g au' cu' at' ct' ao' co']) rfl ((copy16_fn (FaceV.up hG0 k_7) hlg')) (fun _ _ w => x7.trans w.2) rfl (fun v8 h8 r8 => ?_)
    obtain ⟨nn8, x8⟩ := r8
    have z8 := x8.size
    have p8 := nn8.face hgn hgk hgt
    have q8 := FaceV.up p7 ((At.refl (Nat.le_refl _)).ext x8)
    have c_8 := x7.trans x8
    have k_8 := (k_7.ext x8)
    have b2_8 := (x8.get b2_7)
    have b3_8 := (x8.get b3_7)
    refine clEI ((same_fn q8 p8)) rfl (fun _ x => c_8.trans (x.mod _)) rfl (fun h9 x9 => ?_)
    have s9 : h8.size ≤ h9.size := x9.size
    have c_9 := c_8.trans (x9.mod _)
    have k_9 := k_8.ext x9
    have b2_9 := x9.get b2_8
    have b3_9 := x9.get b3_8
    refine clEI ((same16_fn (FaceV.up hF0 k_9) (FaceV.up hG0 k_9))) rfl (fun _ x => c_9.trans (x.mod _)) rfl (fun h10 x10 => ?_)
    have s10 : h9.size ≤ h10.size := x10.size
    have c_10 := c_9.trans (x10.mod _)
    have k_10 := k_9.ext x10
    have b2_10 := x10.get b2_9
    have b3_10 := x10.get b3_9
    refine eqb rfl rfl rfl ?_; refine ct 20 rfl (p := tb (f = g) = tb (f = g)) rfl ?_
    refine mv rfl rfl (gd rfl rfl (ldnI rfl rfl (fun _ hI => row_blk (hI.get b2_4 (by first | exact id | (intro e; have e : _ = _ := e; omega) | assumption))) rfl ?_))
    refine gd rfl rfl (ldnI rfl rfl (fun _ hI => row_blk (hI.get b2_4 (by first | exact id | (intro e; have e : _ = _ := e; omega) | assumption))) rfl (gd rfl rfl (clI (vs := [faceC f au cu at0 ct0 ao co]) rfl ((copy16_fn (FaceV.up hF0 k_10) hlg)) (fun _ _ w => c_10.trans w.2) rfl (fun v11 h11 r11 => ?_))))
    obtain ⟨nn11, x11⟩ := r11
    have z11 := x11.size
    have p11 := nn11.face hfn hfk hft
    have c_11 := c_10.trans x11
    have k_11 := (k_10.ext x11)
    have b2_11 := (x11.get b2_10)
    have b3_11 := (x11.get b3_10)
    refine o_nil ?_; refine x_tail ?_
    refine gd rfl rfl (cl (vs := [faceC f au cu at0 ct0 ao co]) rfl ((copy16_fn (FaceV.up hF0 k_11) hlg)) rfl (fun v12 h12 r12 => ?_))
    obtain ⟨nn12, x12⟩ := r12
    have z12 := x12.size
    have p12 := nn12.face hfn hfk hft
    have q12 := FaceV.up p11 ((At.refl (Nat.le_refl _)).ext x12)
    have k_12 := (k_11.ext x12)
    have b2_12 := (x12.get b2_11)
    have b3_12 := (x12.get b3_11)
    refine gd rfl rfl (clE ((same_fn q12 p12)) rfl rfl (fun h13 x13 => ?_))
    have s13 : h12.size ≤ h13.size := x13.size
    have k_13 := k_12.ext x13
    have b2_13 := x13.get b2_12
    have b3_13 := x13.get b3_12
    refine ct 26 rfl rfl ?_; refine pkt rfl rfl rfl (mv rfl rfl (gd rfl rfl (clE (wakes16_fn) rfl rfl (fun h14 x14 => ?_))))
    have s14 : h13.size ≤ h14.size := x14.size
    have k_14 := k_13.ext x14
    have b2_14 := x14.get b2_13
    have b3_14 := x14.get b3_13
    refine pkt rfl rfl rfl (asg rfl rfl ?_)
    refine o_nil ?_; refine x_seq ?_; refine c_ret ?_; refine ret1 (.inr rfl) rfl rfl ?_
    exact ⟨rfl, (k_14).toExt⟩
end Go.Proofs.Ytgnkfegkdjfnjaa
