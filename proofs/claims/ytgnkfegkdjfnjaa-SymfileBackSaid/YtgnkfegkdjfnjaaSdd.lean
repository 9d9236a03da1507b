/- The law: what was written is read as it was, and the other way. No condition but what each theorem says. -/
import Derived.Test.YtgnkfegkdjfnjaaSdc
namespace Go.Proofs.Ytgnkfegkdjfnjaa
open Go Go.Eng

set_option maxHeartbeats 4000000 in
theorem backL_fn {h : Heap} {fv : Value} {f : Face} {s : Bytes} (hF : FaceV h.size h fv f) (hS : FaceShort f) :
    Does Try.prog 11 [fv, str s] h (fun v h' => v = .bool true ∧ Ext h h') := by
  have hmx : maxLen = 9223372036854775807 := by decide
  have k0 : At h.size h h := At.refl (Nat.le_refl _)
  have hF0 := hF
  obtain ⟨hfn, hfk, hft⟩ := face_name hF
  have hfu := uses_key hF
  have hsz := short_sized hS
  obtain ⟨au, cu, at0, ct0, ao, co, rfl⟩ := face_form hF
  refine fn_enter (N := 80) Try.func11 (by kernel_rfl) rfl rfl rfl (fun w0 => ?_)
  refine c_seq ?_; refine c_reg ?_; refine bx rfl nofun rfl (fun h1 n1 => ?_)
  have s1 : h1.size = h.size + 1 := n1.size
  have k_1 := k0.ext n1.ext
  have b2_1 := n1.at_
  refine asg rfl rfl ?_; refine o_nil ?_; refine x_seq ?_
  refine c_seq ?_; refine c_seq ?_; refine c_reg ?_
  refine ldn rfl rfl (row_blk b2_1) rfl (clE ((large16_fn (FaceV.up hF0 k_1) hsz)) rfl rfl (fun h2 x2 => ?_))
  have s2 : h1.size ≤ h2.size := x2.size
  have k_2 := k_1.ext x2
  have b2_2 := x2.get b2_1
  refine mv rfl rfl (gqf rfl rfl rfl (fun e => mv rfl rfl) (gqf rfl rfl rfl (fun e => lns (cg rfl e) rfl) (gqf rfl rfl rfl (fun e => gti (cg rfl e) rfl rfl) (pko rfl rfl rfl rfl ?_))))
  refine o_nil ?_; refine x_seq ?_; refine c_cond rfl (fun c3 => ?_) (fun c3 => ?_)
  · refine c_seq ?_; refine c_reg ?_; refine clE (wakes17_fn) rfl rfl (fun h4 x4 => ?_)
    have s4 : h2.size ≤ h4.size := x4.size
    have k_4 := k_2.ext x4
    have b2_4 := x4.get b2_2
    refine asg rfl rfl ?_; refine o_nil ?_; refine x_seq ?_; refine c_ret ?_; refine x_seq_ret ?_; refine ret1 (.inr rfl) rfl rfl ?_
    exact ⟨rfl, (k_4).toExt⟩
  · have hlg : ¬ Large16P f := fun e => c3 (.inl e)
    have hs : s.length ≤ 1073741824 := by
      have : ¬ (s.length : Int) > 30000 := fun e => c3 (.inr e)
      omega
    refine c_skip ?_; refine x_seq ?_; refine c_seq ?_; refine c_reg ?_
    refine ldn rfl rfl (row_blk b2_2) rfl (cl (vs := [faceC f au cu at0 ct0 ao co]) rfl ((copy16_fn (FaceV.up hF0 k_2) hlg)) rfl (fun v5 h5 r5 => ?_))
    obtain ⟨nn5, x5⟩ := r5
    have z5 := x5.size
    have p5 := nn5.face hfn hfk hft
    have k_5 := (k_2.ext x5)
    have b2_5 := (x5.get b2_2)
    refine cl (vs := [v5]) rfl ((encode_fn p5 nn5.cap)) rfl (fun v6 h6 r6 => ?_)
    obtain ⟨t, e, rfl, hE6, x6⟩ := r6
    have z6 := x6.size
    have k_6 := (k_5.ext x6)
    have b2_6 := (x6.get b2_5)
    refine mv rfl rfl (ext rfl rfl rfl (ext rfl rfl rfl (asg rfl rfl (asg rfl rfl ?_))))
    refine o_nil ?_; refine x_seq ?_
    refine c_seq ?_; refine c_seq ?_; refine c_reg ?_; refine mv rfl rfl (eqi rfl rfl rfl ?_)
    refine o_nil ?_; refine x_seq ?_; refine c_cond rfl (fun c7 => ?_) (fun c7 => ?_)
    · have c7 : e = 0 := c7
      have hE7 : EncR f t 0 := c7 ▸ hE6
      refine c_seq ?_; refine c_reg ?_
      refine mv rfl rfl (cl (vs := [str t]) rfl ((decode_fn (Nat.le_trans (enc_len hE6) (by decide)))) rfl (fun v8 h8 r8 => ?_))
      obtain ⟨gv, g, e8, rfl, FG, CG, x8, D8⟩ := r8
      obtain ⟨e80, hgf⟩ := D8.of_enc hE7 hfk hfu
      have z8 := x8.size
      have q8 : At h8.size h8 h8 := At.refl (Nat.le_refl _)
      obtain ⟨au8, cu8, at8, ct8, ao8, co8, rfl⟩ := face_form FG
      have k_8 := (k_6.ext x8)
      have b2_8 := (x8.get b2_6)
      refine mv rfl rfl (ext rfl rfl rfl (ext rfl rfl rfl (alc nofun rfl (fun h9 n9 => ?_))))
      have s9 : h9.size = h8.size + 1 := n9.size
      have k_9 := k_8.ext n9.ext
      have b2_9 := n9.ext.get b2_8
      have b7_9 := n9.at_
      refine stw rfl rfl rfl (ones rfl) b7_9 rfl nofun (fun h10 u10 => ?_)
      have s10 : h10.size = h9.size := u10.size
      have k_10 := k_9.upd u10 (by omega)
      have b2_10 := u10.ne b2_9 (by omega)
      have b7_10 := u10.at_
      refine asg rfl rfl ?_; refine o_nil ?_; refine x_seq ?_; refine c_seq ?_; refine c_reg ?_
      refine mv rfl rfl (nei rfl rfl rfl (mv rfl rfl (gqf rfl rfl rfl (fun e => ldn rfl rfl (row_blk b2_10) rfl) (gqf rfl rfl rfl (fun e => ldn rfl rfl (row_blk b7_10) rfl) ?_))))
      refine gef rfl rfl rfl (fun e kk => clE ((same16_fn (FaceV.up hF0 k_10) (FaceV.up FG ((q8.ext n9.ext).upd u10 (by omega))))) (a2 (cg rfl e) (cg rfl e)) rfl kk) (fun h11 x11 => ?_)
      have s11 : h10.size ≤ h11.size := x11.size
      have k_11 := k_10.ext x11
      have b2_11 := x11.get b2_10
      have b7_11 := x11.get b7_10
      refine gqf rfl rfl rfl (fun e => nt (cg rfl e) rfl) (pko rfl rfl rfl rfl ?_)
      refine o_nil ?_; refine x_seq ?_; refine c_cond rfl (fun c12 => ?_) (fun c12 => ?_)
      · refine c_seq ?_; refine c_reg ?_; refine asg rfl rfl ?_; refine o_nil ?_; refine x_seq ?_; refine c_ret ?_; refine x_seq_ret ?_
        refine ret1 (.inr rfl) rfl rfl ?_
        refine absurd c12 ?_
        subst hgf
        simp [e80]
      · refine c_skip ?_; refine x_seq ?_; refine c_seq ?_; refine c_reg ?_
        refine mv rfl rfl (cl (vs := [str s]) rfl ((decode_fn hs)) rfl (fun v13 h13 r13 => ?_))
        obtain ⟨gv', g', e13, rfl, FG', CG', x13, D13⟩ := r13
        have z13 := x13.size
        have q13 : At h13.size h13 h13 := At.refl (Nat.le_refl _)
        obtain ⟨au13, cu13, at13, ct13, ao13, co13, rfl⟩ := face_form FG'
        have k_13 := (k_11.ext x13)
        have b2_13 := (x13.get b2_11)
        have b7_13 := (x13.get b7_11)
        refine mv rfl rfl (ext rfl rfl rfl (ext rfl rfl rfl (alc nofun rfl (fun h14 n14 => ?_))))
        have s14 : h14.size = h13.size + 1 := n14.size
        have k_14 := k_13.ext n14.ext
        have b2_14 := n14.ext.get b2_13
        have b7_14 := n14.ext.get b7_13
        have b9_14 := n14.at_
        refine stw rfl rfl rfl (ones rfl) b9_14 rfl nofun (fun h15 u15 => ?_)
        have s15 : h15.size = h14.size := u15.size
        have k_15 := k_14.upd u15 (by omega)
        have b2_15 := u15.ne b2_14 (by omega)
        have b7_15 := u15.ne b7_14 (by omega)
        have b9_15 := u15.at_
        refine asg rfl rfl ?_; refine o_nil ?_; refine x_seq ?_
        refine c_seq ?_; refine c_seq ?_; refine c_reg ?_; refine mv rfl rfl (nei rfl rfl rfl ?_)
        refine o_nil ?_; refine x_seq ?_; refine c_cond rfl (fun c16 => ?_) (fun c16 => ?_)
        · refine c_seq ?_; refine c_reg ?_
          refine mv rfl rfl (eqi rfl rfl rfl (mv rfl rfl (gqt rfl rfl rfl (fun e => fa rfl rfl) (gqt rfl rfl rfl (fun e => ld (cg rfl e) (cell b9_15 rfl) rfl) (gqt rfl rfl rfl (fun e => eqs (cg rfl e) rfl rfl) ?_)))))
          refine pka rfl rfl rfl rfl (mv rfl rfl (gqt rfl rfl rfl (fun e => fa rfl rfl) (gqt rfl rfl rfl (fun e => ld (cg rfl e) (cell b9_15 rfl) rfl) (gqt rfl rfl rfl (fun e => lnl (cg rfl e) rfl) ?_))))
          refine gqt rfl rfl rfl (fun e => eqi (cg rfl e) rfl rfl) (pka rfl rfl rfl rfl (mv rfl rfl (getr rfl rfl rfl (fun e kk => clE (wakes17_fn) rfl rfl kk) (fun h17 x17 => ?_))))
          have s17 : h15.size ≤ h17.size := x17.size
          have k_17 := k_15.ext x17
          have b2_17 := x17.get b2_15
          have b7_17 := x17.get b7_15
          have b9_17 := x17.get b9_15
          refine pka rfl rfl rfl rfl (asg rfl rfl ?_)
          refine o_nil ?_; refine x_seq ?_; refine c_ret ?_; refine x_seq_ret ?_; refine ret1 (.inr rfl) rfl rfl ?_
          have ne : e13 ≠ 0 := c16
          rcases D13 with ⟨e0, -⟩ | ⟨e1, e2, -⟩
          · exact absurd e0 ne
          · subst e1 e2
            exact ⟨by simp [zeroF], (k_17).toExt⟩
        · refine c_skip ?_; refine x_seq ?_; refine c_seq ?_; refine c_reg ?_
          refine ldn rfl rfl (row_blk b9_15) rfl (cl (vs := [faceC g' au13 cu13 at13 ct13 ao13 co13]) rfl ((encode_fn (FaceV.up FG' ((q13.ext n14.ext).upd u15 (by omega))) CG')) rfl (fun v18 h18 r18 => ?_))
          obtain ⟨u18, e18, rfl, hE18, x18⟩ := r18
          have z18 := x18.size
          have k_18 := (k_15.ext x18)
          have b2_18 := (x18.get b2_15)
          have b7_18 := (x18.get b7_15)
          have b9_18 := (x18.get b9_15)
          refine mv rfl rfl (ext rfl rfl rfl (ext rfl rfl rfl (asg rfl rfl (asg rfl rfl ?_))))
          refine o_nil ?_; refine x_seq ?_; refine c_seq ?_; refine c_reg ?_
          refine mv rfl rfl (eqi rfl rfl rfl (mv rfl rfl (gqt rfl rfl rfl (fun e => mv rfl rfl) (gqt rfl rfl rfl (fun e => mv rfl rfl) (gqt rfl rfl rfl (fun e => eqs (cg rfl e) (cg rfl e) rfl) ?_)))))
          refine pka rfl rfl rfl rfl (mv rfl rfl (getr rfl rfl rfl (fun e kk => clE (wakes17_fn) rfl rfl kk) (fun h19 x19 => ?_)))
          have s19 : h18.size ≤ h19.size := x19.size
          have k_19 := k_18.ext x19
          have b2_19 := x19.get b2_18
          have b7_19 := x19.get b7_18
          have b9_19 := x19.get b9_18
          refine pka rfl rfl rfl rfl (asg rfl rfl ?_)
          refine o_nil ?_; refine x_seq ?_; refine c_ret ?_; refine ret1 (.inr rfl) rfl rfl ?_
          have e0 : e13 = 0 := Classical.not_not.1 c16
          subst e0
          obtain ⟨q1, q2⟩ := encR_fun hE18 D13.enc
          subst q1 q2
          exact ⟨by simp, (k_19).toExt⟩
    · refine c_skip ?_; refine x_seq ?_; refine c_seq ?_; refine c_reg ?_
      refine mv rfl rfl (cl (vs := [str s]) rfl ((decode_fn hs)) rfl (fun v20 h20 r20 => ?_))
      obtain ⟨gv', g', e13, rfl, FG', CG', x13, D13⟩ := r20
      have z13 := x13.size
      have q13 : At h20.size h20 h20 := At.refl (Nat.le_refl _)
      obtain ⟨au13, cu13, at13, ct13, ao13, co13, rfl⟩ := face_form FG'
      have k_20 := (k_6.ext x13)
      have b2_20 := (x13.get b2_6)
      refine mv rfl rfl (ext rfl rfl rfl (ext rfl rfl rfl (alc nofun rfl (fun h21 n21 => ?_))))
      have s21 : h21.size = h20.size + 1 := n21.size
      have k_21 := k_20.ext n21.ext
      have b2_21 := n21.ext.get b2_20
      have b9_21 := n21.at_
      refine stw rfl rfl rfl (ones rfl) b9_21 rfl nofun (fun h22 u22 => ?_)
      have s22 : h22.size = h21.size := u22.size
      have k_22 := k_21.upd u22 (by omega)
      have b2_22 := u22.ne b2_21 (by omega)
      have b9_22 := u22.at_
      refine asg rfl rfl ?_; refine o_nil ?_; refine x_seq ?_
      refine c_seq ?_; refine c_seq ?_; refine c_reg ?_; refine mv rfl rfl (nei rfl rfl rfl ?_)
      refine o_nil ?_; refine x_seq ?_; refine c_cond rfl (fun c23 => ?_) (fun c23 => ?_)
      · refine c_seq ?_; refine c_reg ?_
        refine mv rfl rfl (eqi rfl rfl rfl (mv rfl rfl (gqt rfl rfl rfl (fun e => fa rfl rfl) (gqt rfl rfl rfl (fun e => ld (cg rfl e) (cell b9_22 rfl) rfl) (gqt rfl rfl rfl (fun e => eqs (cg rfl e) rfl rfl) ?_)))))
        refine pka rfl rfl rfl rfl (mv rfl rfl (gqt rfl rfl rfl (fun e => fa rfl rfl) (gqt rfl rfl rfl (fun e => ld (cg rfl e) (cell b9_22 rfl) rfl) (gqt rfl rfl rfl (fun e => lnl (cg rfl e) rfl) ?_))))
        refine gqt rfl rfl rfl (fun e => eqi (cg rfl e) rfl rfl) (pka rfl rfl rfl rfl (mv rfl rfl (getr rfl rfl rfl (fun e kk => clE (wakes17_fn) rfl rfl kk) (fun h24 x24 => ?_))))
        have s24 : h22.size ≤ h24.size := x24.size
        have k_24 := k_22.ext x24
        have b2_24 := x24.get b2_22
        have b9_24 := x24.get b9_22
        refine pka rfl rfl rfl rfl (asg rfl rfl ?_)
        refine o_nil ?_; refine x_seq ?_; refine c_ret ?_; refine x_seq_ret ?_; refine ret1 (.inr rfl) rfl rfl ?_
        have ne : e13 ≠ 0 := c23
        rcases D13 with ⟨e0, -⟩ | ⟨e1, e2, -⟩
        · exact absurd e0 ne
        · subst e1 e2
          exact ⟨by simp [zeroF], (k_24).toExt⟩
      · refine c_skip ?_; refine x_seq ?_; refine c_seq ?_; refine c_reg ?_
        refine ldn rfl rfl (row_blk b9_22) rfl (cl (vs := [faceC g' au13 cu13 at13 ct13 ao13 co13]) rfl ((encode_fn (FaceV.up FG' ((q13.ext n21.ext).upd u22 (by omega))) CG')) rfl (fun v25 h25 r25 => ?_))
        obtain ⟨u18, e18, rfl, hE18, x18⟩ := r25
        have z18 := x18.size
        have k_25 := (k_22.ext x18)
        have b2_25 := (x18.get b2_22)
        have b9_25 := (x18.get b9_22)
        refine mv rfl rfl (ext rfl rfl rfl (ext rfl rfl rfl (asg rfl rfl (asg rfl rfl ?_))))
        refine o_nil ?_; refine x_seq ?_; refine c_seq ?_; refine c_reg ?_
        refine mv rfl rfl (eqi rfl rfl rfl (mv rfl rfl (gqt rfl rfl rfl (fun e => mv rfl rfl) (gqt rfl rfl rfl (fun e => mv rfl rfl) (gqt rfl rfl rfl (fun e => eqs (cg rfl e) (cg rfl e) rfl) ?_)))))
        refine pka rfl rfl rfl rfl (mv rfl rfl (getr rfl rfl rfl (fun e kk => clE (wakes17_fn) rfl rfl kk) (fun h26 x26 => ?_)))
        have s26 : h25.size ≤ h26.size := x26.size
        have k_26 := k_25.ext x26
        have b2_26 := x26.get b2_25
        have b9_26 := x26.get b9_25
        refine pka rfl rfl rfl rfl (asg rfl rfl ?_)
        refine o_nil ?_; refine x_seq ?_; refine c_ret ?_; refine ret1 (.inr rfl) rfl rfl ?_
        have e0 : e13 = 0 := Classical.not_not.1 c23
        subst e0
        obtain ⟨q1, q2⟩ := encR_fun hE18 D13.enc
        subst q1 q2
        exact ⟨by simp, (k_26).toExt⟩
end Go.Proofs.Ytgnkfegkdjfnjaa
