/- The law: the key does not look at the key that stands there; it is never 0, and is that of what is read. No condition but what each theorem says. -/
import Derived.Test.YtgnkfegkdjfnjaaSde
namespace Go.Proofs.Ytgnkfegkdjfnjaa
open Go Go.Eng

theorem key_bad {f : Face} {a e : Int} (h : KeyR f a e) (he : e ≠ 0) : a = 0 := by
  obtain ⟨s, e', -, ⟨-, h2, -⟩ | ⟨-, -, h3⟩⟩ := h
  · exact h2
  · exact absurd h3 he
theorem key_ne {f : Face} {a : Int} (h : KeyR f a 0) : a ≠ 0 := by
  obtain ⟨s, e', -, ⟨h1, -, h3⟩ | ⟨-, h2, -⟩⟩ := h
  · exact absurd h3.symm h1
  · have := hash_pos s
    omega
theorem its_len (f : Face) (k : Int) : (E (faceIts { f with key := k })).length = (E (faceIts f)).length := by
  simp only [faceIts, List.cons_append, List.nil_append, E_cons, List.length_append]
  rfl
theorem EncR.rekey {f : Face} {k : Int} {s s' : Bytes} {e e' : Int} (a : EncR f s e) (b : EncR { f with key := k } s' e') (hk : inU32 f.key) (hk' : inU32 k) (hu : ∀ u ∈ f.uses, inU32 u.key) : e = e' := by
  rcases a with ⟨h1, -, rfl⟩ | ⟨h1, -, rfl⟩ <;> rcases b with ⟨h2, -, rfl⟩ | ⟨h2, -, rfl⟩
  · rw [putAll_ok (faceIts f) ([], false) (faceIts_ok h1 hk hu), putAll_ok (faceIts { f with key := k }) ([], false) (faceIts_ok h2 hk' hu)]
    unfold outE
    simp only [List.nil_append, its_len f k]
  · exact absurd h1 h2
  · exact absurd h2 h1
  · rfl
/-- where a key is had, the interface with any key is written -/
theorem KeyR.enc {f : Face} {k a e' : Int} {s : Bytes} (h : KeyR f a 0) (b : EncR { f with key := k } s e') (hk' : inU32 k) (hu : ∀ u ∈ f.uses, inU32 u.key) : e' = 0 := by
  obtain ⟨s0, e0, h1, ⟨h2, -, h3⟩ | ⟨h2, -, -⟩⟩ := h
  · exact absurd h3.symm h2
  · subst h2
    exact (EncR.rekey (f := { f with key := 0 }) (k := k) h1 b (show inU32 0 by unfold inU32; decide) hk' hu).symm
set_option maxHeartbeats 4000000 in
theorem keysL_fn {h : Heap} {fv : Value} {f : Face} {n : Int} (hF : FaceV h.size h fv f) (hS : FaceShort f) (hn : inU32 n) :
    Does Try.prog 13 [fv, .int .u32 n] h (fun v h' => v = .bool true ∧ Ext h h') := by
  have hmx : maxLen = 9223372036854775807 := by decide
  have k0 : At h.size h h := At.refl (Nat.le_refl _)
  have hF0 := hF
  obtain ⟨hfn, hfk, hft⟩ := face_name hF
  have hfu := uses_key hF
  have hsz := short_sized hS
  obtain ⟨au, cu, at0, ct0, ao, co, rfl⟩ := face_form hF
  refine fn_enter (N := 103) Try.func13 (by kernel_rfl) rfl rfl rfl (fun w0 => ?_)
  refine c_seq ?_; refine c_reg ?_; refine bx rfl nofun rfl (fun h1 n1 => ?_)
  have s1 : h1.size = h.size + 1 := n1.size
  have k_1 := k0.ext n1.ext
  have b2_1 := n1.at_
  refine asg rfl rfl ?_; refine o_nil ?_; refine x_seq ?_
  refine c_seq ?_; refine c_seq ?_; refine c_reg ?_
  refine ldn rfl rfl (row_blk b2_1) rfl (clE ((large16_fn (FaceV.up hF0 k_1) hsz)) rfl rfl (fun h2 x2 => ?_))
  have s2 : h1.size ≤ h2.size := x2.size
  have k_2 := k_1.ext x2
  have b2_2 := x2.get b2_1
  refine o_nil ?_; refine x_seq ?_; refine c_cond rfl (fun c3 => ?_) (fun c3 => ?_)
  · refine c_seq ?_; refine c_reg ?_; refine clE (wakes17_fn) rfl rfl (fun h4 x4 => ?_)
    have s4 : h2.size ≤ h4.size := x4.size
    have k_4 := k_2.ext x4
    have b2_4 := x4.get b2_2
    refine asg rfl rfl ?_; refine o_nil ?_; refine x_seq ?_; refine c_ret ?_; refine x_seq_ret ?_; refine ret1 (.inr rfl) rfl rfl ?_
    exact ⟨rfl, (k_4).toExt⟩
  · have hlg : ¬ Large16P f := c3
    refine c_skip ?_; refine x_seq ?_; refine c_seq ?_; refine c_reg ?_
    refine ldn rfl rfl (row_blk b2_2) rfl (cl (vs := [faceC f au cu at0 ct0 ao co]) rfl ((copy16_fn (FaceV.up hF0 k_2) hlg)) rfl (fun v5 h5 r5 => ?_))
    obtain ⟨nn5, x5⟩ := r5
    have z5 := x5.size
    have p5 := nn5.face hfn hfk hft
    have k_5 := (k_2.ext x5)
    have b2_5 := (x5.get b2_2)
    refine cl (vs := [v5]) rfl ((key_fn p5 nn5.cap)) rfl (fun v6 h6 r6 => ?_)
    obtain ⟨a, e, rfl, hK6, x6⟩ := r6
    have z6 := x6.size
    have k_6 := (k_5.ext x6)
    have b2_6 := (x6.get b2_5)
    refine mv rfl rfl (ext rfl rfl rfl (ext rfl rfl rfl (asg rfl rfl (asg rfl rfl ?_))))
    refine o_nil ?_; refine x_seq ?_; refine c_seq ?_; refine c_reg ?_
    refine ldn rfl rfl (row_blk b2_6) rfl (cl (vs := [faceC f au cu at0 ct0 ao co]) rfl ((copy16_fn (FaceV.up hF0 k_6) hlg)) rfl (fun v7 h7 r7 => ?_))
    obtain ⟨nn7, x7⟩ := r7
    have z7 := x7.size
    have p7 := nn7.face hfn hfk hft
    have hc7 := nn7.cap
    have q7 : At h7.size h7 h7 := At.refl (Nat.le_refl _)
    obtain ⟨vu, vt, vo, rfl, hn7, hk7, hU7, hT7, hO7⟩ := p7
    have hU70 := hU7
    have hT70 := hT7
    have hO70 := hO7
    obtain ⟨au7, cu7, rfl⟩ := hU7.form
    obtain ⟨at7, ct7, rfl⟩ := SliceAt.form hT7
    obtain ⟨ao7, co7, rfl⟩ := hO7.form
    have hcap7 := hc7 _ _ _ _ _ _ rfl
    have G7 : FaceV h7.size h7 (faceC { f with key := n } au7 cu7 at7 ct7 ao7 co7) { f with key := n } := ⟨_, _, _, rfl, hn7, hn, hU70, hT70, hO70⟩
    have k_7 := (k_6.ext x7)
    have b2_7 := (x7.get b2_6)
    refine alc nofun rfl (fun h8 n8 => ?_)
    have s8 : h8.size = h7.size + 1 := n8.size
    have k_8 := k_7.ext n8.ext
    have b2_8 := n8.ext.get b2_7
    have b7_8 := n8.at_
    refine stw rfl rfl rfl (ones rfl) b7_8 rfl nofun (fun h9 u9 => ?_)
    have s9 : h9.size = h8.size := u9.size
    have k_9 := k_8.upd u9 (by omega)
    have b2_9 := u9.ne b2_8 (by omega)
    have b7_9 := u9.at_
    refine o_nil ?_; refine x_seq ?_; refine c_seq ?_; refine c_reg ?_
    refine mv rfl rfl (fa rfl rfl (st rfl rfl rfl b7_9 rfl nofun (fun h10 u10 => ?_)))
    have s10 : h10.size = h9.size := u10.size
    have k_10 := k_9.upd u10 (by omega)
    have b2_10 := u10.ne b2_9 (by omega)
    have b7_10 := u10.at_
    refine o_nil ?_; refine x_seq ?_; refine c_seq ?_; refine c_reg ?_
    refine ldn rfl rfl (row_blk b7_10) rfl (cl (vs := [faceC { f with key := n } au7 cu7 at7 ct7 ao7 co7]) rfl ((copy16_fn (f := { f with key := n }) (FaceV.up G7 (((q7.ext n8.ext).upd u9 (by omega)).upd u10 (by omega))) hlg)) rfl (fun v11 h11 r11 => ?_))
    obtain ⟨nn11, x11⟩ := r11
    have z11 := x11.size
    have p11 := nn11.face hfn hn hft
    have k_11 := (k_10.ext x11)
    have b2_11 := (x11.get b2_10)
    have b7_11 := (x11.get b7_10)
    refine cl (vs := [v11]) rfl ((key_fn p11 nn11.cap)) rfl (fun v12 h12 r12 => ?_)
    obtain ⟨b, e12, rfl, hK12, x12⟩ := r12
    have z12 := x12.size
    have hK12' : KeyR f b e12 := hK12
    obtain ⟨ab, ee⟩ := keyR_fun hK6 hK12'
    subst ab ee
    have k_12 := (k_11.ext x12)
    have b2_12 := (x12.get b2_11)
    have b7_12 := (x12.get b7_11)
    refine mv rfl rfl (ext rfl rfl rfl (ext rfl rfl rfl (asg rfl rfl (asg rfl rfl ?_))))
    refine o_nil ?_; refine x_seq ?_
    refine c_seq ?_; refine c_seq ?_; refine c_reg ?_; refine mv rfl rfl (nei rfl rfl rfl ?_)
    refine o_nil ?_; refine x_seq ?_; refine c_cond rfl (fun c13 => ?_) (fun c13 => ?_)
    · refine c_seq ?_; refine c_reg ?_
      refine mv rfl rfl (mv rfl rfl (eqi rfl rfl rfl (mv rfl rfl (gqt rfl rfl rfl (fun e => mv rfl rfl) (gqt rfl rfl rfl (fun e => eqi (cg rfl e) rfl rfl) (pka rfl rfl rfl rfl ?_))))))
      refine mv rfl rfl (gqt rfl rfl rfl (fun e => mv rfl rfl) (gqt rfl rfl rfl (fun e => eqi (cg rfl e) rfl rfl) (pka rfl rfl rfl rfl (mv rfl rfl (getr rfl rfl rfl (fun e kk => clE (wakes17_fn) rfl rfl kk) (fun h14 x14 => ?_))))))
      have s14 : h12.size ≤ h14.size := x14.size
      have k_14 := k_12.ext x14
      have b2_14 := x14.get b2_12
      have b7_14 := x14.get b7_12
      refine pka rfl rfl rfl rfl (asg rfl rfl ?_)
      refine o_nil ?_; refine x_seq ?_; refine c_ret ?_; refine x_seq_ret ?_; refine ret1 (.inr rfl) rfl rfl ?_
      refine ⟨congrArg Value.bool ?_, (k_14).toExt⟩
      rw [key_bad hK6 c13]
      simp
    · have e0 : e = 0 := Classical.not_not.1 c13
      have hK0 : KeyR f a 0 := e0 ▸ hK6
      refine c_skip ?_; refine x_seq ?_; refine c_seq ?_; refine c_reg ?_
      refine ldn rfl rfl (row_blk b7_12) rfl (cl (vs := [faceC { f with key := n } au7 cu7 at7 ct7 ao7 co7]) rfl ((encode_fn (f := { f with key := n }) (FaceV.up G7 (((((q7.ext n8.ext).upd u9 (by omega)).upd u10 (by omega)).ext x11).ext x12)) (fun _ _ _ _ _ _ e => by cases e; exact hcap7))) rfl (fun v15 h15 r15 => ?_))
      obtain ⟨s, i, rfl, hE15, x15⟩ := r15
      have z15 := x15.size
      have i0 := KeyR.enc hK0 hE15 hn hfu
      have hE0 : EncR { f with key := n } s 0 := i0 ▸ hE15
      have k_15 := (k_12.ext x15)
      have b2_15 := (x15.get b2_12)
      have b7_15 := (x15.get b7_12)
      refine mv rfl rfl (ext rfl rfl rfl (ext rfl rfl rfl (asg rfl rfl (asg rfl rfl ?_))))
      refine o_nil ?_; refine x_seq ?_; refine c_seq ?_; refine c_reg ?_
      refine mv rfl rfl (cl (vs := [str s]) rfl ((decode_fn (Nat.le_trans (enc_len hE15) (by decide)))) rfl (fun v16 h16 r16 => ?_))
      obtain ⟨gv, g, e16, rfl, FG, CG, x16, D16⟩ := r16
      obtain ⟨e80, hgf⟩ := D16.of_enc hE0 hn hfu
      subst hgf
      have z16 := x16.size
      have q16 : At h16.size h16 h16 := At.refl (Nat.le_refl _)
      obtain ⟨au8, cu8, at8, ct8, ao8, co8, rfl⟩ := face_form FG
      have k_16 := (k_15.ext x16)
      have b2_16 := (x16.get b2_15)
      have b7_16 := (x16.get b7_15)
      refine mv rfl rfl (ext rfl rfl rfl (ext rfl rfl rfl (alc nofun rfl (fun h17 n17 => ?_))))
      have s17 : h17.size = h16.size + 1 := n17.size
      have k_17 := k_16.ext n17.ext
      have b2_17 := n17.ext.get b2_16
      have b7_17 := n17.ext.get b7_16
      have b12_17 := n17.at_
      refine stw rfl rfl rfl (ones rfl) b12_17 rfl nofun (fun h18 u18 => ?_)
      have s18 : h18.size = h17.size := u18.size
      have k_18 := k_17.upd u18 (by omega)
      have b2_18 := u18.ne b2_17 (by omega)
      have b7_18 := u18.ne b7_17 (by omega)
      have b12_18 := u18.at_
      refine asg rfl rfl ?_; refine o_nil ?_; refine x_seq ?_; refine c_seq ?_; refine c_reg ?_
      refine ldn rfl rfl (row_blk b12_18) rfl (cl (vs := [faceC { f with key := n } au8 cu8 at8 ct8 ao8 co8]) rfl ((key_fn (FaceV.up FG ((q16.ext n17.ext).upd u18 (by omega))) CG)) rfl (fun v19 h19 r19 => ?_))
      obtain ⟨c, e19, rfl, hK19, x19⟩ := r19
      have hK19' : KeyR f c e19 := hK19
      obtain ⟨ac, ee⟩ := keyR_fun hK6 hK19'
      subst ac
      have hne := key_ne hK0
      have k_19 := (k_18.ext x19)
      have b2_19 := (x19.get b2_18)
      have b7_19 := (x19.get b7_18)
      have b12_19 := (x19.get b12_18)
      refine mv rfl rfl (ext rfl rfl rfl (ext rfl rfl rfl (asg rfl rfl (asg rfl rfl ?_))))
      refine o_nil ?_; refine x_seq ?_; refine c_seq ?_; refine c_reg ?_
      refine mv rfl rfl (eqi rfl rfl rfl (mv rfl rfl (gqt rfl rfl rfl (fun e => mv rfl rfl) (gqt rfl rfl rfl (fun e => eqi (cg rfl e) rfl rfl) (pka rfl rfl rfl rfl (mv rfl rfl ?_))))))
      refine gqt rfl rfl rfl (fun e => mv rfl rfl) (gqt rfl rfl rfl (fun e => eqi (cg rfl e) rfl rfl) (pka rfl rfl rfl rfl (mv rfl rfl (gqt rfl rfl rfl (fun e => mv rfl rfl) ?_))))
      refine gqt rfl rfl rfl (fun e => eqi (cg rfl e) rfl rfl) (pka rfl rfl rfl rfl (mv rfl rfl (gqt rfl rfl rfl (fun e => mv rfl rfl) (gqt rfl rfl rfl (fun e => mv rfl rfl) ?_))))
      refine gqt rfl rfl rfl (fun e => eqi (cg rfl e) (cg rfl e) rfl) (pka rfl rfl rfl rfl (mv rfl rfl (gqt rfl rfl rfl (fun e => mv rfl rfl) (gqt rfl rfl rfl (fun e => mv rfl rfl) ?_))))
      refine gqt rfl rfl rfl (fun e => eqi (cg rfl e) (cg rfl e) rfl) (pka rfl rfl rfl rfl (mv rfl rfl (gqt rfl rfl rfl (fun e => mv rfl rfl) (gqt rfl rfl rfl (fun e => nei (cg rfl e) rfl rfl) ?_))))
      refine pka rfl rfl rfl rfl (mv rfl rfl (gqt rfl rfl rfl (fun e => fa rfl rfl) (gqt rfl rfl rfl (fun e => ld (cg rfl e) (cell b12_19 rfl) rfl) (gqt rfl rfl rfl (fun e => mv rfl rfl) ?_))))
      refine gqt rfl rfl rfl (fun e => eqi (cg rfl e) (cg rfl e) rfl) (pka rfl rfl rfl rfl (mv rfl rfl (getr rfl rfl rfl (fun e kk => clE (wakes17_fn) rfl rfl kk) (fun h20 x20 => ?_))))
      have s20 : h19.size ≤ h20.size := x20.size
      have k_20 := k_19.ext x20
      have b2_20 := x20.get b2_19
      have b7_20 := x20.get b7_19
      have b12_20 := x20.get b12_19
      refine pka rfl rfl rfl rfl (asg rfl rfl ?_)
      refine o_nil ?_; refine x_seq ?_; refine c_ret ?_; refine ret1 (.inr rfl) rfl rfl ?_
      exact ⟨by simp [hne, e0, i0, e80, ← ee], (k_20).toExt⟩
end Go.Proofs.Ytgnkfegkdjfnjaa
