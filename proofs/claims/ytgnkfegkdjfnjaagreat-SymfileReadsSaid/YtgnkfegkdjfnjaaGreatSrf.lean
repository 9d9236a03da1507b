/- The law: the interface of any bytes, or that they are none. No condition but what each theorem says. -/
import Derived.Test.YtgnkfegkdjfnjaaGreatSre
namespace Go.Proofs.YtgnkfegkdjfnjaaGreat
open Go Go.Eng

set_option maxHeartbeats 4000000 in
theorem readsL_fn {h : Heap} {s : Bytes} : Does Tryz.prog 3 [str s] h (fun v h' => v = .bool true ∧ Ext h h') := by
  have hmx : maxLen = 9223372036854775807 := by decide
  have k0 : At h.size h h := At.refl (Nat.le_refl _)
  refine fn_enter (N := 32) Tryz.func3 (by kernel_rfl) rfl rfl rfl (fun w0 => ?_)
  refine c_seq ?_; refine c_reg ?_; refine asg rfl rfl ?_; refine o_nil ?_; refine x_seq ?_
  refine c_seq ?_; refine c_seq ?_; refine c_reg ?_; refine mv rfl rfl (lns rfl rfl (gti rfl rfl rfl ?_))
  refine o_nil ?_; refine x_seq ?_; refine c_cond rfl (fun c1 => ?_) (fun c1 => ?_)
  · refine c_seq ?_; refine c_reg ?_; refine clE (wakes17_fn) rfl rfl (fun h2 x2 => ?_)
    have s2 : h.size ≤ h2.size := x2.size
    have k_2 := k0.ext x2
    refine asg rfl rfl ?_; refine o_nil ?_; refine x_seq ?_; refine c_ret ?_; refine x_seq_ret ?_; refine ret1 (.inr rfl) rfl rfl ?_
    exact ⟨rfl, (k_2).toExt⟩
  · have hs : s.length ≤ 1073741824 := by omega
    refine c_skip ?_; refine x_seq ?_; refine c_seq ?_; refine c_reg ?_
    refine mv rfl rfl (cl (vs := [str s]) rfl ((decode_fn hs)) rfl (fun v3 h3 r3 => ?_))
    obtain ⟨gv, g, e3, rfl, FG, -, x3, D3⟩ := r3
    have z3 := x3.size
    have q3 : At h3.size h3 h3 := At.refl (Nat.le_refl _)
    obtain ⟨au, cu, at0, ct0, ao, co, rfl⟩ := face_form FG
    have k_3 := (k0.ext x3)
    refine mv rfl rfl (ext rfl rfl rfl (ext rfl rfl rfl (alc nofun rfl (fun h4 n4 => ?_))))
    have s4 : h4.size = h3.size + 1 := n4.size
    have k_4 := k_3.ext n4.ext
    have b3_4 := n4.at_
    refine stw rfl rfl rfl (ones rfl) b3_4 rfl nofun (fun h5 u5 => ?_)
    have s5 : h5.size = h4.size := u5.size
    have k_5 := k_4.upd u5 (by omega)
    have b3_5 := u5.at_
    refine asg rfl rfl ?_; refine o_nil ?_; refine x_seq ?_; refine c_seq ?_; refine c_reg ?_
    refine mv rfl rfl (cl (vs := [str s]) rfl (rdecode_fn) rfl (fun v6 h6 r6 => ?_))
    obtain ⟨gv', g', e6, rfl, FG', x6, D6⟩ := r6
    have z6 := x6.size
    have q6 : At h6.size h6 h6 := At.refl (Nat.le_refl _)
    obtain ⟨au', cu', at', ct', ao', co', rfl⟩ := face_form FG'
    obtain ⟨ee, gg⟩ := D3.ref D6
    have k_6 := (k_5.ext x6)
    have b3_6 := (x6.get b3_5)
    refine mv rfl rfl (ext rfl rfl rfl (ext rfl rfl rfl (alc nofun rfl (fun h7 n7 => ?_))))
    have s7 : h7.size = h6.size + 1 := n7.size
    have k_7 := k_6.ext n7.ext
    have b3_7 := n7.ext.get b3_6
    have b5_7 := n7.at_
    refine stw rfl rfl rfl (ones rfl) b5_7 rfl nofun (fun h8 u8 => ?_)
    have s8 : h8.size = h7.size := u8.size
    have k_8 := k_7.upd u8 (by omega)
    have b3_8 := u8.ne b3_7 (by omega)
    have b5_8 := u8.at_
    refine asg rfl rfl ?_; refine o_nil ?_; refine x_seq ?_; refine c_seq ?_; refine c_reg ?_
    refine mv rfl rfl (mv rfl rfl (eqi rfl rfl rfl (mv rfl rfl (gqt rfl rfl rfl (fun e => ldn rfl rfl (row_blk b3_8) rfl) (gqt rfl rfl rfl (fun e => ldn rfl rfl (row_blk b5_8) rfl) ?_)))))
    refine getr rfl rfl rfl (fun e kk => clE ((same16_fn (FaceV.up FG (((((q3.ext n4.ext).upd u5 (by omega)).ext x6).ext n7.ext).upd u8 (by omega))) (FaceV.up FG' ((q6.ext n7.ext).upd u8 (by omega))))) (a2 (cg rfl e) (cg rfl e)) rfl kk) (fun h9 x9 => ?_)
    have s9 : h8.size ≤ h9.size := x9.size
    have k_9 := k_8.ext x9
    have b3_9 := x9.get b3_8
    have b5_9 := x9.get b5_8
    refine pka rfl rfl rfl rfl (mv rfl rfl (getr rfl rfl rfl (fun e kk => clE (wakes17_fn) rfl rfl kk) (fun h10 x10 => ?_)))
    have s10 : h9.size ≤ h10.size := x10.size
    have k_10 := k_9.ext x10
    have b3_10 := x10.get b3_9
    have b5_10 := x10.get b5_9
    refine pka rfl rfl rfl rfl (asg rfl rfl ?_)
    refine o_nil ?_; refine x_seq ?_; refine c_ret ?_; refine ret1 (.inr rfl) rfl rfl ?_
    refine ⟨congrArg Value.bool ?_, (k_10).toExt⟩
    simp [ee, gg, tb_t]
end Go.Proofs.YtgnkfegkdjfnjaaGreat
