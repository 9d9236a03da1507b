/- The law: bytes cut off, or with one more behind, are none. No condition but what each theorem says. -/
import Derived.Test.YtgnkfegkdjfnjaaSdc
namespace Go.Proofs.Ytgnkfegkdjfnjaa
open Go Go.Eng

theorem cut_place {m : Nat} (h : 0 < m) (hm : m ≤ 131072) (n : Int) : (IntKind.u64.wrap (m : Nat) ≠ 0) ∧ 0 ≤ IntKind.i64.wrap ((IntKind.u64.wrap n).tmod (IntKind.u64.wrap (m : Nat))) ∧ IntKind.i64.wrap ((IntKind.u64.wrap n).tmod (IntKind.u64.wrap (m : Nat))) < m := by
  have e1 : IntKind.u64.wrap (m : Nat) = m := by simp only [IntKind.wrap, IntKind.bits, IntKind.signed]; simp; omega
  have e2 : 0 ≤ IntKind.u64.wrap n := by simp only [IntKind.wrap, IntKind.bits, IntKind.signed]; simp; omega
  rw [e1, Int.tmod_eq_emod_of_nonneg e2]
  have e3 := Int.emod_nonneg (IntKind.u64.wrap n) (b := (m : Int)) (by omega)
  have e4 := Int.emod_lt_of_pos (IntKind.u64.wrap n) (b := (m : Int)) (by omega)
  generalize (IntKind.u64.wrap n) % (m : Int) = x at *
  have e5 : IntKind.i64.wrap x = x := by simp only [IntKind.wrap, IntKind.bits, IntKind.signed]; simp; omega
  rw [e5]
  omega
theorem face_keys {N : Nat} {h : Heap} {v : Value} {f : Face} (a : FaceV N h v f) : inU32 f.key ∧ ∀ u ∈ f.uses, inU32 u.key := by
  obtain ⟨_, h2, _⟩ := face_name a
  exact ⟨h2, uses_key a⟩
set_option maxHeartbeats 4000000 in
theorem cutsL_fn {h : Heap} {fv : Value} {f : Face} {n : Int} {c : UInt8} (hF : FaceV h.size h fv f) (hS : FaceShort f) :
    Does Try.prog 12 [fv, i64 n, .int .u8 c.toNat] h (fun v h' => v = .bool true ∧ Ext h h') := by
  have hmx : maxLen = 9223372036854775807 := by decide
  have k0 : At h.size h h := At.refl (Nat.le_refl _)
  have hF0 := hF
  obtain ⟨hfn, hfk, hft⟩ := face_name hF
  have hfu := uses_key hF
  have hsz := short_sized hS
  obtain ⟨au, cu, at0, ct0, ao, co, rfl⟩ := face_form hF
  refine fn_enter (N := 64) Try.func12 (by kernel_rfl) rfl rfl rfl (fun w0 => ?_)
  refine c_seq ?_; refine c_reg ?_; refine bx rfl nofun rfl (fun h1 n1 => ?_)
  have s1 : h1.size = h.size + 1 := n1.size
  have k_1 := k0.ext n1.ext
  have b3_1 := n1.at_
  refine asg rfl rfl ?_; refine o_nil ?_; refine x_seq ?_
  refine c_seq ?_; refine c_seq ?_; refine c_reg ?_
  refine ldn rfl rfl (row_blk b3_1) rfl (clE ((large16_fn (FaceV.up hF0 k_1) hsz)) rfl rfl (fun h2 x2 => ?_))
  have s2 : h1.size ≤ h2.size := x2.size
  have k_2 := k_1.ext x2
  have b3_2 := x2.get b3_1
  refine o_nil ?_; refine x_seq ?_; refine c_cond rfl (fun c3 => ?_) (fun c3 => ?_)
  · refine c_seq ?_; refine c_reg ?_; refine clE (wakes17_fn) rfl rfl (fun h4 x4 => ?_)
    have s4 : h2.size ≤ h4.size := x4.size
    have k_4 := k_2.ext x4
    have b3_4 := x4.get b3_2
    refine asg rfl rfl ?_; refine o_nil ?_; refine x_seq ?_; refine c_ret ?_; refine x_seq_ret ?_; refine ret1 (.inr rfl) rfl rfl ?_
    exact ⟨rfl, (k_4).toExt⟩
  · have hlg : ¬ Large16P f := c3
    refine c_skip ?_; refine x_seq ?_; refine c_seq ?_; refine c_reg ?_
    refine ldn rfl rfl (row_blk b3_2) rfl (cl (vs := [faceC f au cu at0 ct0 ao co]) rfl ((copy16_fn (FaceV.up hF0 k_2) hlg)) rfl (fun v5 h5 r5 => ?_))
    obtain ⟨nn5, x5⟩ := r5
    have z5 := x5.size
    have p5 := nn5.face hfn hfk hft
    have k_5 := (k_2.ext x5)
    have b3_5 := (x5.get b3_2)
    refine cl (vs := [v5]) rfl ((encode_fn p5 nn5.cap)) rfl (fun v6 h6 r6 => ?_)
    obtain ⟨t, e, rfl, hE6, x6⟩ := r6
    have z6 := x6.size
    have l6 := enc_len hE6
    have k_6 := (k_5.ext x6)
    have b3_6 := (x6.get b3_5)
    refine mv rfl rfl (ext rfl rfl rfl (ext rfl rfl rfl (asg rfl rfl (asg rfl rfl ?_))))
    refine o_nil ?_; refine x_seq ?_
    refine c_seq ?_; refine c_seq ?_; refine c_reg ?_; refine mv rfl rfl (nei rfl rfl rfl ?_)
    refine o_nil ?_; refine x_seq ?_; refine c_cond rfl (fun c7 => ?_) (fun c7 => ?_)
    · refine c_seq ?_; refine c_reg ?_
      refine mv rfl rfl (eqs rfl rfl rfl (mv rfl rfl (getr rfl rfl rfl (fun e kk => clE (wakes17_fn) rfl rfl kk) (fun h8 x8 => ?_))))
      have s8 : h6.size ≤ h8.size := x8.size
      have k_8 := k_6.ext x8
      have b3_8 := x8.get b3_6
      refine pka rfl rfl rfl rfl (asg rfl rfl ?_)
      refine o_nil ?_; refine x_seq ?_; refine c_ret ?_; refine x_seq_ret ?_; refine ret1 (.inr rfl) rfl rfl ?_
      refine ⟨congrArg Value.bool ?_, (k_8).toExt⟩
      rw [enc_bad hE6 c7]
      rfl
    · have e0 : e = 0 := Classical.not_not.1 c7
      subst e0
      refine c_skip ?_; refine x_seq ?_
      refine c_seq ?_; refine c_seq ?_; refine c_reg ?_; refine mv rfl rfl (eqs rfl rfl rfl ?_)
      refine o_nil ?_; refine x_seq ?_; refine c_cond rfl (fun c9 => ?_) (fun c9 => ?_)
      · refine c_seq ?_; refine c_reg ?_; refine asg rfl rfl ?_; refine o_nil ?_; refine x_seq ?_; refine c_ret ?_; refine x_seq_ret ?_
        refine ret1 (.inr rfl) rfl rfl ?_
        obtain ⟨-, e2⟩ := enc_good hE6 hfk hfu
        refine absurd (e2.symm.trans c9) ?_
        intro e3
        have := congrArg List.length e3
        simp [faceIts, E_cons, encI, magic] at this
      · have hne : 0 < t.length := by
         cases t with
         | nil => exact absurd rfl c9
         | cons _ _ => simp
        obtain ⟨hnz, hj0, hj1⟩ := cut_place hne l6 n
        have hc1 : ([c] : Bytes).length = 1 := rfl
        refine c_skip ?_; refine x_seq ?_; refine c_seq ?_; refine c_reg ?_
        refine mv rfl rfl (cvi rfl rfl (mv rfl rfl (lns rfl rfl (cvi rfl rfl (rem rfl rfl hnz rfl (cvi rfl rfl (asg rfl rfl ?_)))))))
        refine o_nil ?_; refine x_seq ?_; refine c_seq ?_; refine c_reg ?_
        refine mv rfl rfl (mv rfl rfl (slt rfl rfl (by omega) rfl (cl (vs := [str (t.take (IntKind.i64.wrap ((IntKind.u64.wrap n).tmod (IntKind.u64.wrap (t.length : Nat)))).toNat)]) rfl ((decode_fn (by rw [List.length_take]; omega))) rfl (fun v10 h10 r10 => ?_))))
        obtain ⟨gv, g, e10, rfl, FG, CG, x10, D10⟩ := r10
        have z10 := x10.size
        obtain ⟨au8, cu8, at8, ct8, ao8, co8, rfl⟩ := face_form FG
        have r10 := dec_cut hE6 hfk hfu D10 (face_keys FG).1 (face_keys FG).2 (by omega)
        have k_10 := (k_6.ext x10)
        have b3_10 := (x10.get b3_6)
        refine mv rfl rfl (ext rfl rfl rfl (ext rfl rfl rfl (alc nofun rfl (fun h11 n11 => ?_))))
        have s11 : h11.size = h10.size + 1 := n11.size
        have k_11 := k_10.ext n11.ext
        have b3_11 := n11.ext.get b3_10
        have b10_11 := n11.at_
        refine stw rfl rfl rfl (ones rfl) b10_11 rfl nofun (fun h12 u12 => ?_)
        have s12 : h12.size = h11.size := u12.size
        have k_12 := k_11.upd u12 (by omega)
        have b3_12 := u12.ne b3_11 (by omega)
        have b10_12 := u12.at_
        refine asg rfl rfl ?_; refine o_nil ?_; refine x_seq ?_; refine c_seq ?_; refine c_reg ?_
        refine mv rfl rfl (mv rfl rfl (bsl (vs := [(0, .int .u8 c.toNat)]) (cs := #[.int .u8 c.toNat]) (E := 5) rfl (fun _ => by kernel_rfl) nofun rfl (fun h13 n13 => ?_)))
        have s13 : h13.size = h12.size + 1 := n13.size
        have k_13 := k_12.ext n13.ext
        have b3_13 := n13.ext.get b3_12
        have b10_13 := n13.ext.get b10_12
        refine cvo rfl (l := [c]) (n := 1) ⟨rfl, .inr ⟨_, 1, _, rfl, n13.at_, by omega, by decide, rfl, rfl⟩⟩ rfl (cat rfl rfl (by omega) rfl (cl (vs := [str (t ++ [c])]) rfl ((decode_fn (by simp; omega))) rfl (fun v14 h14 r14 => ?_)))
        obtain ⟨gv', g', e14, rfl, FG', CG', x14, D14⟩ := r14
        have z14 := x14.size
        obtain ⟨au9, cu9, at9, ct9, ao9, co9, rfl⟩ := face_form FG'
        have r14 := dec_more hE6 hfk hfu D14 (face_keys FG').1 (face_keys FG').2
        have k_14 := (k_13.ext x14)
        have b3_14 := (x14.get b3_13)
        have b10_14 := (x14.get b10_13)
        refine mv rfl rfl (ext rfl rfl rfl (ext rfl rfl rfl (alc nofun rfl (fun h15 n15 => ?_))))
        have s15 : h15.size = h14.size + 1 := n15.size
        have k_15 := k_14.ext n15.ext
        have b3_15 := n15.ext.get b3_14
        have b10_15 := n15.ext.get b10_14
        have b12_15 := n15.at_
        refine stw rfl rfl rfl (ones rfl) b12_15 rfl nofun (fun h16 u16 => ?_)
        have s16 : h16.size = h15.size := u16.size
        have k_16 := k_15.upd u16 (by omega)
        have b3_16 := u16.ne b3_15 (by omega)
        have b10_16 := u16.ne b10_15 (by omega)
        have b12_16 := u16.at_
        refine asg rfl rfl ?_; refine o_nil ?_; refine x_seq ?_; refine c_seq ?_; refine c_reg ?_
        refine mv rfl rfl (eqi rfl rfl rfl (mv rfl rfl (gqt rfl rfl rfl (fun e => mv rfl rfl) (gqt rfl rfl rfl (fun e => eqi (cg rfl e) rfl rfl) (pka rfl rfl rfl rfl (mv rfl rfl ?_))))))
        refine getr rfl rfl rfl (fun e kk => clE (wakes17_fn) rfl rfl kk) (fun h17 x17 => ?_)
        have s17 : h16.size ≤ h17.size := x17.size
        have k_17 := k_16.ext x17
        have b3_17 := x17.get b3_16
        have b10_17 := x17.get b10_16
        have b12_17 := x17.get b12_16
        refine pka rfl rfl rfl rfl (asg rfl rfl ?_)
        refine o_nil ?_; refine x_seq ?_; refine c_ret ?_; refine ret1 (.inr rfl) rfl rfl ?_
        exact ⟨by simp [r10, r14], (k_17).toExt⟩
end Go.Proofs.Ytgnkfegkdjfnjaa
