/- The law: which values are interfaces, and what they show under a name. No condition but what each theorem says. -/
import Derived.Test.YtgnkfegkdjfnjaaIgk
namespace Go.Proofs.Ytgnkfegkdjfnjaa
open Go Go.Eng

theorem FaceV.up {h h' : Heap} {v : Value} {f : Face} (a : FaceV h.size h v f) (k : At h.size h h') : FaceV h'.size h' v f := FaceV.keep a k.k k.n
theorem short_sized {f : Face} (h : FaceShort f) : TSized f.types := fun t ht => by
  have := h.1 t ht
  have h1 := this.1
  have h2 := this.2
  have h3 := reachBytes_lt
  omega
theorem face_name {N : Nat} {h : Heap} {v : Value} {f : Face} (a : FaceV N h v f) : f.name.length ≤ maxLen ∧ inU32 f.key ∧ f.types.length ≤ maxLen := by
  obtain ⟨vu, vt, vo, rfl, hn, hk, hU, hT, hO⟩ := a
  exact ⟨hn, hk, hT.1⟩
abbrev faceC (f : Face) (au : Option Addr) (cu : Nat) (at' : Option Addr) (ct : Nat) (ao : Option Addr) (co : Nat) : Value := .agg #[str f.name, .int .u32 f.key, .slice au f.uses.length cu, .slice at' f.types.length ct, .slice ao f.objs.length co]
theorem face_form {N : Nat} {h : Heap} {v : Value} {f : Face} (a : FaceV N h v f) : ∃ au cu at' ct ao co, v = faceC f au cu at' ct ao co := by
  obtain ⟨vu, vt, vo, rfl, hn, hk, hU, hT, hO⟩ := a
  obtain ⟨ao, co, rfl⟩ := hO.form
  obtain ⟨au, cu, rfl⟩ := hU.form
  obtain ⟨at0, ct0, rfl⟩ := SliceAt.form hT
  exact ⟨au, cu, at0, ct0, ao, co, rfl⟩
theorem goods_fn {h : Heap} {fv : Value} {f : Face} (hF : FaceV h.size h fv f) (hS : FaceShort f) (name : Bytes) :
    Does Try.prog 3 [fv, str name] h (fun v h' => v = .bool true ∧ Ext h h') := by
  have hmx : maxLen = 9223372036854775807 := by decide
  have k0 : At h.size h h := At.refl (Nat.le_refl _)
  have hF0 := hF
  obtain ⟨hfn, hfk, hft⟩ := face_name hF
  have hsz := short_sized hS
  obtain ⟨au, cu, at0, ct0, ao, co, rfl⟩ := face_form hF
  refine fn_enter (N := 56) Try.func3 (by kernel_rfl) rfl rfl rfl (fun w0 => ?_)
  refine c_seq ?_; refine c_reg ?_; refine bx rfl nofun rfl (fun h1 n1 => ?_)
  have s1 : h1.size = h.size + 1 := n1.size
  have k_1 := k0.ext n1.ext
  have b2_1 := n1.at_
  refine asg rfl rfl ?_; refine o_nil ?_; refine x_seq ?_
  refine c_seq ?_; refine c_seq ?_; refine c_reg ?_
  refine ldn rfl rfl (row_blk b2_1) rfl (clE ((large16_fn (FaceV.up hF0 k_1) hsz)) rfl rfl (fun h2 x2 => ?_))
  have s2 : h1.size ≤ h2.size := x2.size
  have k_2 := k_1.ext x2
  have b2_2 := x2.get b2_1
  refine mv rfl rfl (gqf rfl rfl rfl (fun e => mv rfl rfl) (gqf rfl rfl rfl (fun e => lns (cg rfl e) rfl) (gqf rfl rfl rfl (fun e => gti (cg rfl e) rfl rfl) (pko rfl rfl rfl rfl ?_))))
  refine o_nil ?_; refine x_seq ?_; refine c_cond rfl (fun c3 => ?_) (fun c3 => ?_)
  · refine c_seq ?_; refine c_reg ?_; refine clE (wakes16_fn) rfl rfl (fun h4 x4 => ?_)
    have s4 : h2.size ≤ h4.size := x4.size
    have k_4 := k_2.ext x4
    have b2_4 := x4.get b2_2
    refine asg rfl rfl ?_; refine o_nil ?_; refine x_seq ?_; refine c_ret ?_; refine x_seq_ret ?_; refine ret1 (.inr rfl) rfl rfl ?_
    exact ⟨rfl, (k_4).toExt⟩
  · have hlg : ¬ Large16P f := fun e => c3 (.inl e)
    refine c_skip ?_; refine x_seq ?_; refine c_seq ?_; refine c_reg ?_
    refine ldn rfl rfl (row_blk b2_2) rfl (cl (vs := [faceC f au cu at0 ct0 ao co]) rfl ((copy16_fn (FaceV.up hF0 k_2) hlg)) rfl (fun v5 h5 r5 => ?_))
    obtain ⟨nn5, x5⟩ := r5
    have z5 := x5.size
    have p5 := nn5.face hfn hfk hft
    have k5 := k_2.ext x5
    have q5 := FaceV.up hF0 k5
    have kk5 : At h5.size h5 h5 := At.refl (Nat.le_refl _)
    obtain ⟨au5, cu5, at5, ct5, ao5, co5, rfl⟩ := face_form p5
    have k_5 := (k_2.ext x5)
    have b2_5 := (x5.get b2_2)
    refine alc nofun rfl (fun h6 n6 => ?_)
    have s6 : h6.size = h5.size + 1 := n6.size
    have k_6 := kk5.ext n6.ext
    have b2_6 := n6.ext.get b2_5
    have b5_6 := n6.at_
    refine stw rfl rfl rfl (ones rfl) b5_6 rfl nofun (fun h7 u7 => ?_)
    have s7 : h7.size = h6.size := u7.size
    have k_7 := k_6.upd u7 (by omega)
    have b2_7 := u7.ne b2_6 (by omega)
    have b5_7 := u7.at_
    refine o_nil ?_; refine x_seq ?_; refine c_seq ?_; refine c_reg ?_
    refine ldn rfl rfl (row_blk b2_7) rfl (cl (vs := [faceC f au cu at0 ct0 ao co]) rfl ((copy16_fn (FaceV.up q5 k_7) hlg)) rfl (fun v8 h8 r8 => ?_))
    obtain ⟨nn8, x8⟩ := r8
    have z8 := x8.size
    have k8 := k_7.ext x8
    have p8 := nn8.face hfn hfk hft
    have q8 := FaceV.up q5 k8
    have r8 := FaceV.up p5 k8
    have kk8 : At h8.size h8 h8 := At.refl (Nat.le_refl _)
    obtain ⟨au8, cu8, at8, ct8, ao8, co8, rfl⟩ := face_form p8
    have k_8 := (k_7.ext x8)
    have b2_8 := (x8.get b2_7)
    have b5_8 := (x8.get b5_7)
    refine mv rfl rfl (clE ((find_fn (FaceV.up p8 kk8) name)) rfl rfl (fun h9 x9 => ?_))
    have s9 : h8.size ≤ h9.size := x9.size
    have k_9 := kk8.ext x9
    have b2_9 := x9.get b2_8
    have b5_9 := x9.get b5_8
    refine mv rfl rfl (ext rfl rfl rfl (ext rfl rfl rfl (alc nofun rfl (fun h10 n10 => ?_))))
    have s10 : h10.size = h9.size + 1 := n10.size
    have k_10 := k_9.ext n10.ext
    have b2_10 := n10.ext.get b2_9
    have b5_10 := n10.ext.get b5_9
    have b6_10 := n10.at_
    refine stw rfl rfl rfl (ones rfl) b6_10 rfl nofun (fun h11 u11 => ?_)
    have s11 : h11.size = h10.size := u11.size
    have k_11 := k_10.upd u11 (by omega)
    have b2_11 := u11.ne b2_10 (by omega)
    have b5_11 := u11.ne b5_10 (by omega)
    have b6_11 := u11.at_
    refine asg rfl rfl ?_; refine o_nil ?_; refine x_seq ?_; refine c_seq ?_; refine c_reg ?_
    refine ldn rfl rfl (row_blk b2_11) rfl (mv rfl rfl (clE ((rfind_fn (FaceV.up q8 k_11) name)) rfl rfl (fun h12 x12 => ?_)))
    have s12 : h11.size ≤ h12.size := x12.size
    have k_12 := k_11.ext x12
    have b2_12 := x12.get b2_11
    have b5_12 := x12.get b5_11
    have b6_12 := x12.get b6_11
    refine mv rfl rfl (ext rfl rfl rfl (ext rfl rfl rfl (alc nofun rfl (fun h13 n13 => ?_))))
    have s13 : h13.size = h12.size + 1 := n13.size
    have k_13 := k_12.ext n13.ext
    have b2_13 := n13.ext.get b2_12
    have b5_13 := n13.ext.get b5_12
    have b6_13 := n13.ext.get b6_12
    have b8_13 := n13.at_
    refine stw rfl rfl rfl (ones rfl) b8_13 rfl nofun (fun h14 u14 => ?_)
    have s14 : h14.size = h13.size := u14.size
    have k_14 := k_13.upd u14 (by omega)
    have b2_14 := u14.ne b2_13 (by omega)
    have b5_14 := u14.ne b5_13 (by omega)
    have b6_14 := u14.ne b6_13 (by omega)
    have b8_14 := u14.at_
    refine asg rfl rfl ?_; refine o_nil ?_; refine x_seq ?_; refine c_seq ?_
    refine c_treg (Mod (fun k => False) h14) (some 18) [18, 17, 16, 15, 14, 13, 12, 11, 10, 9, 8, 7, 6, 5, 4, 3, 1, 2, 0] (.leaf [0, 2, 1, 3, 4, 5, 6, 7, 8, 9, 10, 11, 12, 13, 14, 15, 16, 17] [18, 19, 20, 21, 22, 23]) rfl (Mod.refl _ _) (by kernel_rfl) ?_
    have c0_1 : Mod (fun k => False) h14 h14 := Mod.refl _ _
    refine t_leaf ?_
    refine ldnI rfl rfl (fun _ hI => row_blk (hI.get b5_14 (by first | exact id | (intro e; have e : _ = _ := e; omega) | assumption))) rfl (ldnI rfl rfl (fun _ hI => row_blk (hI.get b2_14 (by first | exact id | (intro e; have e : _ = _ := e; omega) | assumption))) rfl ?_)
    refine clEI ((fgood_fn (FaceV.up r8 k_14))) rfl (fun _ x => c0_1.trans (x.mod _)) rfl (fun h15 x15 => ?_)
    have s15 : h14.size ≤ h15.size := x15.size
    have c_15 := c0_1.trans (x15.mod _)
    have k_15 := k_14.ext x15
    have b2_15 := x15.get b2_14
    have b5_15 := x15.get b5_14
    have b6_15 := x15.get b6_14
    have b8_15 := x15.get b8_14
    refine clEI ((good16_fn (FaceV.up q8 k_15))) rfl (fun _ x => c_15.trans (x.mod _)) rfl (fun h16 x16 => ?_)
    have s16 : h15.size ≤ h16.size := x16.size
    have c_16 := c_15.trans (x16.mod _)
    have k_16 := k_15.ext x16
    have b2_16 := x16.get b2_15
    have b5_16 := x16.get b5_15
    have b6_16 := x16.get b6_15
    have b8_16 := x16.get b8_15
    refine eqb rfl rfl rfl (mv rfl rfl (gqt rfl rfl rfl (fun e => mv rfl rfl) (gqt rfl rfl rfl (fun e => mv rfl rfl) (gqt rfl rfl rfl (fun e => eqb (cg rfl e) (cg rfl e) rfl) ?_))))
    refine pka rfl rfl rfl rfl (mv rfl rfl (gqt rfl rfl rfl (fun e => ldnI rfl rfl (fun _ hI => row_blk (hI.get b6_14 (by first | exact id | (intro e; have e : _ = _ := e; omega) | assumption))) rfl) ?_))
    refine gqt rfl rfl rfl (fun e => ldnI rfl rfl (fun _ hI => row_blk (hI.get b8_14 (by first | exact id | (intro e; have e : _ = _ := e; omega) | assumption))) rfl) ?_
    refine getr rfl rfl rfl (fun e kk => clEI ((sameO_fn ((findO f.objs name).getD zeroOb) ((findO f.objs name).getD zeroOb) _)) (a2 (cg rfl e) (cg rfl e)) (fun _ x => c_16.trans (x.mod _)) rfl kk) (fun h17 x17 => ?_)
    have s17 : h16.size ≤ h17.size := x17.size
    have c_17 := c_16.trans (x17.mod _)
    have k_17 := k_16.ext x17
    have b2_17 := x17.get b2_16
    have b5_17 := x17.get b5_16
    have b6_17 := x17.get b6_16
    have b8_17 := x17.get b8_16
    refine pka rfl rfl rfl rfl (mv rfl rfl (gqt rfl rfl rfl (fun e => ldnI rfl rfl (fun _ hI => row_blk (hI.get b5_14 (by first | exact id | (intro e; have e : _ = _ := e; omega) | assumption))) rfl) ?_))
    refine gqt rfl rfl rfl (fun e => ldnI rfl rfl (fun _ hI => row_blk (hI.get b2_14 (by first | exact id | (intro e; have e : _ = _ := e; omega) | assumption))) rfl) ?_
    refine o_nil ?_; refine x_tail ?_
    refine getr rfl rfl rfl (fun e kk => clE ((same16_fn (FaceV.up r8 k_17) (FaceV.up q8 k_17))) (a2 (cg rfl e) (cg rfl e)) rfl kk) (fun h18 x18 => ?_)
    have s18 : h17.size ≤ h18.size := x18.size
    have k_18 := k_17.ext x18
    have b2_18 := x18.get b2_17
    have b5_18 := x18.get b5_17
    have b6_18 := x18.get b6_17
    have b8_18 := x18.get b8_17
    refine pka rfl rfl rfl rfl (mv rfl rfl (getr rfl rfl rfl (fun e kk => clE (wakes16_fn) rfl rfl kk) (fun h19 x19 => ?_)))
    have s19 : h18.size ≤ h19.size := x19.size
    have k_19 := k_18.ext x19
    have b2_19 := x19.get b2_18
    have b5_19 := x19.get b5_18
    have b6_19 := x19.get b6_18
    have b8_19 := x19.get b8_18
    refine pka rfl rfl rfl rfl (asg rfl rfl ?_)
    refine o_nil ?_; refine x_seq ?_; refine c_ret ?_; refine ret1 (.inr rfl) rfl rfl ?_
    exact ⟨congrArg Value.bool (by simp [tb_t]), ((k5.toExt).trans k8.toExt).trans (k_19).toExt⟩
end Go.Proofs.Ytgnkfegkdjfnjaa
