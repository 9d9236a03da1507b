/- The law: a type more, that no object needs, is gone behind a trim. No condition but what each theorem says. -/
import Derived.Test.YtgnkfegkdjfnjaaIfb1
namespace Go.Proofs.Ytgnkfegkdjfnjaa
open Go Go.Eng

theorem wrap_room (n : Int) : 0 ≤ IntKind.i64.wrap ((IntKind.u64.wrap n).tmod 4096) ∧ IntKind.i64.wrap ((IntKind.u64.wrap n).tmod 4096) ≤ 4095 := by
  have h1 : 0 ≤ IntKind.u64.wrap n := by
    have e : IntKind.u64.wrap n = n % 18446744073709551616 := by simp [IntKind.wrap, IntKind.bits, IntKind.signed]
    rw [e]; omega
  have h2 : 0 ≤ (IntKind.u64.wrap n).tmod 4096 ∧ (IntKind.u64.wrap n).tmod 4096 ≤ 4095 := by
    rw [Int.tmod_eq_emod_of_nonneg h1]; omega
  generalize (IntKind.u64.wrap n).tmod 4096 = m at h2
  have e : IntKind.i64.wrap m = m := by
    simp [IntKind.wrap, IntKind.bits, IntKind.signed]; omega
  rw [e]; exact h2
theorem owns_more {t : List Ty} {y : Ty} (name : Bytes) {O : List Nat} (h : ∀ a ∈ O, a < t.length) : owns (t ++ [y]) name O = owns t name O := by
  unfold owns
  refine List.countP_congr fun a ha => ?_
  have : tyAt (t ++ [y]) a = tyAt t a := by unfold tyAt; rw [List.getElem?_append_left (h a ha)]
  rw [this]
theorem room_ok {f : Face} (hg : FGood f) (hl : f.types.length ≤ 250) {n : Int} (hn : 1 ≤ n ∧ n ≤ 4096) : TrimOk (roomF f n) ↔ TrimOk f := by
  have hs := shaped_room hg.1 hl hn
  have hi := imp_room hg.imp n
  obtain ⟨hT, -⟩ := needed_ok hg.1
  have e : owns (roomF f n).types (roomF f n).name (needed (roomF f n)).order = owns f.types f.name (needed f).order := by
    rw [needed_room hg.1 n]
    exact owns_more f.name (fun a ha => (hT.inv.range a ha).2)
  unfold TrimOk
  rw [e]
  exact ⟨fun h => ⟨⟨hg.1, hg.imp⟩, h.2⟩, fun h => ⟨⟨hs, hi⟩, h.2⟩⟩
theorem room_ty (h : Heap) {B : Nat → Prop} {n : Int} (hn : 1 ≤ n ∧ n ≤ 4096) : TyB B h (roomTy n) (tyCells (roomTy n) (.slice none 0 0) (.slice none 0 0)) :=
  ⟨⟨Nat.zero_le _, Nat.zero_le _, by show in64 7; unfold in64; omega, by show in64 n; unfold in64; omega, by show in64 3; unfold in64; omega, in0, in0, in0⟩, _, _, rfl, SliceB.nil _ _ _ _, SliceB.nil _ _ _ _⟩
set_option maxHeartbeats 4000000 in
theorem roomL_fn {h : Heap} {fv : Value} {f : Face} (hF : FaceV h.size h fv f) (hS : FaceShort f) (n : Int) :
    Does Try.prog 5 [fv, i64 n] h (fun v h' => v = .bool true ∧ Ext h h') := by
  have hmx : maxLen = 9223372036854775807 := by decide
  have k0 : At h.size h h := At.refl (Nat.le_refl _)
  have hF0 := hF
  obtain ⟨hfn, hfk, hft⟩ := face_name hF
  have hsz := short_sized hS
  obtain ⟨au, cu, at0, ct0, ao, co, rfl⟩ := face_form hF
  refine fn_enter (N := 67) Try.func5 (by kernel_rfl) rfl rfl rfl (fun w0 => ?_)
  refine c_seq ?_; refine c_reg ?_; refine bx rfl nofun rfl (fun h1 n1 => ?_)
  have s1 : h1.size = h.size + 1 := n1.size
  have k_1 := k0.ext n1.ext
  have b2_1 := n1.at_
  refine asg rfl rfl ?_; refine o_nil ?_; refine x_seq ?_
  refine c_seq ?_; refine c_seq ?_; refine c_reg ?_
  refine ldn rfl rfl (row_blk b2_1) rfl (clE ((large16_fn (FaceV.up hF0 k_1) hsz)) rfl rfl (fun h2 x2 => ?_))
  have s2 : h1.size ≤ h2.size := x2.size
  have k_2 := k_1.ext x2
  have b2_2 := x2.get b2_1
  refine mv rfl rfl (gqf rfl rfl rfl (fun e => ldn rfl rfl (row_blk b2_2) rfl) (gef rfl rfl rfl (fun e kk => clE ((good16_fn (FaceV.up hF0 k_2))) (a1 (cg rfl e)) rfl kk) (fun h3 x3 => ?_)))
  have s3 : h2.size ≤ h3.size := x3.size
  have k_3 := k_2.ext x3
  have b2_3 := x3.get b2_2
  refine gqf rfl rfl rfl (fun e => nt (cg rfl e) rfl) (pko rfl rfl rfl rfl (mv rfl rfl (gqf rfl rfl rfl (fun e => fa rfl rfl) (gqf rfl rfl rfl (fun e => ld (cg rfl e) (cell b2_3 rfl) rfl) ?_))))
  refine gqf rfl rfl rfl (fun e => lnl (cg rfl e) rfl) (gqf rfl rfl rfl (fun e => gti (cg rfl e) rfl rfl) (pko rfl rfl rfl rfl ?_))
  refine o_nil ?_; refine x_seq ?_; refine c_cond rfl (fun c4 => ?_) (fun c4 => ?_)
  · refine c_seq ?_; refine c_reg ?_; refine clE (wakes16_fn) rfl rfl (fun h5 x5 => ?_)
    have s5 : h3.size ≤ h5.size := x5.size
    have k_5 := k_3.ext x5
    have b2_5 := x5.get b2_3
    refine asg rfl rfl ?_; refine o_nil ?_; refine x_seq ?_; refine c_ret ?_; refine x_seq_ret ?_; refine ret1 (.inr rfl) rfl rfl ?_
    exact ⟨rfl, (k_5).toExt⟩
  · have hlg : ¬ Large16P f := fun e => c4 (.inl (.inl e))
    have hG : FGood f := Classical.byContradiction fun e => c4 (.inl (.inr e))
    have h250 : f.types.length ≤ 250 := Nat.le_of_not_lt fun e => c4 (.inr (by omega))
    refine c_skip ?_; refine x_seq ?_; refine c_seq ?_; refine c_reg ?_
    refine ldn rfl rfl (row_blk b2_3) rfl (cl (vs := [faceC f au cu at0 ct0 ao co]) rfl ((copy16_fn (FaceV.up hF0 k_3) hlg)) rfl (fun v6 h6 r6 => ?_))
    obtain ⟨⟨vu6, vt6, vo6, rfl, hT6, hU6, hO6⟩, x6⟩ := r6
    have z6 := x6.size
    obtain ⟨au6, cu6, rfl⟩ := hU6.form
    obtain ⟨ao6, co6, rfl⟩ := hO6.form
    obtain ⟨at6, ct6, rfl⟩ := hT6.own.form
    have k_6 := (k_3.ext x6)
    have b2_6 := (x6.get b2_3)
    refine alc nofun rfl (fun h7 n7 => ?_)
    have s7 : h7.size = h6.size + 1 := n7.size
    have k_7 := k_6.ext n7.ext
    have b2_7 := n7.ext.get b2_6
    have b5_7 := n7.at_
    refine stw rfl rfl rfl (ones rfl) b5_7 rfl nofun (fun h8 u8 => ?_)
    have hwr := wrap_room n
    have hmm : 1 ≤ 1 + IntKind.i64.wrap ((IntKind.u64.wrap n).tmod 4096) ∧ 1 + IntKind.i64.wrap ((IntKind.u64.wrap n).tmod 4096) ≤ 4096 := by omega
    have T6 := hT6.mono (B' := fun b => h3.size ≤ b ∧ b ≠ h6.size) (fun b hl e => ⟨e, by omega⟩)
    have T8 := (T6.mod n7.ext (fun _ _ _ e => e)).mod u8.mod (fun b hb _ e => hb.2 e)
    have s8 : h8.size = h7.size := u8.size
    have k_8 := k_7.upd u8 (by omega)
    have b2_8 := u8.ne b2_7 (by omega)
    have b5_8 := u8.at_
    refine o_nil ?_; refine x_seq ?_; refine c_seq ?_; refine c_reg ?_
    refine fa rfl rfl (ld rfl (cell b5_8 rfl) rfl (mv rfl rfl (cvi rfl rfl (rem rfl rfl (by decide) rfl (cvi rfl rfl (add rfl rfl (by omega) rfl (bld (vs := [(0, i64 7), (3, i64 (1 + IntKind.i64.wrap ((IntKind.u64.wrap n).tmod 4096))), (4, i64 3)]) (v := .agg (tyCells (roomTy (1 + IntKind.i64.wrap ((IntKind.u64.wrap n).tmod 4096))) (.slice none 0 0) (.slice none 0 0)).toArray) rfl (fun _ => by kernel_rfl) rfl ?_)))))))
    refine bsl (vs := [(0, .agg (tyCells (roomTy (1 + IntKind.i64.wrap ((IntKind.u64.wrap n).tmod 4096))) (.slice none 0 0) (.slice none 0 0)).toArray)]) (cs := (tyCells (roomTy (1 + IntKind.i64.wrap ((IntKind.u64.wrap n).tmod 4096))) (.slice none 0 0) (.slice none 0 0)).toArray) (E := 49) rfl (fun _ => by kernel_rfl) nofun rfl (fun h9 n9 => ?_)
    have T9 := T8.mod n9.ext (fun _ _ _ e => e)
    have l9 := T9.low
    have t6 := hT6.lt
    obtain ⟨css, hOw, q1, q2, q3⟩ := T9.own
    have s9 : h9.size = h8.size + 1 := n9.size
    have k_9 := k_8.ext n9.ext
    have b2_9 := n9.ext.get b2_8
    have b5_9 := n9.ext.get b5_8
    refine app U_sl rfl rfl hOw (Src.slice (size := 10) (m := 1) rfl (row_blk n9.at_)) rfl (ones rfl) (by omega) (by omega) nofun rfl (fun v10 h10 o10 m10 f10 => ?_)
    obtain ⟨a10, c10, rfl⟩ := o10.form
    have T10 := TysOwn.snoc q1 q2 q3 o10 m10 f10 l9 (fun b hb => ⟨by omega, by omega⟩) (room_ty h9 hmm)
    have s10 : h9.size ≤ h10.size := m10.size
    have k_10 := (k_9.mod m10 (fun b e => by have := l9 b e; omega))
    have b2_10 := (m10.get b2_9 (fun e => by have h1 := l9 _ e; have h2 := t6 _ e; omega))
    have b5_10 := (m10.get b5_9 (fun e => by have h1 := l9 _ e; have h2 := t6 _ e; omega))
    refine fa rfl rfl (st rfl rfl rfl b5_10 rfl nofun (fun h11 u11 => ?_))
    have M611 : Go.Eng.Mod (fun b => b = h6.size ∨ ownB (.slice at6 f.types.length ct6) b) h6 h11 := ((((((Go.Eng.Mod.refl _ h6).trans (n7.ext.mod _)).upd u8 (.inl (.inl rfl))).trans (n9.ext.mod _)).andMod m10 (fun b e => .inl (.inr e))).upd u11 (.inl (.inl rfl)))
    have U11 := (hU6.mono (B' := fun b => (h3.size ≤ b ∧ ¬ ownB (.slice at6 f.types.length ct6) b) ∧ b ≠ h6.size) (fun b hl e => ⟨e, by omega⟩)).mod (B' := fun _ => True) M611 (fun b _ e => ⟨fun e' => e'.elim (fun e' => e.2 e') e.1.2, trivial⟩)
    have O11 := (hO6.mono (B' := fun b => (h3.size ≤ b ∧ ¬ ownB (.slice at6 f.types.length ct6) b) ∧ b ≠ h6.size) (fun b hl e => ⟨e, by omega⟩)).mod (B' := fun _ => True) M611 (fun b _ e => ⟨fun e' => e'.elim (fun e' => e.2 e') e.1.2, trivial⟩)
    have T11 := T10.mod u11.mod (fun b hb _ e => hb.2 e)
    have p11 : FaceV h11.size h11 (.agg #[str f.name, .int .u32 f.key, .slice au6 f.uses.length cu6, .slice a10 (f.types.length + 1) c10, .slice ao6 f.objs.length co6]) (roomF f (1 + IntKind.i64.wrap ((IntKind.u64.wrap n).tmod 4096))) := ⟨_, _, _, rfl, hfn, hfk, U11.at_ (fun b hb _ => hb), T11.at_ (by simp; omega), O11.at_ (fun b hb _ => hb)⟩
    have k11' := k_10.upd u11 (show h.size ≤ h6.size by omega)
    have q11 := FaceV.up hF0 k11'
    have kk11 : At h11.size h11 h11 := At.refl (Nat.le_refl _)
    have s11 : h11.size = h10.size := u11.size
    have k_11 := k_10.upd u11 (by omega)
    have b2_11 := u11.ne b2_10 (by omega)
    have b5_11 := u11.at_
    refine o_nil ?_; refine x_seq ?_; refine c_seq ?_; refine c_reg ?_
    refine ldn rfl rfl (row_blk b2_11) rfl (cl (vs := [faceC f au cu at0 ct0 ao co]) rfl ((copy16_fn (FaceV.up q11 kk11) hlg)) rfl (fun v12 h12 r12 => ?_))
    obtain ⟨nn12, x12⟩ := r12
    have z12 := x12.size
    have p12 := nn12.face hfn hfk hft
    have k_12 := (kk11.ext x12)
    have b2_12 := (x12.get b2_11)
    have b5_12 := (x12.get b5_11)
    refine cl (vs := [v12]) rfl ((trim_fn p12)) rfl (fun v13 h13 r13 => ?_)
    obtain ⟨xv, x, e, rfl, p13, x13, hr13⟩ := r13
    have z13 := x13.size
    obtain ⟨au13, cu13, at13, ct13, ao13, co13, rfl⟩ := face_form p13
    have k_13 := (k_12.ext x13)
    have b2_13 := (x13.get b2_12)
    have b5_13 := (x13.get b5_12)
    refine mv rfl rfl (ext rfl rfl rfl (ext rfl rfl rfl (alc nofun rfl (fun h14 n14 => ?_))))
    have s14 : h14.size = h13.size + 1 := n14.size
    have k_14 := k_13.ext n14.ext
    have b2_14 := n14.ext.get b2_13
    have b5_14 := n14.ext.get b5_13
    have b6_14 := n14.at_
    refine stw rfl rfl rfl (ones rfl) b6_14 rfl nofun (fun h15 u15 => ?_)
    have s15 : h15.size = h14.size := u15.size
    have k_15 := k_14.upd u15 (by omega)
    have b2_15 := u15.ne b2_14 (by omega)
    have b5_15 := u15.ne b5_14 (by omega)
    have b6_15 := u15.at_
    refine asg rfl rfl ?_; refine o_nil ?_; refine x_seq ?_; refine c_seq ?_; refine c_reg ?_
    refine ldn rfl rfl (row_blk b5_15) rfl (cl (vs := [.agg #[str f.name, .int .u32 f.key, .slice au6 f.uses.length cu6, .slice a10 (f.types.length + 1) c10, .slice ao6 f.objs.length co6]]) rfl ((trim_fn (FaceV.up p11 k_15))) rfl (fun v16 h16 r16 => ?_))
    obtain ⟨yv, y, e', rfl, p16, x16, hr16⟩ := r16
    have z16 := x16.size
    obtain ⟨au16, cu16, at16, ct16, ao16, co16, rfl⟩ := face_form p16
    have k_16 := (k_15.ext x16)
    have b2_16 := (x16.get b2_15)
    have b5_16 := (x16.get b5_15)
    have b6_16 := (x16.get b6_15)
    refine mv rfl rfl (ext rfl rfl rfl (ext rfl rfl rfl (alc nofun rfl (fun h17 n17 => ?_))))
    have s17 : h17.size = h16.size + 1 := n17.size
    have k_17 := k_16.ext n17.ext
    have b2_17 := n17.ext.get b2_16
    have b5_17 := n17.ext.get b5_16
    have b6_17 := n17.ext.get b6_16
    have b8_17 := n17.at_
    refine stw rfl rfl rfl (ones rfl) b8_17 rfl nofun (fun h18 u18 => ?_)
    have P13 := FaceV.up p13 (((((((At.refl (Nat.le_refl _)).ext n14.ext).upd u15 (Nat.le_refl _)).ext x16).ext n17.ext).upd u18 (by omega)))
    have P16 := FaceV.up p16 ((((At.refl (Nat.le_refl _)).ext n17.ext).upd u18 (Nat.le_refl _)))
    have s18 : h18.size = h17.size := u18.size
    have k_18 := k_17.upd u18 (by omega)
    have b2_18 := u18.ne b2_17 (by omega)
    have b5_18 := u18.ne b5_17 (by omega)
    have b6_18 := u18.ne b6_17 (by omega)
    have b8_18 := u18.at_
    refine asg rfl rfl ?_; refine o_nil ?_; refine x_seq ?_; refine c_seq ?_; refine c_reg ?_
    refine mv rfl rfl (mv rfl rfl (eqi rfl rfl rfl (mv rfl rfl (gqt rfl rfl rfl (fun e => mv rfl rfl) (gqt rfl rfl rfl (fun e => eqi (cg rfl e) rfl rfl) (gqt rfl rfl rfl (fun e => mv (cg rfl e) rfl) ?_))))))
    refine gqf2 rfl rfl rfl (fun e => mv rfl rfl) (gqf2 rfl rfl rfl (fun e => eqi (cg rfl e) rfl rfl) (gqt rfl rfl rfl (fun e => pko (cg rfl e) rfl (cg2 rfl e) rfl) ?_))
    refine pka rfl rfl rfl rfl (mv rfl rfl (gqt rfl rfl rfl (fun e => ldn rfl rfl (row_blk b6_18) rfl) (gqt rfl rfl rfl (fun e => ldn rfl rfl (row_blk b8_18) rfl) ?_)))
    refine getr rfl rfl rfl (fun e kk => clE ((same16_fn P13 P16)) (a2 (cg rfl e) (cg rfl e)) rfl kk) (fun h19 x19 => ?_)
    have s19 : h18.size ≤ h19.size := x19.size
    have k_19 := k_18.ext x19
    have b2_19 := x19.get b2_18
    have b5_19 := x19.get b5_18
    have b6_19 := x19.get b6_18
    have b8_19 := x19.get b8_18
    refine pka rfl rfl rfl rfl (mv rfl rfl (getr rfl rfl rfl (fun e kk => clE (wakes16_fn) rfl rfl kk) (fun h20 x20 => ?_)))
    have s20 : h19.size ≤ h20.size := x20.size
    have k_20 := k_19.ext x20
    have b2_20 := x20.get b2_19
    have b5_20 := x20.get b5_19
    have b6_20 := x20.get b6_19
    have b8_20 := x20.get b8_19
    refine pka rfl rfl rfl rfl (asg rfl rfl ?_)
    refine o_nil ?_; refine x_seq ?_; refine c_ret ?_; refine ret1 (.inr rfl) rfl rfl ?_
    have key : x = y ∧ e = e' ∧ (e = 0 ∨ e = 160) := by
     rw [room_ok hG h250 hmm] at hr16
     rcases hr13 with ⟨h1, rfl, rfl⟩ | ⟨h1, rfl, rfl⟩
     · rcases hr16 with ⟨h2, rfl, rfl⟩ | ⟨h2, -, -⟩
       · exact ⟨(trim_room hG.1 _).symm, rfl, .inl rfl⟩
       · exact absurd h1 h2
     · rcases hr16 with ⟨h2, -, -⟩ | ⟨h2, rfl, rfl⟩
       · exact absurd h2 h1
       · exact ⟨rfl, rfl, .inr rfl⟩
    obtain ⟨rfl, rfl, hee⟩ := key
    refine ⟨congrArg Value.bool ?_, (k11'.toExt).trans (k_20).toExt⟩
    rw [tb_t rfl]
    rcases hee with rfl | rfl <;> rfl
end Go.Proofs.Ytgnkfegkdjfnjaa
