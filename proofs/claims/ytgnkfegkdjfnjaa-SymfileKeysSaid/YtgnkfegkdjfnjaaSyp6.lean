/- The walk of the reference's writing of an interface. No condition but what each theorem says. -/
import Derived.Test.YtgnkfegkdjfnjaaSyp5
namespace Go.Proofs.Ytgnkfegkdjfnjaa
open Go Go.Eng

set_option maxHeartbeats 4000000 in
theorem rencode_fn {h : Heap} {fv : Value} {f : Face} (hF : FaceV h.size h fv f) : Does Try.prog 28 [fv] h (fun v h' => ∃ s e, v = .tuple #[str s, i64 e] ∧ EncR f s e ∧ Ext h h') := by
  have hmx : maxLen = 9223372036854775807 := by decide
  have k0 : At h.size h h := At.refl (Nat.le_refl _)
  have hF0 := hF
  obtain ⟨vu, vt, vo, rfl, hn, hk, hU, hT, hO⟩ := hF
  have hU0 := hU
  have hT0 := hT
  have hO0 := hO
  obtain ⟨au, cu, rfl⟩ := hU.form
  obtain ⟨at0, ct0, rfl⟩ := SliceAt.form hT
  obtain ⟨ao, co, rfl⟩ := hO.form
  refine fn_enter (N := 124) Try.func28 (by kernel_rfl) rfl rfl rfl (fun w0 => ?_)
  refine c_seq ?_; refine c_reg ?_; refine bx rfl nofun rfl (fun h1 n1 => ?_)
  have s1 : h1.size = h.size + 1 := n1.size
  have k_1 := k0.ext n1.ext
  have b1_1 := n1.at_
  refine asg rfl rfl (asg rfl rfl ?_)
  refine o_nil ?_; refine x_seq ?_
  refine c_seq ?_; refine c_seq ?_; refine c_reg ?_
  refine ldn rfl rfl (row_blk b1_1) rfl (clE ((good16_fn (FaceV.up hF0 k_1))) rfl rfl (fun h2 x2 => ?_))
  have s2 : h1.size ≤ h2.size := x2.size
  have k_2 := k_1.ext x2
  have b1_2 := x2.get b1_1
  refine nt rfl rfl ?_; refine o_nil ?_; refine x_seq ?_; refine c_cond rfl (fun c3 => ?_) (fun c3 => ?_)
  · refine c_seq ?_; refine c_reg ?_; refine asg rfl rfl (asg rfl rfl ?_)
    refine o_nil ?_; refine x_seq ?_; refine c_ret ?_; refine x_seq_ret ?_; refine ret2 (.inr rfl) rfl rfl rfl ?_
    exact ⟨_, _, rfl, .inr ⟨c3, rfl, rfl⟩, (k_2).toExt⟩
  · have hG : FGood f := Classical.not_not.1 c3
    have h7 := hG.1.1.2.2.2.1
    have hu16 := hG.1.1.2.1
    have ho64 := hG.1.1.2.2.1
    have hsz := hG.1.1.2.2.2.2.1.sized
    have hkey : 0 ≤ f.key ∧ f.key < 4294967296 := hk
    refine c_skip ?_; refine x_seq ?_; refine c_seq ?_; refine c_reg ?_
    refine bld (vs := []) (v := .agg #[.slice none 0 0, .bool false]) rfl (fun _ => by kernel_rfl) rfl (bx rfl nofun rfl (fun h4 n4 => ?_))
    have hn1 := n1.size
    have z4 := n4.size
    have zx2 := x2.size
    have w4 : QT (fun k => k = h.size) h.size h4 h2.size 0 ([], false) := ⟨⟨_, ⟨n4.at_, Owns.nil _ _ _, fun e => by simp [ownB, Value.ownBlock] at e⟩, fun k e => by simp [ownB, Value.ownBlock] at e⟩, ⟨by omega, by omega⟩, fun k e => by omega, Nat.le_refl _⟩
    have s4 : h4.size = h2.size + 1 := n4.size
    have k_4 := k_2.ext n4.ext
    have b1_4 := n4.ext.get b1_2
    refine asg rfl rfl ?_; refine o_nil ?_; refine x_seq ?_; refine c_seq ?_; refine c_reg ?_
    refine mv rfl rfl (cl (vs := [ptr h2.size 0, str magic]) rfl ((QT.text (by assumption) (by omega) (by omega) _)) rfl (fun v5 h5 r5 => ?_))
    obtain ⟨w5, x5⟩ := r5
    have z5 := x5.size
    have k_5 := (k_4.mod x5 (fun _ e => e.1))
    have b1_5 := (x5.get b1_4 (fun e => e.2 rfl))
    refine o_nil ?_; refine x_seq ?_; refine c_seq ?_; refine c_reg ?_
    refine mv rfl rfl (fa rfl rfl (ld rfl (cell b1_5 rfl) rfl (cl (vs := [ptr h2.size 0, str f.name]) rfl ((QT.text (by assumption) (by omega) (by omega) _)) rfl (fun v6 h6 r6 => ?_))))
    obtain ⟨w6, x6⟩ := r6
    have z6 := x6.size
    have k_6 := (k_5.mod x6 (fun _ e => e.1))
    have b1_6 := (x6.get b1_5 (fun e => e.2 rfl))
    refine o_nil ?_; refine x_seq ?_; refine c_seq ?_; refine c_reg ?_
    refine mv rfl rfl (fa rfl rfl (ld rfl (cell b1_6 rfl) rfl (cl (vs := [ptr h2.size 0, .int .u32 f.key]) rfl ((QT.word (by assumption) (by omega) (by omega) (by assumption))) rfl (fun v7 h7 r7 => ?_))))
    obtain ⟨w7, x7⟩ := r7
    have z7 := x7.size
    have k_7 := (k_6.mod x7 (fun _ e => e.1))
    have b1_7 := (x7.get b1_6 (fun e => e.2 rfl))
    refine o_nil ?_; refine x_seq ?_; refine c_seq ?_; refine c_reg ?_
    refine mv rfl rfl (fa rfl rfl (ld rfl (cell b1_7 rfl) rfl (lnl rfl rfl (cl (vs := [ptr h2.size 0, i64 (f.uses.length : Nat)]) rfl ((QT.num (by assumption) (by omega) (by omega) _)) rfl (fun v8 h8 r8 => ?_)))))
    obtain ⟨w8, x8⟩ := r8
    have z8 := x8.size
    obtain ⟨S8, hS8⟩ : ∃ S, S = putAll [.text magic, .text f.name, .word f.key, .num f.uses.length] ([], false) := ⟨_, rfl⟩
    have w8' : QT (fun k => k = h.size) h.size h8 h2.size (0 + 66 + 66 + 66 + 66) S8 := by rw [hS8]; exact w8
    have k_8 := (k_7.mod x8 (fun _ e => e.1))
    have b1_8 := (x8.get b1_7 (fun e => e.2 rfl))
    refine o_nil ?_; refine x_seq ?_
    refine c_seq ?_; refine c_seq ?_; refine c_reg ?_; refine asg rfl rfl ?_; refine o_nil ?_; refine x_seq ?_; refine c_blk ?_
    refine c_loop (α := Nat × Heap) (fun z => [(1, ptr h.size 0), (4, ptr h2.size 0), (5, i64 (z.1 : Nat))]) (fun z => z.2)
      (fun z => (z.1 ≤ f.uses.length ∧ h8.size ≤ z.2.size) ∧ At h.size h z.2 ∧ z.2[h.size]? = some (.cells #[str f.name, .int .u32 f.key, .slice au f.uses.length cu, .slice at0 f.types.length ct0, .slice ao f.objs.length co] 27 (0, 0)) ∧ QT (fun k => k = h.size) h.size z.2 h2.size (264 + 132 * z.1) (putAll ((f.uses.take z.1).flatMap usedIts) S8)) (fun z => f.uses.length - z.1) (0, h8)
      ⟨⟨Nat.zero_le _, Nat.le_refl _⟩, k_8, b1_8, w8'⟩ ⟨rfl, rfl, rfl, trivial⟩ rfl (fun z hz => ?_)
    obtain ⟨i, g⟩ := z
    obtain ⟨⟨hi, hgg⟩, kl, hb1, wg⟩ := hz
    simp only at hi hgg kl hb1 wg
    change SC _ _ _ _ g
    refine c_seq ?_; refine c_seq ?_; refine c_reg ?_; refine mv rfl rfl (fa rfl rfl (ld rfl (cell hb1 rfl) rfl (lnl rfl rfl (lti rfl rfl rfl ?_))))
    refine o_nil ?_; refine x_seq ?_; refine c_cond rfl (fun c9 => ?_) (fun c9 => ?_)
    · have hlt : i < f.uses.length := by have := c9; simp only at this; omega
      obtain ⟨u, hux⟩ : ∃ u, f.uses[i]? = some u := ⟨_, List.getElem?_eq_getElem hlt⟩
      have htk := flat_take hux usedIts
      obtain ⟨b2, o2, cs2, ha2, hb2, hl2, hr2, hR2⟩ := SliceAt.el hU0 kl hux
      subst ha2
      obtain ⟨rfl, -, hku⟩ := hR2
      have hku : 0 ≤ u.key ∧ u.key < 4294967296 := hku
      refine c_skip ?_; refine x_seq ?_
      refine c_seq ?_; refine c_blk ?_; refine c_seq ?_; refine c_reg ?_
      refine mv rfl rfl (fa rfl rfl (ld rfl (cell hb1 rfl) rfl (mv rfl rfl (ixs rfl rfl (by omega) rfl (fa rfl rfl (ld rfl (hr2 0 _ rfl) rfl (cl (vs := [ptr h2.size 0, str u.name]) rfl ((QT.text (by assumption) (by omega) (by omega) _)) rfl (fun v10 h10 r10 => ?_))))))))
      obtain ⟨w10, x10⟩ := r10
      have z10 := x10.size
      have hr10 := x10.row hr2 (fun e => by omega)
      have k_10 := (kl.mod x10 (fun _ e => e.1))
      have hb1_10 := (x10.get hb1 (fun e => e.2 rfl))
      refine o_nil ?_; refine x_seq ?_; refine c_reg ?_
      refine mv rfl rfl (fa rfl rfl (ld rfl (cell hb1_10 rfl) rfl (mv rfl rfl (ixs rfl rfl (by omega) rfl (fa rfl rfl (ld rfl (hr10 1 _ rfl) rfl (cl (vs := [ptr h2.size 0, .int .u32 u.key]) rfl ((QT.word (by assumption) (by omega) (by omega) (by assumption))) rfl (fun v11 h11 r11 => ?_))))))))
      obtain ⟨w11, x11⟩ := r11
      have z11 := x11.size
      have k_11 := (k_10.mod x11 (fun _ e => e.1))
      have hb1_11 := (x11.get hb1_10 (fun e => e.2 rfl))
      refine o_nil ?_; refine x_blk ?_; refine x_seq ?_; refine c_reg ?_; refine mv rfl rfl (add rfl rfl (by omega) rfl (asg rfl rfl ?_))
      refine o_nil ?_
      refine x_loop (i + 1, h11) ⟨⟨hlt, by simp only; omega⟩, k_11, hb1_11, ?_⟩ (by simp only; omega) ⟨rfl, rfl, rfl, trivial⟩ rfl
      simp only
      rw [htk, putAll_append]
      exact w11.le (by omega)
    · have hin : i = f.uses.length := by have := c9; simp only at this; omega
      subst hin
      rw [List.take_length] at wg
      refine c_exit ?_; refine x_seq_exit ?_; refine x_loop_exit ?_; refine x_blk_hit ?_; refine x_seq ?_; refine c_seq ?_; refine c_reg ?_
      refine mv rfl rfl (fa rfl rfl (ld rfl (cell hb1 rfl) rfl (lnl rfl rfl (sub rfl rfl (by omega) rfl (cl (vs := [ptr h2.size 0, i64 ((f.types.length : Int) - 7)]) rfl ((QT.num (by assumption) (by omega) (by omega) _)) rfl (fun v12 h12 r12 => ?_))))))
      obtain ⟨w12, x12⟩ := r12
      have z12 := x12.size
      obtain ⟨S12, hS12⟩ : ∃ S, S = putIt (.num ((f.types.length : Int) - 7)) (putAll (f.uses.flatMap usedIts) S8) := ⟨_, rfl⟩
      rw [← hS12] at w12
      have k_12 := (kl.mod x12 (fun _ e => e.1))
      have hb1_12 := (x12.get hb1 (fun e => e.2 rfl))
      refine o_nil ?_; refine x_seq ?_
      refine c_seq ?_; refine c_seq ?_; refine c_reg ?_; refine asg rfl rfl ?_; refine o_nil ?_; refine x_seq ?_; refine c_blk ?_
      refine c_loop (α := Nat × Heap) (fun z => [(1, ptr h.size 0), (4, ptr h2.size 0), (6, i64 ((7 + z.1 : Nat) : Int))]) (fun z => z.2)
        (fun z => (z.1 ≤ f.types.length - 7 ∧ h8.size ≤ z.2.size) ∧ At h.size h z.2 ∧ z.2[h.size]? = some (.cells #[str f.name, .int .u32 f.key, .slice au f.uses.length cu, .slice at0 f.types.length ct0, .slice ao f.objs.length co] 27 (0, 0)) ∧ QT (fun k => k = h.size) h.size z.2 h2.size (3000 + 21780 * z.1) (putAll (((f.types.drop 7).take z.1).flatMap tyIts) S12)) (fun z => f.types.length - 7 - z.1) (0, h12)
        ⟨⟨Nat.zero_le _, by simp only; omega⟩, k_12, hb1_12, w12.le (by omega)⟩ ⟨rfl, rfl, rfl, trivial⟩ rfl (fun z hz => ?_)
      obtain ⟨i, g2_⟩ := z
      obtain ⟨⟨hi2, hgg2⟩, kl2, hb1, wg2⟩ := hz
      simp only at hi2 hgg2 kl2 hb1 wg2
      change SC _ _ _ _ g2_
      refine c_seq ?_; refine c_seq ?_; refine c_reg ?_; refine mv rfl rfl (fa rfl rfl (ld rfl (cell hb1 rfl) rfl (lnl rfl rfl (lti rfl rfl rfl ?_))))
      refine o_nil ?_; refine x_seq ?_; refine c_cond rfl (fun c13 => ?_) (fun c13 => ?_)
      · have hlt : i < f.types.length - 7 := by have := c13; simp only at this; omega
        obtain ⟨x, hxx⟩ : ∃ x, f.types[7 + i]? = some x := ⟨_, List.getElem?_eq_getElem (by omega)⟩
        have hxd : (f.types.drop 7)[i]? = some x := by rw [List.getElem?_drop]; exact hxx
        have hxs := hsz x (List.mem_of_getElem? hxx)
        have htk := flat_take hxd tyIts
        obtain ⟨b2, o2, cs2, ha2, hb2, hl2, hr2, hR2⟩ := SliceAt.el hT0 kl2 hxx
        subst ha2
        have hX : TyV h.size h (.agg cs2.toArray) x := ⟨cs2, rfl, hR2⟩
        obtain ⟨-, vf2, vp2, rfl, hf2, hp2⟩ := hR2
        obtain ⟨_, _, rfl⟩ := hf2.form
        obtain ⟨_, _, rfl⟩ := hp2.form
        refine c_skip ?_; refine x_seq ?_
        refine c_seq ?_; refine c_blk ?_; refine c_reg ?_
        refine mv rfl rfl (fa rfl rfl (ld rfl (cell hb1 rfl) rfl (mv rfl rfl (ixs rfl rfl (by omega) rfl (ldn rfl rfl hr2 rfl (cl (vs := [ptr h2.size 0, .agg (tyCells x _ _).toArray]) rfl ((typ_fn (by assumption) hX kl2 hxs (by omega))) rfl (fun v14 h14 r14 => ?_)))))))
        obtain ⟨w14, x14⟩ := r14
        have z14 := x14.size
        have k_14 := (kl2.mod x14 (fun _ e => e.1))
        have hb1_14 := (x14.get hb1 (fun e => e.2 rfl))
        refine o_nil ?_; refine x_blk ?_; refine x_seq ?_; refine c_reg ?_; refine mv rfl rfl (add rfl rfl (by omega) rfl (asg rfl rfl ?_))
        refine o_nil ?_
        refine x_loop (i + 1, h14) ⟨⟨hlt, by simp only; omega⟩, k_14, hb1_14, ?_⟩ (by simp only; omega) ⟨rfl, rfl, rfl, trivial⟩ rfl
        simp only
        rw [htk, putAll_append]
        exact w14.le (by omega)
      · have hin : i = f.types.length - 7 := by have := c13; simp only at this; omega
        subst hin
        rw [List.take_of_length_le (by rw [List.length_drop]; omega)] at wg2
        refine c_exit ?_; refine x_seq_exit ?_; refine x_loop_exit ?_; refine x_blk_hit ?_; refine x_seq ?_; refine c_seq ?_; refine c_reg ?_
        refine mv rfl rfl (fa rfl rfl (ld rfl (cell hb1 rfl) rfl (lnl rfl rfl (cl (vs := [ptr h2.size 0, i64 (f.objs.length : Nat)]) rfl ((QT.num (by assumption) (by omega) (by omega) _)) rfl (fun v15 h15 r15 => ?_)))))
        obtain ⟨w15, x15⟩ := r15
        have z15 := x15.size
        obtain ⟨S15, hS15⟩ : ∃ S, S = putIt (.num f.objs.length) (putAll ((f.types.drop 7).flatMap tyIts) S12) := ⟨_, rfl⟩
        rw [← hS15] at w15
        have k_15 := (kl2.mod x15 (fun _ e => e.1))
        have hb1_15 := (x15.get hb1 (fun e => e.2 rfl))
        refine o_nil ?_; refine x_seq ?_
        refine c_seq ?_; refine c_seq ?_; refine c_reg ?_; refine asg rfl rfl ?_; refine o_nil ?_; refine x_seq ?_; refine c_blk ?_
        refine c_loop (α := Nat × Heap) (fun z => [(1, ptr h.size 0), (4, ptr h2.size 0), (7, i64 (z.1 : Nat))]) (fun z => z.2)
          (fun z => (z.1 ≤ f.objs.length ∧ h8.size ≤ z.2.size) ∧ At h.size h z.2 ∧ z.2[h.size]? = some (.cells #[str f.name, .int .u32 f.key, .slice au f.uses.length cu, .slice at0 f.types.length ct0, .slice ao f.objs.length co] 27 (0, 0)) ∧ QT (fun k => k = h.size) h.size z.2 h2.size (6000000 + 462 * z.1) (putAll ((f.objs.take z.1).flatMap obIts) S15)) (fun z => f.objs.length - z.1) (0, h15)
          ⟨⟨Nat.zero_le _, by simp only; omega⟩, k_15, hb1_15, w15.le (by omega)⟩ ⟨rfl, rfl, rfl, trivial⟩ rfl (fun z hz => ?_)
        obtain ⟨i, g3_⟩ := z
        obtain ⟨⟨hi3, hgg3⟩, kl3, hb1, wg3⟩ := hz
        simp only at hi3 hgg3 kl3 hb1 wg3
        change SC _ _ _ _ g3_
        refine c_seq ?_; refine c_seq ?_; refine c_reg ?_
        refine mv rfl rfl (fa rfl rfl (ld rfl (cell hb1 rfl) rfl (lnl rfl rfl (lti rfl rfl rfl ?_))))
        refine o_nil ?_; refine x_seq ?_; refine c_cond rfl (fun c16 => ?_) (fun c16 => ?_)
        · have hlt : i < f.objs.length := by have := c16; simp only at this; omega
          obtain ⟨o, hox⟩ : ∃ o, f.objs[i]? = some o := ⟨_, List.getElem?_eq_getElem hlt⟩
          have htk := flat_take hox obIts
          obtain ⟨b2, o2, cs2, ha2, hb2, hl2, hr2, hR2⟩ := SliceAt.el hO0 kl3 hox
          subst ha2
          obtain ⟨rfl, -⟩ := hR2
          refine c_skip ?_; refine x_seq ?_
          refine c_seq ?_; refine c_blk ?_; refine c_seq ?_; refine c_reg ?_
          refine fa rfl rfl (ld rfl (cell hb1 rfl) rfl (mv rfl rfl (ixs rfl rfl (by omega) rfl (ldn rfl rfl hr2 rfl (alc nofun rfl (fun h17 n17 => ?_))))))
          have s17 : h17.size = g3_.size + 1 := n17.size
          have k_17 := kl3.ext n17.ext
          have hb1_17 := n17.ext.get hb1
          have b8_17 := n17.at_
          refine stw rfl rfl rfl (ones rfl) b8_17 rfl nofun (fun h18 u18 => ?_)
          have w18 := (wg3.new n17).mod u18.mod (fun k e => .inr e)
          have s18 : h18.size = h17.size := u18.size
          have k_18 := k_17.upd u18 (by omega)
          have hb1_18 := u18.ne hb1_17 (by omega)
          have b8_18 := u18.at_
          refine o_nil ?_; refine x_seq ?_; refine c_seq ?_; refine c_reg ?_
          refine mv rfl rfl (fa rfl rfl (ld rfl (cell b8_18 rfl) rfl (cl (vs := [ptr h2.size 0, i64 o.cls]) rfl ((QT.byte (by assumption) (by omega) (by omega) _)) rfl (fun v19 h19 r19 => ?_))))
          obtain ⟨w19, x19⟩ := r19
          have z19 := x19.size
          have k_19 := (k_18.mod x19 (fun _ e => e.1))
          have hb1_19 := (x19.get hb1_18 (fun e => e.2 (by first | exact .inl rfl | exact .inr rfl)))
          have b8_19 := (x19.get b8_18 (fun e => e.2 (by first | exact .inl rfl | exact .inr rfl)))
          refine o_nil ?_; refine x_seq ?_; refine c_seq ?_; refine c_reg ?_
          refine mv rfl rfl (fa rfl rfl (ld rfl (cell b8_19 rfl) rfl (cl (vs := [ptr h2.size 0, str o.name]) rfl ((QT.text (by assumption) (by omega) (by omega) _)) rfl (fun v20 h20 r20 => ?_))))
          obtain ⟨w20, x20⟩ := r20
          have z20 := x20.size
          have k_20 := (k_19.mod x20 (fun _ e => e.1))
          have hb1_20 := (x20.get hb1_19 (fun e => e.2 (by first | exact .inl rfl | exact .inr rfl)))
          have b8_20 := (x20.get b8_19 (fun e => e.2 (by first | exact .inl rfl | exact .inr rfl)))
          refine o_nil ?_; refine x_seq ?_; refine c_seq ?_; refine c_reg ?_
          refine mv rfl rfl (fa rfl rfl (ld rfl (cell b8_20 rfl) rfl (cl (vs := [ptr h2.size 0, i64 o.type]) rfl ((QT.num (by assumption) (by omega) (by omega) _)) rfl (fun v21 h21 r21 => ?_))))
          obtain ⟨w21, x21⟩ := r21
          have z21 := x21.size
          have k_21 := (k_20.mod x21 (fun _ e => e.1))
          have hb1_21 := (x21.get hb1_20 (fun e => e.2 (by first | exact .inl rfl | exact .inr rfl)))
          have b8_21 := (x21.get b8_20 (fun e => e.2 (by first | exact .inl rfl | exact .inr rfl)))
          refine o_nil ?_; refine x_seq ?_; refine c_seq ?_; refine c_reg ?_
          refine mv rfl rfl (fa rfl rfl (fa rfl rfl (ld rfl (cell b8_21 rfl) rfl (cl (vs := [ptr h2.size 0, i64 o.val.form]) rfl ((QT.byte (by assumption) (by omega) (by omega) _)) rfl (fun v22 h22 r22 => ?_)))))
          obtain ⟨w22, x22⟩ := r22
          have z22 := x22.size
          have k_22 := (k_21.mod x22 (fun _ e => e.1))
          have hb1_22 := (x22.get hb1_21 (fun e => e.2 (by first | exact .inl rfl | exact .inr rfl)))
          have b8_22 := (x22.get b8_21 (fun e => e.2 (by first | exact .inl rfl | exact .inr rfl)))
          refine o_nil ?_; refine x_seq ?_; refine c_seq ?_; refine c_reg ?_
          refine mv rfl rfl (fa rfl rfl (ldn rfl rfl (row_part b8_22 (val_part o)) rfl (clE ((rnumber_fn o.val _)) rfl rfl (fun h23 x23 => ?_))))
          have w23 := w22.mod x23 (fun k e => e.elim)
          have s23 : h22.size ≤ h23.size := x23.size
          have k_23 := k_22.ext x23
          have hb1_23 := x23.get hb1_22
          have b8_23 := x23.get b8_22
          refine cl (vs := [ptr h2.size 0, i64 (numV o.val)]) rfl ((QT.num (by assumption) (by omega) (by omega) _)) rfl (fun v24 h24 r24 => ?_)
          obtain ⟨w24, x24⟩ := r24
          have z24 := x24.size
          have k_24 := (k_23.mod x24 (fun _ e => e.1))
          have hb1_24 := (x24.get hb1_23 (fun e => e.2 (by first | exact .inl rfl | exact .inr rfl)))
          have b8_24 := (x24.get b8_23 (fun e => e.2 (by first | exact .inl rfl | exact .inr rfl)))
          refine o_nil ?_; refine x_seq ?_; refine c_seq ?_; refine c_reg ?_
          refine mv rfl rfl (fa rfl rfl (fa rfl rfl (ld rfl (cell b8_24 rfl) rfl (cl (vs := [ptr h2.size 0, str o.val.text]) rfl ((QT.text (by assumption) (by omega) (by omega) _)) rfl (fun v25 h25 r25 => ?_)))))
          obtain ⟨w25, x25⟩ := r25
          have z25 := x25.size
          have k_25 := (k_24.mod x25 (fun _ e => e.1))
          have hb1_25 := (x25.get hb1_24 (fun e => e.2 (by first | exact .inl rfl | exact .inr rfl)))
          have b8_25 := (x25.get b8_24 (fun e => e.2 (by first | exact .inl rfl | exact .inr rfl)))
          refine o_nil ?_; refine x_seq ?_; refine c_reg ?_
          refine mv rfl rfl (fa rfl rfl (ld rfl (cell b8_25 rfl) rfl (cl (vs := [ptr h2.size 0, i64 o.n]) rfl ((QT.num (by assumption) (by omega) (by omega) _)) rfl (fun v26 h26 r26 => ?_))))
          obtain ⟨w26, x26⟩ := r26
          have z26 := x26.size
          have k_26 := (k_25.mod x26 (fun _ e => e.1))
          have hb1_26 := (x26.get hb1_25 (fun e => e.2 (by first | exact .inl rfl | exact .inr rfl)))
          have b8_26 := (x26.get b8_25 (fun e => e.2 (by first | exact .inl rfl | exact .inr rfl)))
          refine o_nil ?_; refine x_blk ?_; refine x_seq ?_; refine c_reg ?_; refine mv rfl rfl (add rfl rfl (by omega) rfl (asg rfl rfl ?_))
          refine o_nil ?_
          refine x_loop (i + 1, h26) ⟨⟨hlt, by simp only; omega⟩, k_26, hb1_26, ?_⟩ (by simp only; omega) ⟨rfl, rfl, rfl, trivial⟩ rfl
          simp only
          rw [htk, putAll_append]
          exact (w26.less (fun k e => .inl e)).le (by omega)
        · have hin : i = f.objs.length := by have := c16; simp only at this; omega
          subst hin
          rw [List.take_length] at wg3
          refine c_exit ?_; refine x_seq_exit ?_; refine x_loop_exit ?_; refine x_blk_hit ?_; refine x_seq ?_; refine c_seq ?_; refine c_reg ?_
          refine mv rfl rfl (clp ((QT.bytes wg3)) rfl rfl (ext rfl rfl rfl (ext rfl rfl rfl (asg rfl rfl (asg rfl rfl ?_)))))
          refine o_nil ?_; refine x_seq ?_; refine c_ret ?_; refine ret2 (.inr rfl) rfl rfl rfl ?_
          refine ⟨_, _, rfl, .inl ⟨hG, ?_, ?_⟩, (kl3).toExt⟩
          · unfold faceIts
            rw [putAll_append, putAll_append, putAll_cons, putAll_append, putAll_cons, ← hS8, ← hS12, ← hS15]
          · unfold faceIts
            rw [putAll_append, putAll_append, putAll_cons, putAll_append, putAll_cons, ← hS8, ← hS12, ← hS15]
end Go.Proofs.Ytgnkfegkdjfnjaa
