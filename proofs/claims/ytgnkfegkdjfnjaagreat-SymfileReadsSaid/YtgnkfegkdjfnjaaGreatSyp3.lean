/- The walk of what writes an interface. No condition but what each theorem says. -/
import Derived.Test.YtgnkfegkdjfnjaaGreatSyp2
namespace Go.Proofs.YtgnkfegkdjfnjaaGreat
open Go Go.Eng

theorem WT.bytes {Z : Nat → Prop} {N : Nat} {h : Heap} {p : Nat} {st : St} (a : WT Z N h p st) : Does Tryz.prog 42 [ptr p 0] h (fun v h' => h' = h ∧ v = .tuple #[str (outB st), i64 (outE st)]) := by
  obtain ⟨vb, w, -⟩ := a.w
  exact R.Bytes_fn w
theorem flat_take {α : Type} {l : List α} {i : Nat} {x : α} (h : l[i]? = some x) (g : α → List It) : (l.take (i + 1)).flatMap g = (l.take i).flatMap g ++ g x := by rw [List.take_add_one, h, List.flatMap_append]; simp
/-- the types' slice is no shorter than its capacity -/
def CapT (fv : Value) (f : Face) : Prop := ∀ au cu at' ct ao co, fv = faceC f au cu at' ct ao co → f.types.length ≤ ct
set_option maxHeartbeats 4000000 in
theorem encode_fn {h : Heap} {fv : Value} {f : Face} (hF : FaceV h.size h fv f) (hc : CapT fv f) : Does Tryz.prog 8 [fv] h (fun v h' => ∃ s e, v = .tuple #[str s, i64 e] ∧ EncR f s e ∧ Ext h h') := by
  have hmx : maxLen = 9223372036854775807 := by decide
  have k0 : At h.size h h := At.refl (Nat.le_refl _)
  have hF0 := hF
  obtain ⟨vu, vt, vo, rfl, hn, hk, hU, hT, hO⟩ := hF
  have hU0 := hU
  have hT0 := hT
  have hO0 := hO
  have lU := hU.1
  have lT := hT.1
  have lO := hO.1
  obtain ⟨au, cu, rfl⟩ := hU.form
  obtain ⟨at0, ct0, rfl⟩ := SliceAt.form hT
  obtain ⟨ao, co, rfl⟩ := hO.form
  have hcap := hc _ _ _ _ _ _ rfl
  have g1 : in64 (f.uses.length : Int) := by unfold in64; omega
  have g2 : in64 ((f.types.length - 7 : Nat) : Int) := by unfold in64; omega
  have g3 : in64 (f.objs.length : Int) := by unfold in64; omega
  refine fn_enter (N := 112) Tryz.func8 (by kernel_rfl) rfl rfl rfl (fun w0 => ?_)
  refine c_seq ?_; refine c_reg ?_; refine bx rfl nofun rfl (fun h1 n1 => ?_)
  have s1 : h1.size = h.size + 1 := n1.size
  have k_1 := k0.ext n1.ext
  have b1_1 := n1.at_
  refine asg rfl rfl (asg rfl rfl ?_)
  refine o_nil ?_; refine x_seq ?_
  refine c_seq ?_; refine c_seq ?_; refine c_reg ?_
  refine ldn rfl rfl (row_blk b1_1) rfl (clE ((fgood_fn (FaceV.up hF0 k_1))) rfl rfl (fun h2 x2 => ?_))
  have s2 : h1.size ≤ h2.size := x2.size
  have k_2 := k_1.ext x2
  have b1_2 := x2.get b1_1
  refine nt rfl rfl ?_; refine o_nil ?_; refine x_seq ?_; refine c_cond rfl (fun c3 => ?_) (fun c3 => ?_)
  · refine c_seq ?_; refine c_reg ?_; refine asg rfl rfl (asg rfl rfl ?_)
    refine o_nil ?_; refine x_seq ?_; refine c_ret ?_; refine x_seq_ret ?_; refine ret2 (.inr rfl) rfl rfl rfl ?_
    exact ⟨_, _, rfl, .inr ⟨c3, rfl, rfl⟩, (k_2).toExt⟩
  · have hG : FGood f := Classical.not_not.1 c3
    have h7 := hG.1.1.2.2.2.1.1
    refine c_skip ?_; refine x_seq ?_; refine c_seq ?_; refine c_reg ?_; refine cl (vs := []) rfl ((R.Write_fn _)) rfl (fun v4 h4 r4 => ?_)
    obtain ⟨rfl, W4, x4⟩ := r4
    have z4 := x4.size
    have hn1 := n1.size
    have w4 : WT (fun k => k = h.size) h.size h4 h2.size ([], false) := ⟨⟨_, W4, fun k e => by simp [ownB, Value.ownBlock] at e⟩, ⟨by omega, by omega⟩, fun k e => by omega⟩
    have k_4 := (k_2.ext x4)
    have b1_4 := (x4.get b1_2)
    refine asg rfl rfl ?_; refine o_nil ?_; refine x_seq ?_; refine c_seq ?_; refine c_reg ?_
    refine mv rfl rfl (cl (vs := [ptr h2.size 0, str magic]) rfl ((WT.text (by assumption) (by omega) _)) rfl (fun v5 h5 r5 => ?_))
    obtain ⟨w5, x5⟩ := r5
    have z5 := x5.size
    have k_5 := (k_4.mod x5 (fun _ e => e.1))
    have b1_5 := (x5.get b1_4 (fun e => e.2 rfl))
    refine o_nil ?_; refine x_seq ?_; refine c_seq ?_; refine c_reg ?_
    refine mv rfl rfl (fa rfl rfl (ld rfl (cell b1_5 rfl) rfl (cl (vs := [ptr h2.size 0, str f.name]) rfl ((WT.text (by assumption) (by omega) _)) rfl (fun v6 h6 r6 => ?_))))
    obtain ⟨w6, x6⟩ := r6
    have z6 := x6.size
    have k_6 := (k_5.mod x6 (fun _ e => e.1))
    have b1_6 := (x6.get b1_5 (fun e => e.2 rfl))
    refine o_nil ?_; refine x_seq ?_; refine c_seq ?_; refine c_reg ?_
    refine mv rfl rfl (fa rfl rfl (ld rfl (cell b1_6 rfl) rfl (cl (vs := [ptr h2.size 0, .int .u32 f.key]) rfl ((WT.word (by assumption) (by omega) _)) rfl (fun v7 h7 r7 => ?_))))
    obtain ⟨w7, x7⟩ := r7
    have z7 := x7.size
    have k_7 := (k_6.mod x7 (fun _ e => e.1))
    have b1_7 := (x7.get b1_6 (fun e => e.2 rfl))
    refine o_nil ?_; refine x_seq ?_; refine c_seq ?_; refine c_reg ?_
    refine mv rfl rfl (fa rfl rfl (ld rfl (cell b1_7 rfl) rfl (lnl rfl rfl (cl (vs := [ptr h2.size 0, i64 (f.uses.length : Nat)]) rfl ((WT.num (by assumption) (by omega) (by assumption))) rfl (fun v8 h8 r8 => ?_)))))
    obtain ⟨w8, x8⟩ := r8
    have z8 := x8.size
    obtain ⟨S8, hS8⟩ : ∃ S, S = putAll [.text magic, .text f.name, .word f.key, .num f.uses.length] ([], false) := ⟨_, rfl⟩
    have w8' : WT (fun k => k = h.size) h.size h8 h2.size S8 := by rw [hS8]; exact w8
    have k_8 := (k_7.mod x8 (fun _ e => e.1))
    have b1_8 := (x8.get b1_7 (fun e => e.2 rfl))
    refine o_nil ?_; refine x_seq ?_
    refine c_seq ?_; refine c_seq ?_; refine c_reg ?_; refine fa rfl rfl (ld rfl (cell b1_8 rfl) rfl (lnl rfl rfl (mv rfl rfl ?_)))
    refine o_nil ?_; refine x_seq ?_; refine c_blk ?_
    refine c_loop (α := Nat × Heap) (fun z => [(1, ptr h.size 0), (4, ptr h2.size 0), (32, .slice au f.uses.length cu), (33, i64 (f.uses.length : Nat)), (34, i64 (z.1 : Nat))]) (fun z => z.2)
      (fun z => (z.1 ≤ f.uses.length ∧ h8.size ≤ z.2.size) ∧ At h.size h z.2 ∧ z.2[h.size]? = some (.cells #[str f.name, .int .u32 f.key, .slice au f.uses.length cu, .slice at0 f.types.length ct0, .slice ao f.objs.length co] 28 (0, 0)) ∧ WT (fun k => k = h.size) h.size z.2 h2.size (putAll ((f.uses.take z.1).flatMap usedIts) S8)) (fun z => f.uses.length - z.1) (0, h8)
      ⟨⟨Nat.zero_le _, Nat.le_refl _⟩, k_8, b1_8, w8'⟩ ⟨rfl, rfl, rfl, rfl, rfl, trivial⟩ rfl (fun z hz => ?_)
    obtain ⟨i, g⟩ := z
    obtain ⟨⟨hi, hgg⟩, kl, hb1, wg⟩ := hz
    simp only at hi hgg kl hb1 wg
    change SC _ _ _ _ g
    refine c_seq ?_; refine c_reg ?_; refine lti rfl rfl rfl ?_; refine o_nil ?_; refine x_seq ?_
    refine c_seq ?_; refine c_cond rfl (fun c9 => ?_) (fun c9 => ?_)
    · have hlt : i < f.uses.length := by have := c9; simp only at this; omega
      obtain ⟨u, hux⟩ : ∃ u, f.uses[i]? = some u := ⟨_, List.getElem?_eq_getElem hlt⟩
      have htk := flat_take hux usedIts
      obtain ⟨b2, o2, cs2, ha2, hb2, hl2, hr2, hR2⟩ := SliceAt.el hU0 kl hux
      subst ha2
      obtain ⟨rfl, -⟩ := hR2
      refine c_skip ?_; refine x_seq ?_
      refine c_seq ?_; refine c_blk ?_; refine c_seq ?_; refine c_reg ?_
      refine ixs rfl rfl (by omega) rfl (ldn rfl rfl hr2 rfl (alc nofun rfl (fun h10 n10 => ?_)))
      have s10 : h10.size = g.size + 1 := n10.size
      have k_10 := kl.ext n10.ext
      have hb1_10 := n10.ext.get hb1
      have b6_10 := n10.at_
      refine stw rfl rfl rfl (ones rfl) b6_10 rfl nofun (fun h11 u11 => ?_)
      have w11 := (wg.new n10).mod u11.mod (fun k e => .inr e)
      have s11 : h11.size = h10.size := u11.size
      have k_11 := k_10.upd u11 (by omega)
      have hb1_11 := u11.ne hb1_10 (by omega)
      have b6_11 := u11.at_
      refine o_nil ?_; refine x_seq ?_; refine c_seq ?_; refine c_reg ?_
      refine mv rfl rfl (fa rfl rfl (ld rfl (cell b6_11 rfl) rfl (cl (vs := [ptr h2.size 0, str u.name]) rfl ((WT.text (by assumption) (by omega) _)) rfl (fun v12 h12 r12 => ?_))))
      obtain ⟨w12, x12⟩ := r12
      have z12 := x12.size
      have k_12 := (k_11.mod x12 (fun _ e => e.1))
      have hb1_12 := (x12.get hb1_11 (fun e => e.2 (by first | exact .inl rfl | exact .inr rfl)))
      have b6_12 := (x12.get b6_11 (fun e => e.2 (by first | exact .inl rfl | exact .inr rfl)))
      refine o_nil ?_; refine x_seq ?_; refine c_reg ?_
      refine mv rfl rfl (fa rfl rfl (ld rfl (cell b6_12 rfl) rfl (cl (vs := [ptr h2.size 0, .int .u32 u.key]) rfl ((WT.word (by assumption) (by omega) _)) rfl (fun v13 h13 r13 => ?_))))
      obtain ⟨w13, x13⟩ := r13
      have z13 := x13.size
      have k_13 := (k_12.mod x13 (fun _ e => e.1))
      have hb1_13 := (x13.get hb1_12 (fun e => e.2 (by first | exact .inl rfl | exact .inr rfl)))
      have b6_13 := (x13.get b6_12 (fun e => e.2 (by first | exact .inl rfl | exact .inr rfl)))
      refine o_nil ?_; refine x_blk ?_; refine x_seq ?_; refine c_reg ?_; refine add rfl rfl (by omega) rfl (mv rfl rfl ?_)
      refine o_nil ?_
      refine x_loop (i + 1, h13) ⟨⟨hlt, by simp only; omega⟩, k_13, hb1_13, ?_⟩ (by simp only; omega) ⟨rfl, rfl, rfl, rfl, rfl, trivial⟩ rfl
      simp only
      rw [htk, putAll_append]
      exact w13.less (fun k e => .inl e)
    · have hin : i = f.uses.length := by have := c9; simp only at this; omega
      subst hin
      rw [List.take_length] at wg
      obtain ⟨bt, ot, cst, eat, -⟩ := SliceAt.el hT0 kl (i := 0) (x := f.types[0]'(by omega)) (List.getElem?_eq_getElem _)
      subst eat
      have e7 : ((f.types.length - 7 : Nat) : Int) = (f.types.length : Int) - 7 := by omega
      refine c_exit ?_; refine x_seq_exit ?_; refine x_loop_exit ?_; refine x_blk_hit ?_; refine x_seq ?_; refine c_seq ?_; refine c_reg ?_
      refine fa rfl rfl (ld rfl (cell hb1 rfl) rfl (slf_slice rfl rfl (by omega) rfl (fun q14 qe14 => ?_)))
      refine asg rfl rfl ?_; refine o_nil ?_; refine x_seq ?_; refine c_seq ?_; refine c_reg ?_
      refine mv rfl rfl (mv rfl rfl (lnl rfl rfl (cl (vs := [ptr h2.size 0, i64 ((f.types.length - 7 : Nat) : Int)]) rfl ((WT.num (by assumption) (by omega) (by assumption))) rfl (fun v15 h15 r15 => ?_))))
      obtain ⟨w15, x15⟩ := r15
      have z15 := x15.size
      obtain ⟨S15, hS15⟩ : ∃ S, S = putIt (.num ((f.types.length - 7 : Nat) : Int)) (putAll (f.uses.flatMap usedIts) S8) := ⟨_, rfl⟩
      rw [← hS15] at w15
      have k_15 := (kl.mod x15 (fun _ e => e.1))
      have hb1_15 := (x15.get hb1 (fun e => e.2 rfl))
      refine o_nil ?_; refine x_seq ?_
      refine c_seq ?_; refine c_seq ?_; refine c_reg ?_; refine mv rfl rfl (lnl rfl rfl (mv rfl rfl ?_))
      refine o_nil ?_; refine x_seq ?_; refine c_blk ?_
      refine c_loop (α := Nat × Heap) (fun z => [(1, ptr h.size 0), (4, ptr h2.size 0), (54, .slice (some ⟨bt, q14, none⟩) (f.types.length - 7) (ct0 - 7)), (55, i64 ((f.types.length - 7 : Nat) : Int)), (56, i64 (z.1 : Nat))]) (fun z => z.2)
        (fun z => (z.1 ≤ f.types.length - 7 ∧ h8.size ≤ z.2.size) ∧ At h.size h z.2 ∧ z.2[h.size]? = some (.cells #[str f.name, .int .u32 f.key, .slice au f.uses.length cu, .slice (some ⟨bt, ot, none⟩) f.types.length ct0, .slice ao f.objs.length co] 28 (0, 0)) ∧ WT (fun k => k = h.size) h.size z.2 h2.size (putAll (((f.types.drop 7).take z.1).flatMap tyIts) S15)) (fun z => f.types.length - 7 - z.1) (0, h15)
        ⟨⟨Nat.zero_le _, by simp only; omega⟩, k_15, hb1_15, w15⟩ ⟨rfl, rfl, rfl, rfl, rfl, trivial⟩ rfl (fun z hz => ?_)
      obtain ⟨i, g2_⟩ := z
      obtain ⟨⟨hi2, hgg2⟩, kl2, hb1, wg2⟩ := hz
      simp only at hi2 hgg2 kl2 hb1 wg2
      change SC _ _ _ _ g2_
      refine c_seq ?_; refine c_reg ?_; refine lti rfl rfl rfl ?_; refine o_nil ?_; refine x_seq ?_
      refine c_seq ?_; refine c_cond rfl (fun c16 => ?_) (fun c16 => ?_)
      · have hlt : i < f.types.length - 7 := by have := c16; simp only at this; omega
        obtain ⟨x, hxx⟩ : ∃ x, f.types[7 + i]? = some x := ⟨_, List.getElem?_eq_getElem (by omega)⟩
        have hxd : (f.types.drop 7)[i]? = some x := by rw [List.getElem?_drop]; exact hxx
        have htk := flat_take hxd tyIts
        obtain ⟨b2, o2, cs2, ha2, hb2, hl2, hr2, hR2⟩ := SliceAt.el hT0 kl2 hxx
        cases ha2
        have hX : TyV h.size h (.agg cs2.toArray) x := ⟨cs2, rfl, hR2⟩
        obtain ⟨-, vf2, vp2, rfl, hf2, hp2⟩ := hR2
        obtain ⟨_, _, rfl⟩ := hf2.form
        obtain ⟨_, _, rfl⟩ := hp2.form
        have hq14 : q14 + ((i : Nat) : Int).toNat * 10 = ot + (7 + i) * 10 := by have := qe14 (by omega); omega
        rw [← hq14] at hr2
        refine c_skip ?_; refine x_seq ?_
        refine c_seq ?_; refine c_blk ?_; refine c_seq ?_; refine c_reg ?_
        refine ixs rfl rfl (by omega) rfl (ldn rfl rfl hr2 rfl (alc nofun rfl (fun h17 n17 => ?_)))
        have s17 : h17.size = g2_.size + 1 := n17.size
        have k_17 := kl2.ext n17.ext
        have hb1_17 := n17.ext.get hb1
        have b9_17 := n17.at_
        refine stw rfl rfl rfl (ones rfl) b9_17 rfl nofun (fun h18 u18 => ?_)
        have w18 := (wg2.new n17).mod u18.mod (fun k e => .inr e)
        have s18 : h18.size = h17.size := u18.size
        have k_18 := k_17.upd u18 (by omega)
        have hb1_18 := u18.ne hb1_17 (by omega)
        have b9_18 := u18.at_
        refine o_nil ?_; refine x_seq ?_; refine c_reg ?_
        refine mv rfl rfl (ldn rfl rfl (row_blk b9_18) rfl (cl (vs := [ptr h2.size 0, .agg (tyCells x _ _).toArray]) rfl ((puts_fn (by assumption) hX k_18)) rfl (fun v19 h19 r19 => ?_)))
        obtain ⟨w19, x19⟩ := r19
        have z19 := x19.size
        have k_19 := (k_18.mod x19 (fun _ e => e.1))
        have hb1_19 := (x19.get hb1_18 (fun e => e.2 (by first | exact .inl rfl | exact .inr rfl)))
        have b9_19 := (x19.get b9_18 (fun e => e.2 (by first | exact .inl rfl | exact .inr rfl)))
        refine o_nil ?_; refine x_blk ?_; refine x_seq ?_; refine c_reg ?_; refine add rfl rfl (by omega) rfl (mv rfl rfl ?_)
        refine o_nil ?_
        refine x_loop (i + 1, h19) ⟨⟨hlt, by simp only; omega⟩, k_19, hb1_19, ?_⟩ (by simp only; omega) ⟨rfl, rfl, rfl, rfl, rfl, trivial⟩ rfl
        simp only
        rw [htk, putAll_append]
        exact w19.less (fun k e => .inl e)
      · have hin : i = f.types.length - 7 := by have := c16; simp only at this; omega
        subst hin
        rw [List.take_of_length_le (by rw [List.length_drop]; omega)] at wg2
        refine c_exit ?_; refine x_seq_exit ?_; refine x_loop_exit ?_; refine x_blk_hit ?_; refine x_seq ?_; refine c_seq ?_; refine c_reg ?_
        refine mv rfl rfl (fa rfl rfl (ld rfl (cell hb1 rfl) rfl (lnl rfl rfl (cl (vs := [ptr h2.size 0, i64 (f.objs.length : Nat)]) rfl ((WT.num (by assumption) (by omega) (by assumption))) rfl (fun v20 h20 r20 => ?_)))))
        obtain ⟨w20, x20⟩ := r20
        have z20 := x20.size
        obtain ⟨S20, hS20⟩ : ∃ S, S = putIt (.num f.objs.length) (putAll ((f.types.drop 7).flatMap tyIts) S15) := ⟨_, rfl⟩
        rw [← hS20] at w20
        have k_20 := (kl2.mod x20 (fun _ e => e.1))
        have hb1_20 := (x20.get hb1 (fun e => e.2 rfl))
        refine o_nil ?_; refine x_seq ?_
        refine c_seq ?_; refine c_seq ?_; refine c_reg ?_; refine fa rfl rfl (ld rfl (cell hb1_20 rfl) rfl (lnl rfl rfl (mv rfl rfl ?_)))
        refine o_nil ?_; refine x_seq ?_; refine c_blk ?_
        refine c_loop (α := Nat × Heap) (fun z => [(1, ptr h.size 0), (4, ptr h2.size 0), (70, .slice ao f.objs.length co), (71, i64 (f.objs.length : Nat)), (72, i64 (z.1 : Nat))]) (fun z => z.2)
          (fun z => (z.1 ≤ f.objs.length ∧ h8.size ≤ z.2.size) ∧ At h.size h z.2 ∧ z.2[h.size]? = some (.cells #[str f.name, .int .u32 f.key, .slice au f.uses.length cu, .slice (some ⟨bt, ot, none⟩) f.types.length ct0, .slice ao f.objs.length co] 28 (0, 0)) ∧ WT (fun k => k = h.size) h.size z.2 h2.size (putAll ((f.objs.take z.1).flatMap obIts) S20)) (fun z => f.objs.length - z.1) (0, h20)
          ⟨⟨Nat.zero_le _, by simp only; omega⟩, k_20, hb1_20, w20⟩ ⟨rfl, rfl, rfl, rfl, rfl, trivial⟩ rfl (fun z hz => ?_)
        obtain ⟨i, g3_⟩ := z
        obtain ⟨⟨hi3, hgg3⟩, kl3, hb1, wg3⟩ := hz
        simp only at hi3 hgg3 kl3 hb1 wg3
        change SC _ _ _ _ g3_
        refine c_seq ?_; refine c_reg ?_; refine lti rfl rfl rfl ?_; refine o_nil ?_; refine x_seq ?_
        refine c_seq ?_; refine c_cond rfl (fun c21 => ?_) (fun c21 => ?_)
        · have hlt : i < f.objs.length := by have := c21; simp only at this; omega
          obtain ⟨o, hox⟩ : ∃ o, f.objs[i]? = some o := ⟨_, List.getElem?_eq_getElem hlt⟩
          have htk := flat_take hox obIts
          obtain ⟨b2, o2, cs2, ha2, hb2, hl2, hr2, hR2⟩ := SliceAt.el hO0 kl3 hox
          subst ha2
          obtain ⟨rfl, e1, e2, e3, e4, e5, e6, e7'⟩ := hR2
          have e8 : in64 (numV o.val) := by
            have hw : 0 ≤ IntKind.u32.wrap o.val.n ∧ IntKind.u32.wrap o.val.n < 4294967296 := by simp only [IntKind.wrap, IntKind.bits, IntKind.signed]; simp; omega
            unfold numV sgn32
            split
            · unfold in64; split <;> omega
            · exact e6
          refine c_skip ?_; refine x_seq ?_
          refine c_seq ?_; refine c_blk ?_; refine c_seq ?_; refine c_reg ?_
          refine ixs rfl rfl (by omega) rfl (ldn rfl rfl hr2 rfl (alc nofun rfl (fun h22 n22 => ?_)))
          have s22 : h22.size = g3_.size + 1 := n22.size
          have k_22 := kl3.ext n22.ext
          have hb1_22 := n22.ext.get hb1
          have b11_22 := n22.at_
          refine stw rfl rfl rfl (ones rfl) b11_22 rfl nofun (fun h23 u23 => ?_)
          have w23 := (wg3.new n22).mod u23.mod (fun k e => .inr e)
          have s23 : h23.size = h22.size := u23.size
          have k_23 := k_22.upd u23 (by omega)
          have hb1_23 := u23.ne hb1_22 (by omega)
          have b11_23 := u23.at_
          refine o_nil ?_; refine x_seq ?_; refine c_seq ?_; refine c_reg ?_
          refine mv rfl rfl (fa rfl rfl (ld rfl (cell b11_23 rfl) rfl (cl (vs := [ptr h2.size 0, i64 o.cls]) rfl ((WT.byte (by assumption) (by omega) _)) rfl (fun v24 h24 r24 => ?_))))
          obtain ⟨w24, x24⟩ := r24
          have z24 := x24.size
          have k_24 := (k_23.mod x24 (fun _ e => e.1))
          have hb1_24 := (x24.get hb1_23 (fun e => e.2 (by first | exact .inl rfl | exact .inr rfl)))
          have b11_24 := (x24.get b11_23 (fun e => e.2 (by first | exact .inl rfl | exact .inr rfl)))
          refine o_nil ?_; refine x_seq ?_; refine c_seq ?_; refine c_reg ?_
          refine mv rfl rfl (fa rfl rfl (ld rfl (cell b11_24 rfl) rfl (cl (vs := [ptr h2.size 0, str o.name]) rfl ((WT.text (by assumption) (by omega) _)) rfl (fun v25 h25 r25 => ?_))))
          obtain ⟨w25, x25⟩ := r25
          have z25 := x25.size
          have k_25 := (k_24.mod x25 (fun _ e => e.1))
          have hb1_25 := (x25.get hb1_24 (fun e => e.2 (by first | exact .inl rfl | exact .inr rfl)))
          have b11_25 := (x25.get b11_24 (fun e => e.2 (by first | exact .inl rfl | exact .inr rfl)))
          refine o_nil ?_; refine x_seq ?_; refine c_seq ?_; refine c_reg ?_
          refine mv rfl rfl (fa rfl rfl (ld rfl (cell b11_25 rfl) rfl (cl (vs := [ptr h2.size 0, i64 o.type]) rfl ((WT.num (by assumption) (by omega) (by assumption))) rfl (fun v26 h26 r26 => ?_))))
          obtain ⟨w26, x26⟩ := r26
          have z26 := x26.size
          have k_26 := (k_25.mod x26 (fun _ e => e.1))
          have hb1_26 := (x26.get hb1_25 (fun e => e.2 (by first | exact .inl rfl | exact .inr rfl)))
          have b11_26 := (x26.get b11_25 (fun e => e.2 (by first | exact .inl rfl | exact .inr rfl)))
          refine o_nil ?_; refine x_seq ?_; refine c_seq ?_; refine c_reg ?_
          refine mv rfl rfl (fa rfl rfl (fa rfl rfl (ld rfl (cell b11_26 rfl) rfl (cl (vs := [ptr h2.size 0, i64 o.val.form]) rfl ((WT.byte (by assumption) (by omega) _)) rfl (fun v27 h27 r27 => ?_)))))
          obtain ⟨w27, x27⟩ := r27
          have z27 := x27.size
          have k_27 := (k_26.mod x27 (fun _ e => e.1))
          have hb1_27 := (x27.get hb1_26 (fun e => e.2 (by first | exact .inl rfl | exact .inr rfl)))
          have b11_27 := (x27.get b11_26 (fun e => e.2 (by first | exact .inl rfl | exact .inr rfl)))
          refine o_nil ?_; refine x_seq ?_; refine c_seq ?_; refine c_reg ?_
          refine mv rfl rfl (fa rfl rfl (ldn rfl rfl (row_part b11_27 (val_part o)) rfl (clE ((number_fn o.val _)) rfl rfl (fun h28 x28 => ?_))))
          have w28 := w27.mod x28 (fun k e => e.elim)
          have s28 : h27.size ≤ h28.size := x28.size
          have k_28 := k_27.ext x28
          have hb1_28 := x28.get hb1_27
          have b11_28 := x28.get b11_27
          refine cl (vs := [ptr h2.size 0, i64 (numV o.val)]) rfl ((WT.num (by assumption) (by omega) (by assumption))) rfl (fun v29 h29 r29 => ?_)
          obtain ⟨w29, x29⟩ := r29
          have z29 := x29.size
          have k_29 := (k_28.mod x29 (fun _ e => e.1))
          have hb1_29 := (x29.get hb1_28 (fun e => e.2 (by first | exact .inl rfl | exact .inr rfl)))
          have b11_29 := (x29.get b11_28 (fun e => e.2 (by first | exact .inl rfl | exact .inr rfl)))
          refine o_nil ?_; refine x_seq ?_; refine c_seq ?_; refine c_reg ?_
          refine mv rfl rfl (fa rfl rfl (fa rfl rfl (ld rfl (cell b11_29 rfl) rfl (cl (vs := [ptr h2.size 0, str o.val.text]) rfl ((WT.text (by assumption) (by omega) _)) rfl (fun v30 h30 r30 => ?_)))))
          obtain ⟨w30, x30⟩ := r30
          have z30 := x30.size
          have k_30 := (k_29.mod x30 (fun _ e => e.1))
          have hb1_30 := (x30.get hb1_29 (fun e => e.2 (by first | exact .inl rfl | exact .inr rfl)))
          have b11_30 := (x30.get b11_29 (fun e => e.2 (by first | exact .inl rfl | exact .inr rfl)))
          refine o_nil ?_; refine x_seq ?_; refine c_reg ?_
          refine mv rfl rfl (fa rfl rfl (ld rfl (cell b11_30 rfl) rfl (cl (vs := [ptr h2.size 0, i64 o.n]) rfl ((WT.num (by assumption) (by omega) (by assumption))) rfl (fun v31 h31 r31 => ?_))))
          obtain ⟨w31, x31⟩ := r31
          have z31 := x31.size
          have k_31 := (k_30.mod x31 (fun _ e => e.1))
          have hb1_31 := (x31.get hb1_30 (fun e => e.2 (by first | exact .inl rfl | exact .inr rfl)))
          have b11_31 := (x31.get b11_30 (fun e => e.2 (by first | exact .inl rfl | exact .inr rfl)))
          refine o_nil ?_; refine x_blk ?_; refine x_seq ?_; refine c_reg ?_; refine add rfl rfl (by omega) rfl (mv rfl rfl ?_)
          refine o_nil ?_
          refine x_loop (i + 1, h31) ⟨⟨hlt, by simp only; omega⟩, k_31, hb1_31, ?_⟩ (by simp only; omega) ⟨rfl, rfl, rfl, rfl, rfl, trivial⟩ rfl
          simp only
          rw [htk, putAll_append]
          exact w31.less (fun k e => .inl e)
        · have hin : i = f.objs.length := by have := c21; simp only at this; omega
          subst hin
          rw [List.take_length] at wg3
          refine c_exit ?_; refine x_seq_exit ?_; refine x_loop_exit ?_; refine x_blk_hit ?_; refine x_seq ?_; refine c_seq ?_; refine c_reg ?_
          refine mv rfl rfl (clp ((WT.bytes wg3)) rfl rfl (ext rfl rfl rfl (ext rfl rfl rfl (asg rfl rfl (asg rfl rfl ?_)))))
          refine o_nil ?_; refine x_seq ?_; refine c_ret ?_; refine ret2 (.inr rfl) rfl rfl rfl ?_
          refine ⟨_, _, rfl, .inl ⟨hG, ?_, ?_⟩, (kl3).toExt⟩
          · unfold faceIts
            rw [putAll_append, putAll_append, putAll_cons, putAll_append, putAll_cons, ← hS8, ← e7, ← hS15, ← hS20]
          · unfold faceIts
            rw [putAll_append, putAll_append, putAll_cons, putAll_append, putAll_cons, ← hS8, ← e7, ← hS15, ← hS20]
end Go.Proofs.YtgnkfegkdjfnjaaGreat
