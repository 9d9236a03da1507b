/- The walk of what writes a type. No condition but what each theorem says. -/
import Derived.Test.YtgnkfegkdjfnjaaGreatSyp1
namespace Go.Proofs.YtgnkfegkdjfnjaaGreat
open Go Go.Eng

theorem number_fn (v : Val) (h : Heap) : Does Tryz.prog 41 [valV v] h (fun r h' => r = i64 (numV v) ∧ Ext h h') := by
  have hw : 0 ≤ IntKind.u32.wrap v.n ∧ IntKind.u32.wrap v.n < 4294967296 := by simp only [IntKind.wrap, IntKind.bits, IntKind.signed]; simp; omega
  refine fn_enter (N := 12) Tryz.func41 (by kernel_rfl) rfl rfl rfl (fun w0 => ?_)
  refine c_seq ?_; refine c_reg ?_; refine bx rfl nofun rfl (fun h1 n1 => ?_)
  have s1 : h1.size = h.size + 1 := n1.size
  have b1_1 := n1.at_
  refine asg rfl rfl ?_; refine o_nil ?_; refine x_seq ?_
  refine c_seq ?_; refine c_seq ?_; refine c_reg ?_; refine fa rfl rfl (ld rfl (cell b1_1 rfl) rfl (eqi rfl rfl rfl ?_))
  refine o_nil ?_; refine x_seq ?_; refine c_cond rfl (fun c2 => ?_) (fun c2 => ?_)
  · refine c_seq ?_; refine c_reg ?_; refine fa rfl rfl (ld rfl (cell b1_1 rfl) rfl (cvi rfl rfl (clp ((signed_fn hw _)) rfl rfl (asg rfl rfl ?_))))
    refine o_nil ?_; refine x_seq ?_; refine c_ret ?_; refine x_seq_ret ?_; refine ret1 (.inr rfl) rfl rfl ?_
    have c2 : v.form = 4 := c2
    exact ⟨congrArg i64 (by unfold numV; rw [if_pos c2]), n1.ext⟩
  · refine c_skip ?_; refine x_seq ?_; refine c_seq ?_; refine c_reg ?_; refine fa rfl rfl (ld rfl (cell b1_1 rfl) rfl (asg rfl rfl ?_))
    refine o_nil ?_; refine x_seq ?_; refine c_ret ?_; refine ret1 (.inr rfl) rfl rfl ?_
    have c2 : ¬ v.form = 4 := c2
    exact ⟨congrArg i64 (by unfold numV; rw [if_neg c2]), n1.ext⟩
set_option maxHeartbeats 4000000 in
theorem puts_fn {Z : Nat → Prop} {N : Nat} {h0 h : Heap} {p : Nat} {st : St} {v : Value} {x : Ty} (w : WT Z N h p st) (hX : TyV N h0 v x) (k0 : At N h0 h) : Does Tryz.prog 39 [ptr p 0, v] h (fun _ h' => WT Z N h' p (putAll (tyIts x) st) ∧ Go.Eng.Mod (fun k => N ≤ k ∧ ¬ Z k) h h') := by
  have hmx : maxLen = 9223372036854775807 := by decide
  have hnN := k0.n
  obtain ⟨cs, rfl, hfit, vf, vp, rfl, hF, hP⟩ := hX
  obtain ⟨f1, f2, f3, f4, f5, f6, f7, f8⟩ := hfit
  have hF0 := hF
  have hP0 := hP
  have hfl := hF.1
  have hpl := hP.1
  have g1 : in64 (x.fields.length : Int) := by unfold in64; omega
  have g2 : in64 (x.params.length : Int) := by unfold in64; omega
  obtain ⟨af, cf, rfl⟩ := hF.form
  obtain ⟨ap, cp, rfl⟩ := hP.form
  refine fn_enter (N := 88) Tryz.func39 (by kernel_rfl) rfl rfl rfl (fun w0 => ?_)
  refine c_seq ?_; refine c_reg ?_; refine bx rfl nofun rfl (fun h1 n1 => ?_)
  have w1 := w.new n1
  have s1 : h1.size = h.size + 1 := n1.size
  have k_1 := k0.ext n1.ext
  have b3_1 := n1.at_
  refine o_nil ?_; refine x_seq ?_; refine c_seq ?_; refine c_reg ?_
  refine mv rfl rfl (fa rfl rfl (ld rfl (cell b3_1 rfl) rfl (cl (vs := [ptr p 0, i64 x.form]) rfl ((WT.byte (by assumption) (by omega) _)) rfl (fun v2 h2 r2 => ?_))))
  obtain ⟨w2, x2⟩ := r2
  have z2 := x2.size
  have k_2 := (k_1.mod x2 (fun _ e => e.1))
  have b3_2 := (x2.get b3_1 (fun e => e.2 (.inr rfl)))
  refine o_nil ?_; refine x_seq ?_; refine c_seq ?_; refine c_reg ?_
  refine mv rfl rfl (fa rfl rfl (ld rfl (cell b3_2 rfl) rfl (cl (vs := [ptr p 0, str x.mod]) rfl ((WT.text (by assumption) (by omega) _)) rfl (fun v3 h3 r3 => ?_))))
  obtain ⟨w3, x3⟩ := r3
  have z3 := x3.size
  have k_3 := (k_2.mod x3 (fun _ e => e.1))
  have b3_3 := (x3.get b3_2 (fun e => e.2 (.inr rfl)))
  refine o_nil ?_; refine x_seq ?_; refine c_seq ?_; refine c_reg ?_
  refine mv rfl rfl (fa rfl rfl (ld rfl (cell b3_3 rfl) rfl (cl (vs := [ptr p 0, str x.name]) rfl ((WT.text (by assumption) (by omega) _)) rfl (fun v4 h4 r4 => ?_))))
  obtain ⟨w4, x4⟩ := r4
  have z4 := x4.size
  have k_4 := (k_3.mod x4 (fun _ e => e.1))
  have b3_4 := (x4.get b3_3 (fun e => e.2 (.inr rfl)))
  refine o_nil ?_; refine x_seq ?_; refine c_seq ?_; refine c_reg ?_
  refine mv rfl rfl (fa rfl rfl (ld rfl (cell b3_4 rfl) rfl (cl (vs := [ptr p 0, i64 x.len]) rfl ((WT.num (by assumption) (by omega) (by assumption))) rfl (fun v5 h5 r5 => ?_))))
  obtain ⟨w5, x5⟩ := r5
  have z5 := x5.size
  have k_5 := (k_4.mod x5 (fun _ e => e.1))
  have b3_5 := (x5.get b3_4 (fun e => e.2 (.inr rfl)))
  refine o_nil ?_; refine x_seq ?_; refine c_seq ?_; refine c_reg ?_
  refine mv rfl rfl (fa rfl rfl (ld rfl (cell b3_5 rfl) rfl (cl (vs := [ptr p 0, i64 x.elem]) rfl ((WT.num (by assumption) (by omega) (by assumption))) rfl (fun v6 h6 r6 => ?_))))
  obtain ⟨w6, x6⟩ := r6
  have z6 := x6.size
  have k_6 := (k_5.mod x6 (fun _ e => e.1))
  have b3_6 := (x6.get b3_5 (fun e => e.2 (.inr rfl)))
  refine o_nil ?_; refine x_seq ?_; refine c_seq ?_; refine c_reg ?_
  refine mv rfl rfl (fa rfl rfl (ld rfl (cell b3_6 rfl) rfl (cl (vs := [ptr p 0, i64 x.base]) rfl ((WT.num (by assumption) (by omega) (by assumption))) rfl (fun v7 h7 r7 => ?_))))
  obtain ⟨w7, x7⟩ := r7
  have z7 := x7.size
  have k_7 := (k_6.mod x7 (fun _ e => e.1))
  have b3_7 := (x7.get b3_6 (fun e => e.2 (.inr rfl)))
  refine o_nil ?_; refine x_seq ?_; refine c_seq ?_; refine c_reg ?_
  refine mv rfl rfl (fa rfl rfl (ld rfl (cell b3_7 rfl) rfl (cl (vs := [ptr p 0, i64 x.res]) rfl ((WT.num (by assumption) (by omega) (by assumption))) rfl (fun v8 h8 r8 => ?_))))
  obtain ⟨w8, x8⟩ := r8
  have z8 := x8.size
  have k_8 := (k_7.mod x8 (fun _ e => e.1))
  have b3_8 := (x8.get b3_7 (fun e => e.2 (.inr rfl)))
  refine o_nil ?_; refine x_seq ?_; refine c_seq ?_; refine c_reg ?_
  refine mv rfl rfl (fa rfl rfl (ld rfl (cell b3_8 rfl) rfl (cl (vs := [ptr p 0, i64 x.desc]) rfl ((WT.num (by assumption) (by omega) (by assumption))) rfl (fun v9 h9 r9 => ?_))))
  obtain ⟨w9, x9⟩ := r9
  have z9 := x9.size
  have k_9 := (k_8.mod x9 (fun _ e => e.1))
  have b3_9 := (x9.get b3_8 (fun e => e.2 (.inr rfl)))
  refine o_nil ?_; refine x_seq ?_; refine c_seq ?_; refine c_reg ?_
  refine mv rfl rfl (fa rfl rfl (ld rfl (cell b3_9 rfl) rfl (lnl rfl rfl (cl (vs := [ptr p 0, i64 (x.fields.length : Nat)]) rfl ((WT.num (by assumption) (by omega) (by assumption))) rfl (fun v10 h10 r10 => ?_)))))
  obtain ⟨w10, x10⟩ := r10
  have z10 := x10.size
  obtain ⟨S10, hS10⟩ : ∃ S, S = putAll [.byte x.form, .text x.mod, .text x.name, .num x.len, .num x.elem, .num x.base, .num x.res, .num x.desc, .num x.fields.length] st := ⟨_, rfl⟩
  have w10' : WT (fun k => Z k ∨ k = h.size) N h10 p S10 := by rw [hS10]; exact w10
  have hm : ∀ {a b : Heap}, Go.Eng.Mod (fun k => N ≤ k ∧ ¬ (Z k ∨ k = h.size)) a b → Go.Eng.Mod (fun k => N ≤ k ∧ ¬ Z k) a b := fun x => x.mono (fun k _ e => ⟨e.1, fun z => e.2 (.inl z)⟩)
  have M10 : Go.Eng.Mod (fun k => N ≤ k ∧ ¬ Z k) h h10 := (((((((((n1.ext.mod _).trans (hm x2)).trans (hm x3)).trans (hm x4)).trans (hm x5)).trans (hm x6)).trans (hm x7)).trans (hm x8)).trans (hm x9)).trans (hm x10)
  have k_10 := (k_9.mod x10 (fun _ e => e.1))
  have b3_10 := (x10.get b3_9 (fun e => e.2 (.inr rfl)))
  refine o_nil ?_; refine x_seq ?_
  refine c_seq ?_; refine c_seq ?_; refine c_reg ?_; refine fa rfl rfl (ld rfl (cell b3_10 rfl) rfl (lnl rfl rfl (mv rfl rfl ?_)))
  refine o_nil ?_; refine x_seq ?_; refine c_blk ?_
  refine c_loop (α := Nat × Heap) (fun z => [(0, ptr p 0), (3, ptr h.size 0), (46, .slice af x.fields.length cf), (47, i64 (x.fields.length : Nat)), (48, i64 (z.1 : Nat))]) (fun z => z.2)
    (fun z => (z.1 ≤ x.fields.length ∧ h10.size ≤ z.2.size) ∧ At N h0 z.2 ∧ z.2[h.size]? = some (.cells (tyCells x (.slice af x.fields.length cf) (.slice ap x.params.length cp)).toArray 52 (0, 0)) ∧
      WT (fun k => Z k ∨ k = h.size) N z.2 p (putAll ((x.fields.take z.1).flatMap fldIts) S10) ∧ Go.Eng.Mod (fun k => N ≤ k ∧ ¬ Z k) h z.2) (fun z => x.fields.length - z.1) (0, h10)
    ⟨⟨Nat.zero_le _, Nat.le_refl _⟩, k_10, b3_10, w10', M10⟩ ⟨rfl, rfl, rfl, rfl, rfl, trivial⟩ rfl (fun z hz => ?_)
  obtain ⟨i, g⟩ := z
  obtain ⟨⟨hi, hgg⟩, kl, hb3, wg, Mg⟩ := hz
  simp only at hi hgg kl hb3 wg Mg
  have hn1s := n1.size
  have kln := kl.n
  have hb3l := lt_of_get hb3
  change SC _ _ _ _ g
  refine c_seq ?_; refine c_reg ?_; refine lti rfl rfl rfl ?_; refine o_nil ?_; refine x_seq ?_
  refine c_seq ?_; refine c_cond rfl (fun c11 => ?_) (fun c11 => ?_)
  · have hlt : i < x.fields.length := by have := c11; simp only at this; omega
    obtain ⟨fl, hfx⟩ : ∃ fl, x.fields[i]? = some fl := ⟨_, List.getElem?_eq_getElem hlt⟩
    have htk : (x.fields.take (i + 1)).flatMap fldIts = (x.fields.take i).flatMap fldIts ++ fldIts fl := by rw [List.take_add_one, hfx, List.flatMap_append]; simp
    obtain ⟨b2, o2, cs2, ha2, hb2, hl2, hr2, hR2⟩ := SliceAt.el hF0 kl hfx
    subst ha2
    obtain ⟨rfl, hfn, hft⟩ := hR2
    have hm2 : ∀ {a b : Heap}, Go.Eng.Mod (fun k => N ≤ k ∧ ¬ ((Z k ∨ k = h.size) ∨ k = g.size)) a b → Go.Eng.Mod (fun k => N ≤ k ∧ ¬ Z k) a b := fun x => x.mono (fun k _ e => ⟨e.1, fun z => e.2 (.inl (.inl z))⟩)
    refine c_skip ?_; refine x_seq ?_
    refine c_seq ?_; refine c_blk ?_; refine c_seq ?_; refine c_reg ?_
    refine ixs rfl rfl (by omega) rfl (ldn rfl rfl hr2 rfl (alc nofun rfl (fun h12 n12 => ?_)))
    have s12 : h12.size = g.size + 1 := n12.size
    have k_12 := kl.ext n12.ext
    have hb3_12 := n12.ext.get hb3
    have b5_12 := n12.at_
    refine stw rfl rfl rfl (ones rfl) b5_12 rfl nofun (fun h13 u13 => ?_)
    have w13 := (wg.new n12).mod u13.mod (fun k e => .inr e)
    have s13 : h13.size = h12.size := u13.size
    have k_13 := k_12.upd u13 (by omega)
    have hb3_13 := u13.ne hb3_12 (by omega)
    have b5_13 := u13.at_
    refine o_nil ?_; refine x_seq ?_; refine c_seq ?_; refine c_reg ?_
    refine mv rfl rfl (fa rfl rfl (ld rfl (cell b5_13 rfl) rfl (cl (vs := [ptr p 0, str fl.name]) rfl ((WT.text (by assumption) (by omega) _)) rfl (fun v14 h14 r14 => ?_))))
    obtain ⟨w14, x14⟩ := r14
    have z14 := x14.size
    have k_14 := (k_13.mod x14 (fun _ e => e.1))
    have hb3_14 := (x14.get hb3_13 (fun e => e.2 (by first | exact .inl (.inr rfl) | exact .inr rfl)))
    have b5_14 := (x14.get b5_13 (fun e => e.2 (by first | exact .inl (.inr rfl) | exact .inr rfl)))
    refine o_nil ?_; refine x_seq ?_; refine c_seq ?_; refine c_reg ?_
    refine mv rfl rfl (fa rfl rfl (ld rfl (cell b5_14 rfl) rfl (clp (flag_fn _ _) rfl rfl (cl (vs := [ptr p 0, i64 (flagV fl.exp)]) rfl ((WT.byte (by assumption) (by omega) _)) rfl (fun v15 h15 r15 => ?_)))))
    obtain ⟨w15, x15⟩ := r15
    have z15 := x15.size
    have k_15 := (k_14.mod x15 (fun _ e => e.1))
    have hb3_15 := (x15.get hb3_14 (fun e => e.2 (by first | exact .inl (.inr rfl) | exact .inr rfl)))
    have b5_15 := (x15.get b5_14 (fun e => e.2 (by first | exact .inl (.inr rfl) | exact .inr rfl)))
    refine o_nil ?_; refine x_seq ?_; refine c_reg ?_
    refine mv rfl rfl (fa rfl rfl (ld rfl (cell b5_15 rfl) rfl (cl (vs := [ptr p 0, i64 fl.type]) rfl ((WT.num (by assumption) (by omega) (by assumption))) rfl (fun v16 h16 r16 => ?_))))
    obtain ⟨w16, x16⟩ := r16
    have z16 := x16.size
    have k_16 := (k_15.mod x16 (fun _ e => e.1))
    have hb3_16 := (x16.get hb3_15 (fun e => e.2 (by first | exact .inl (.inr rfl) | exact .inr rfl)))
    have b5_16 := (x16.get b5_15 (fun e => e.2 (by first | exact .inl (.inr rfl) | exact .inr rfl)))
    refine o_nil ?_; refine x_blk ?_; refine x_seq ?_; refine c_reg ?_; refine add rfl rfl (by omega) rfl (mv rfl rfl ?_)
    refine o_nil ?_
    refine x_loop (i + 1, h16) ⟨⟨hlt, by simp only; omega⟩, k_16, hb3_16, ?_, (((((Mg.trans (n12.ext.mod _)).upd u13 (.inr (by omega))).trans (hm2 x14)).trans (hm2 x15)).trans (hm2 x16))⟩ (by simp only; omega) ⟨rfl, rfl, rfl, rfl, rfl, trivial⟩ rfl
    simp only
    rw [htk, putAll_append]
    exact w16.less (fun k e => .inl e)
  · have hin : i = x.fields.length := by have := c11; simp only at this; omega
    subst hin
    rw [List.take_length] at wg
    refine c_exit ?_; refine x_seq_exit ?_; refine x_loop_exit ?_; refine x_blk_hit ?_; refine x_seq ?_; refine c_seq ?_; refine c_reg ?_
    refine mv rfl rfl (fa rfl rfl (ld rfl (cell hb3 rfl) rfl (lnl rfl rfl (cl (vs := [ptr p 0, i64 (x.params.length : Nat)]) rfl ((WT.num (by assumption) (by omega) (by assumption))) rfl (fun v17 h17 r17 => ?_)))))
    obtain ⟨w17, x17⟩ := r17
    have z17 := x17.size
    obtain ⟨S17, hS17⟩ : ∃ S, S = putIt (.num x.params.length) (putAll (x.fields.flatMap fldIts) S10) := ⟨_, rfl⟩
    rw [← hS17] at w17
    have k_17 := (kl.mod x17 (fun _ e => e.1))
    have hb3_17 := (x17.get hb3 (fun e => e.2 (.inr rfl)))
    refine o_nil ?_; refine x_seq ?_; refine c_seq ?_; refine c_reg ?_; refine fa rfl rfl (ld rfl (cell hb3_17 rfl) rfl (lnl rfl rfl (mv rfl rfl ?_)))
    refine o_nil ?_; refine x_seq ?_; refine c_blk ?_
    refine c_loop (α := Nat × Heap) (fun z => [(0, ptr p 0), (3, ptr h.size 0), (72, .slice ap x.params.length cp), (73, i64 (x.params.length : Nat)), (74, i64 (z.1 : Nat))]) (fun z => z.2)
      (fun z => (z.1 ≤ x.params.length ∧ h10.size ≤ z.2.size) ∧ At N h0 z.2 ∧ z.2[h.size]? = some (.cells (tyCells x (.slice af x.fields.length cf) (.slice ap x.params.length cp)).toArray 52 (0, 0)) ∧
        WT (fun k => Z k ∨ k = h.size) N z.2 p (putAll ((x.params.take z.1).flatMap parIts) S17) ∧ Go.Eng.Mod (fun k => N ≤ k ∧ ¬ Z k) h z.2) (fun z => x.params.length - z.1) (0, h17)
      ⟨⟨Nat.zero_le _, by simp only; omega⟩, k_17, hb3_17, w17, Mg.trans (hm x17)⟩ ⟨rfl, rfl, rfl, rfl, rfl, trivial⟩ rfl (fun z hz => ?_)
    obtain ⟨i, g2_⟩ := z
    obtain ⟨⟨hi2, hgg2⟩, kl2, hb3, wg2, Mg2⟩ := hz
    simp only at hi2 hgg2 kl2 hb3 wg2 Mg2
    have kln2 := kl2.n
    have hb3l2 := lt_of_get hb3
    change SC _ _ _ _ g2_
    refine c_seq ?_; refine c_reg ?_; refine lti rfl rfl rfl ?_; refine o_nil ?_; refine x_seq ?_
    refine c_seq ?_; refine c_cond rfl (fun c18 => ?_) (fun c18 => ?_)
    · have hlt : i < x.params.length := by have := c18; simp only at this; omega
      obtain ⟨fl, hfx⟩ : ∃ fl, x.params[i]? = some fl := ⟨_, List.getElem?_eq_getElem hlt⟩
      have htk : (x.params.take (i + 1)).flatMap parIts = (x.params.take i).flatMap parIts ++ parIts fl := by rw [List.take_add_one, hfx, List.flatMap_append]; simp
      obtain ⟨b2, o2, cs2, ha2, hb2, hl2, hr2, hR2⟩ := SliceAt.el hP0 kl2 hfx
      subst ha2
      obtain ⟨rfl, hft⟩ := hR2
      have hm2 : ∀ {a b : Heap}, Go.Eng.Mod (fun k => N ≤ k ∧ ¬ ((Z k ∨ k = h.size) ∨ k = g2_.size)) a b → Go.Eng.Mod (fun k => N ≤ k ∧ ¬ Z k) a b := fun x => x.mono (fun k _ e => ⟨e.1, fun z => e.2 (.inl (.inl z))⟩)
      refine c_skip ?_; refine x_seq ?_
      refine c_seq ?_; refine c_blk ?_; refine c_seq ?_; refine c_reg ?_
      refine ixs rfl rfl (by omega) rfl (ldn rfl rfl hr2 rfl (alc nofun rfl (fun h19 n19 => ?_)))
      have s19 : h19.size = g2_.size + 1 := n19.size
      have k_19 := kl2.ext n19.ext
      have hb3_19 := n19.ext.get hb3
      have b7_19 := n19.at_
      refine stw rfl rfl rfl (ones rfl) b7_19 rfl nofun (fun h20 u20 => ?_)
      have w20 := (wg2.new n19).mod u20.mod (fun k e => .inr e)
      have s20 : h20.size = h19.size := u20.size
      have k_20 := k_19.upd u20 (by omega)
      have hb3_20 := u20.ne hb3_19 (by omega)
      have b7_20 := u20.at_
      refine o_nil ?_; refine x_seq ?_; refine c_seq ?_; refine c_reg ?_
      refine mv rfl rfl (fa rfl rfl (ld rfl (cell b7_20 rfl) rfl (clp (flag_fn _ _) rfl rfl (cl (vs := [ptr p 0, i64 (flagV fl.byVar)]) rfl ((WT.byte (by assumption) (by omega) _)) rfl (fun v21 h21 r21 => ?_)))))
      obtain ⟨w21, x21⟩ := r21
      have z21 := x21.size
      have k_21 := (k_20.mod x21 (fun _ e => e.1))
      have hb3_21 := (x21.get hb3_20 (fun e => e.2 (by first | exact .inl (.inr rfl) | exact .inr rfl)))
      have b7_21 := (x21.get b7_20 (fun e => e.2 (by first | exact .inl (.inr rfl) | exact .inr rfl)))
      refine o_nil ?_; refine x_seq ?_; refine c_reg ?_
      refine mv rfl rfl (fa rfl rfl (ld rfl (cell b7_21 rfl) rfl (cl (vs := [ptr p 0, i64 fl.type]) rfl ((WT.num (by assumption) (by omega) (by assumption))) rfl (fun v22 h22 r22 => ?_))))
      obtain ⟨w22, x22⟩ := r22
      have z22 := x22.size
      have k_22 := (k_21.mod x22 (fun _ e => e.1))
      have hb3_22 := (x22.get hb3_21 (fun e => e.2 (by first | exact .inl (.inr rfl) | exact .inr rfl)))
      have b7_22 := (x22.get b7_21 (fun e => e.2 (by first | exact .inl (.inr rfl) | exact .inr rfl)))
      refine o_nil ?_; refine x_blk ?_; refine x_seq ?_; refine c_reg ?_; refine add rfl rfl (by omega) rfl (mv rfl rfl ?_)
      refine o_nil ?_
      refine x_loop (i + 1, h22) ⟨⟨hlt, by simp only; omega⟩, k_22, hb3_22, ?_, ((((Mg2.trans (n19.ext.mod _)).upd u20 (.inr (by omega))).trans (hm2 x21)).trans (hm2 x22))⟩ (by simp only; omega) ⟨rfl, rfl, rfl, rfl, rfl, trivial⟩ rfl
      simp only
      rw [htk, putAll_append]
      exact w22.less (fun k e => .inl e)
    · have hin : i = x.params.length := by have := c18; simp only at this; omega
      subst hin
      rw [List.take_length] at wg2
      refine c_exit ?_; refine x_seq_exit ?_; refine x_loop_exit ?_; refine x_blk_hit ?_; refine ret0 (.inl rfl) rfl ?_
      have e : putAll (tyIts x) st = putAll (x.params.flatMap parIts) S17 := by
       unfold tyIts; rw [putAll_append, putAll_append, putAll_cons, ← hS10, ← hS17]
      rw [e]
      exact ⟨wg2.less (fun k e => .inl e), Mg2⟩
end Go.Proofs.YtgnkfegkdjfnjaaGreat
