/- The walks of the reference's writing of types and interfaces. No condition but what each theorem says. -/
import Derived.Test.YtgnkfegkdjfnjaaSyp4
namespace Go.Proofs.Ytgnkfegkdjfnjaa
open Go Go.Eng

def numsOf (x : Ty) : List Int := [x.len, x.elem, x.base, x.res, x.desc]
theorem tyIts_eq (x : Ty) : tyIts x = [.byte x.form, .text x.mod, .text x.name] ++ ((numsOf x).map It.num ++ (.num x.fields.length :: (x.fields.flatMap fldIts ++ (.num x.params.length :: x.params.flatMap parIts)))) := rfl
set_option maxHeartbeats 4000000 in
theorem typ_fn {Z : Nat → Prop} {N : Nat} {h0 h : Heap} {p C : Nat} {st : St} {v : Value} {x : Ty} (w : QT Z N h p C st) (hX : TyV N h0 v x) (k0 : At N h0 h) (hs : x.fields.length ≤ 64 ∧ x.params.length ≤ 64) (hC : C ≤ 80000000) :
    Does Try.prog 63 [ptr p 0, v] h (fun _ h' => QT Z N h' p (C + 21780) (putAll (tyIts x) st) ∧ Go.Eng.Mod (fun k => N ≤ k ∧ ¬ Z k) h h') := by
  have hmx : maxLen = 9223372036854775807 := by decide
  have hnN := k0.n
  obtain ⟨cs, rfl, hfit, vf, vp, rfl, hF, hP⟩ := hX
  have hF0 := hF
  have hP0 := hP
  obtain ⟨af, cf, rfl⟩ := hF.form
  obtain ⟨ap, cp, rfl⟩ := hP.form
  have hm : ∀ {a b : Heap}, Go.Eng.Mod (fun k => N ≤ k ∧ ¬ (Z k ∨ k = h.size)) a b → Go.Eng.Mod (fun k => N ≤ k ∧ ¬ Z k) a b := fun x => x.mono (fun k _ e => ⟨e.1, fun z => e.2 (.inl z)⟩)
  refine fn_enter (N := 109) Try.func63 (by kernel_rfl) rfl rfl rfl (fun w0 => ?_)
  refine c_seq ?_; refine c_reg ?_; refine bx rfl nofun rfl (fun h1 n1 => ?_)
  have w1 := w.new n1
  have hn1s := n1.size
  have s1 : h1.size = h.size + 1 := n1.size
  have k_1 := k0.ext n1.ext
  have b3_1 := n1.at_
  refine o_nil ?_; refine x_seq ?_; refine c_seq ?_; refine c_reg ?_
  refine mv rfl rfl (fa rfl rfl (ld rfl (cell b3_1 rfl) rfl (cl (vs := [ptr p 0, i64 x.form]) rfl ((QT.byte (by assumption) (by omega) (by omega) _)) rfl (fun v2 h2 r2 => ?_))))
  obtain ⟨w2, x2⟩ := r2
  have z2 := x2.size
  have k_2 := (k_1.mod x2 (fun _ e => e.1))
  have b3_2 := (x2.get b3_1 (fun e => e.2 (.inr rfl)))
  refine o_nil ?_; refine x_seq ?_; refine c_seq ?_; refine c_reg ?_
  refine mv rfl rfl (fa rfl rfl (ld rfl (cell b3_2 rfl) rfl (cl (vs := [ptr p 0, str x.mod]) rfl ((QT.text (by assumption) (by omega) (by omega) _)) rfl (fun v3 h3 r3 => ?_))))
  obtain ⟨w3, x3⟩ := r3
  have z3 := x3.size
  have k_3 := (k_2.mod x3 (fun _ e => e.1))
  have b3_3 := (x3.get b3_2 (fun e => e.2 (.inr rfl)))
  refine o_nil ?_; refine x_seq ?_; refine c_seq ?_; refine c_reg ?_
  refine mv rfl rfl (fa rfl rfl (ld rfl (cell b3_3 rfl) rfl (cl (vs := [ptr p 0, str x.name]) rfl ((QT.text (by assumption) (by omega) (by omega) _)) rfl (fun v4 h4 r4 => ?_))))
  obtain ⟨w4, x4⟩ := r4
  have z4 := x4.size
  have k_4 := (k_3.mod x4 (fun _ e => e.1))
  have b3_4 := (x4.get b3_3 (fun e => e.2 (.inr rfl)))
  refine o_nil ?_; refine x_seq ?_; refine c_seq ?_; refine c_reg ?_
  refine fa rfl rfl (ld rfl (cell b3_4 rfl) rfl (fa rfl rfl (ld rfl (cell b3_4 rfl) rfl (fa rfl rfl (ld rfl (cell b3_4 rfl) rfl (fa rfl rfl (ld rfl (cell b3_4 rfl) rfl ?_)))))))
  refine fa rfl rfl (ld rfl (cell b3_4 rfl) rfl (bsl (vs := [(0, i64 x.len), (1, i64 x.elem), (2, i64 x.base), (3, i64 x.res), (4, i64 x.desc)]) (cs := #[i64 x.len, i64 x.elem, i64 x.base, i64 x.res, i64 x.desc]) (E := 3) rfl (fun _ => by kernel_rfl) nofun rfl (fun h5 n5 => ?_)))
  obtain ⟨S4, hS4⟩ : ∃ S, S = putAll [.byte x.form, .text x.mod, .text x.name] st := ⟨_, rfl⟩
  have w4' : QT (fun k => Z k ∨ k = h.size) N h4 p (C + 66 + 66 + 66) S4 := by rw [hS4]; exact w4
  have w5 := w4'.new n5
  have z5 := n5.size
  have M5 : Go.Eng.Mod (fun k => N ≤ k ∧ ¬ Z k) h h5 := ((((n1.ext.mod _).trans (hm x2)).trans (hm x3)).trans (hm x4)).trans (n5.ext.mod _)
  have s5 : h5.size = h4.size + 1 := n5.size
  have k_5 := k_4.ext n5.ext
  have b3_5 := n5.ext.get b3_4
  refine asg rfl rfl ?_; refine o_nil ?_; refine x_seq ?_
  refine c_seq ?_; refine c_seq ?_; refine c_reg ?_; refine asg rfl rfl ?_; refine o_nil ?_; refine x_seq ?_; refine c_blk ?_
  refine c_loop (α := Nat × Heap) (fun z => [(0, ptr p 0), (3, ptr h.size 0), (4, .slice (some ⟨h4.size, 0, none⟩) 5 5), (5, i64 (z.1 : Nat))]) (fun z => z.2)
    (fun z => (z.1 ≤ 5 ∧ h5.size ≤ z.2.size) ∧ z.2[h4.size]? = some (.cells #[i64 x.len, i64 x.elem, i64 x.base, i64 x.res, i64 x.desc] 3 (0, 0)) ∧ At N h0 z.2 ∧ z.2[h.size]? = some (.cells (tyCells x (.slice af x.fields.length cf) (.slice ap x.params.length cp)).toArray 49 (0, 0)) ∧ QT (fun k => (Z k ∨ k = h.size) ∨ k = h4.size) N z.2 p (C + 198 + 66 * z.1) (putAll (((numsOf x).take z.1).map It.num) S4) ∧ Go.Eng.Mod (fun k => N ≤ k ∧ ¬ Z k) h z.2) (fun z => 5 - z.1) (0, h5)
    ⟨⟨Nat.zero_le _, Nat.le_refl _⟩, n5.at_, k_5, b3_5, w5, M5⟩ ⟨rfl, rfl, rfl, rfl, trivial⟩ rfl (fun z hz => ?_)
  obtain ⟨i, g⟩ := z
  obtain ⟨⟨hi, hgg⟩, hl4, kl, hb3, wg, Mg⟩ := hz
  simp only at hi hgg hl4 kl hb3 wg Mg
  have kln := kl.n
  change SC _ _ _ _ g
  refine c_seq ?_; refine c_seq ?_; refine c_reg ?_; refine mv rfl rfl (mv rfl rfl (lnl rfl rfl (lti rfl rfl rfl ?_)))
  refine o_nil ?_; refine x_seq ?_; refine c_cond rfl (fun c6 => ?_) (fun c6 => ?_)
  · have hlt : i < 5 := by have := c6; simp only at this; omega
    obtain ⟨m, hmx2⟩ : ∃ m, (numsOf x)[i]? = some m := ⟨_, List.getElem?_eq_getElem hlt⟩
    have hcl : cellAt g h4.size (0 + ((i : Nat) : Int).toNat * 1) = some (i64 m) := cell hl4 (by
      match i, hlt, hmx2 with
      | 0, _, e => cases e; rfl
      | 1, _, e => cases e; rfl
      | 2, _, e => cases e; rfl
      | 3, _, e => cases e; rfl
      | 4, _, e => cases e; rfl)
    refine c_skip ?_; refine x_seq ?_
    refine c_seq ?_; refine c_blk ?_; refine c_reg ?_
    refine mv rfl rfl (mv rfl rfl (mv rfl rfl (ixs rfl rfl (by omega) rfl (ld rfl hcl rfl (cl (vs := [ptr p 0, i64 m]) rfl ((QT.num (by assumption) (by omega) (by omega) _)) rfl (fun v7 h7 r7 => ?_))))))
    obtain ⟨w7, x7⟩ := r7
    have z7 := x7.size
    have k_7 := (kl.mod x7 (fun _ e => e.1))
    have hb3_7 := (x7.get hb3 (fun e => e.2 (by first | exact .inl (.inr rfl) | exact .inr rfl)))
    refine o_nil ?_; refine x_blk ?_; refine x_seq ?_; refine c_reg ?_; refine mv rfl rfl (add rfl rfl (by omega) rfl (asg rfl rfl ?_))
    refine o_nil ?_
    refine x_loop (i + 1, h7) ⟨⟨hlt, by simp only; omega⟩, x7.get hl4 (fun e => e.2 (.inr rfl)), k_7, hb3_7, ?_, Mg.trans (x7.mono (fun k _ e => ⟨e.1, fun z => e.2 (.inl (.inl z))⟩))⟩ (by simp only; omega) ⟨rfl, rfl, rfl, rfl, trivial⟩ rfl
    simp only
    rw [List.take_add_one, hmx2, List.map_append, putAll_append]
    exact w7.le (by omega)
  · have hin : i = 5 := by have := c6; simp only at this; omega
    subst hin
    have wg' := wg.less (Z' := (fun k => Z k ∨ k = h.size)) (fun k e => .inl e)
    rw [show (numsOf x).take 5 = numsOf x from rfl] at wg'
    clear wg
    refine c_exit ?_; refine x_seq_exit ?_; refine x_loop_exit ?_; refine x_blk_hit ?_; refine x_seq ?_; refine c_seq ?_; refine c_reg ?_
    refine mv rfl rfl (fa rfl rfl (ld rfl (cell hb3 rfl) rfl (lnl rfl rfl (cl (vs := [ptr p 0, i64 (x.fields.length : Nat)]) rfl ((QT.num (by assumption) (by omega) (by omega) _)) rfl (fun v8 h8 r8 => ?_)))))
    obtain ⟨w8, x8⟩ := r8
    have z8 := x8.size
    obtain ⟨S8, hS8⟩ : ∃ S, S = putIt (.num x.fields.length) (putAll ((numsOf x).map It.num) S4) := ⟨_, rfl⟩
    rw [← hS8] at w8
    have k_8 := (kl.mod x8 (fun _ e => e.1))
    have hb3_8 := (x8.get hb3 (fun e => e.2 (.inr rfl)))
    refine o_nil ?_; refine x_seq ?_
    refine c_seq ?_; refine c_seq ?_; refine c_reg ?_; refine asg rfl rfl ?_; refine o_nil ?_; refine x_seq ?_; refine c_blk ?_
    refine c_loop (α := Nat × Heap) (fun z => [(0, ptr p 0), (3, ptr h.size 0), (6, i64 (z.1 : Nat))]) (fun z => z.2)
      (fun z => (z.1 ≤ x.fields.length ∧ h5.size ≤ z.2.size) ∧ At N h0 z.2 ∧ z.2[h.size]? = some (.cells (tyCells x (.slice af x.fields.length cf) (.slice ap x.params.length cp)).toArray 49 (0, 0)) ∧ QT (fun k => Z k ∨ k = h.size) N z.2 p (C + 594 + 198 * z.1) (putAll ((x.fields.take z.1).flatMap fldIts) S8) ∧ Go.Eng.Mod (fun k => N ≤ k ∧ ¬ Z k) h z.2) (fun z => x.fields.length - z.1) (0, h8)
      ⟨⟨Nat.zero_le _, by simp only; omega⟩, k_8, hb3_8, w8.le (by omega), Mg.trans (hm x8)⟩ ⟨rfl, rfl, rfl, trivial⟩ rfl (fun z hz => ?_)
    obtain ⟨i, g2_⟩ := z
    obtain ⟨⟨hi2, hgg2⟩, kl2, hb3, wg2, Mg2⟩ := hz
    simp only at hi2 hgg2 kl2 hb3 wg2 Mg2
    have kln2 := kl2.n
    change SC _ _ _ _ g2_
    refine c_seq ?_; refine c_seq ?_; refine c_reg ?_; refine mv rfl rfl (fa rfl rfl (ld rfl (cell hb3 rfl) rfl (lnl rfl rfl (lti rfl rfl rfl ?_))))
    refine o_nil ?_; refine x_seq ?_; refine c_cond rfl (fun c9 => ?_) (fun c9 => ?_)
    · have hlt : i < x.fields.length := by have := c9; simp only at this; omega
      obtain ⟨fl, hfx⟩ : ∃ fl, x.fields[i]? = some fl := ⟨_, List.getElem?_eq_getElem hlt⟩
      have htk := flat_take hfx fldIts
      obtain ⟨b2, o2, cs2, ha2, hb2, hl2, hr2, hR2⟩ := SliceAt.el hF0 kl2 hfx
      subst ha2
      obtain ⟨rfl, -⟩ := hR2
      refine c_skip ?_; refine x_seq ?_
      refine c_seq ?_; refine c_blk ?_; refine c_seq ?_; refine c_reg ?_
      refine mv rfl rfl (fa rfl rfl (ld rfl (cell hb3 rfl) rfl (mv rfl rfl (ixs rfl rfl (by omega) rfl (fa rfl rfl (ld rfl (hr2 0 _ rfl) rfl (cl (vs := [ptr p 0, str fl.name]) rfl ((QT.text (by assumption) (by omega) (by omega) _)) rfl (fun v10 h10 r10 => ?_))))))))
      obtain ⟨w10, x10⟩ := r10
      have z10 := x10.size
      have hr10 := x10.row hr2 (fun e => by omega)
      have k_10 := (kl2.mod x10 (fun _ e => e.1))
      have hb3_10 := (x10.get hb3 (fun e => e.2 (.inr rfl)))
      refine o_nil ?_; refine x_seq ?_; refine c_seq ?_; refine c_reg ?_
      refine mv rfl rfl (fa rfl rfl (ld rfl (cell hb3_10 rfl) rfl (mv rfl rfl (ixs rfl rfl (by omega) rfl (fa rfl rfl (ld rfl (hr10 1 _ rfl) rfl (clp (rflag_fn _ _) rfl rfl ?_)))))))
      refine cl (vs := [ptr p 0, i64 (flagV fl.exp)]) rfl ((QT.byte (by assumption) (by omega) (by omega) _)) rfl (fun v11 h11 r11 => ?_)
      obtain ⟨w11, x11⟩ := r11
      have z11 := x11.size
      have hr11 := x11.row hr10 (fun e => by omega)
      have k_11 := (k_10.mod x11 (fun _ e => e.1))
      have hb3_11 := (x11.get hb3_10 (fun e => e.2 (.inr rfl)))
      refine o_nil ?_; refine x_seq ?_; refine c_reg ?_
      refine mv rfl rfl (fa rfl rfl (ld rfl (cell hb3_11 rfl) rfl (mv rfl rfl (ixs rfl rfl (by omega) rfl (fa rfl rfl (ld rfl (hr11 2 _ rfl) rfl (cl (vs := [ptr p 0, i64 fl.type]) rfl ((QT.num (by assumption) (by omega) (by omega) _)) rfl (fun v12 h12 r12 => ?_))))))))
      obtain ⟨w12, x12⟩ := r12
      have z12 := x12.size
      have k_12 := (k_11.mod x12 (fun _ e => e.1))
      have hb3_12 := (x12.get hb3_11 (fun e => e.2 (.inr rfl)))
      refine o_nil ?_; refine x_blk ?_; refine x_seq ?_; refine c_reg ?_; refine mv rfl rfl (add rfl rfl (by omega) rfl (asg rfl rfl ?_))
      refine o_nil ?_
      refine x_loop (i + 1, h12) ⟨⟨hlt, by simp only; omega⟩, k_12, hb3_12, ?_, ((Mg2.trans (hm x10)).trans (hm x11)).trans (hm x12)⟩ (by simp only; omega) ⟨rfl, rfl, rfl, trivial⟩ rfl
      simp only
      rw [htk, putAll_append]
      exact w12.le (by omega)
    · have hin : i = x.fields.length := by have := c9; simp only at this; omega
      subst hin
      rw [List.take_length] at wg2
      refine c_exit ?_; refine x_seq_exit ?_; refine x_loop_exit ?_; refine x_blk_hit ?_; refine x_seq ?_; refine c_seq ?_; refine c_reg ?_
      refine mv rfl rfl (fa rfl rfl (ld rfl (cell hb3 rfl) rfl (lnl rfl rfl (cl (vs := [ptr p 0, i64 (x.params.length : Nat)]) rfl ((QT.num (by assumption) (by omega) (by omega) _)) rfl (fun v13 h13 r13 => ?_)))))
      obtain ⟨w13, x13⟩ := r13
      have z13 := x13.size
      obtain ⟨S13, hS13⟩ : ∃ S, S = putIt (.num x.params.length) (putAll (x.fields.flatMap fldIts) S8) := ⟨_, rfl⟩
      rw [← hS13] at w13
      have k_13 := (kl2.mod x13 (fun _ e => e.1))
      have hb3_13 := (x13.get hb3 (fun e => e.2 (.inr rfl)))
      refine o_nil ?_; refine x_seq ?_; refine c_seq ?_; refine c_reg ?_; refine asg rfl rfl ?_; refine o_nil ?_; refine x_seq ?_; refine c_blk ?_
      refine c_loop (α := Nat × Heap) (fun z => [(0, ptr p 0), (3, ptr h.size 0), (7, i64 (z.1 : Nat))]) (fun z => z.2)
        (fun z => (z.1 ≤ x.params.length ∧ h5.size ≤ z.2.size) ∧ At N h0 z.2 ∧ z.2[h.size]? = some (.cells (tyCells x (.slice af x.fields.length cf) (.slice ap x.params.length cp)).toArray 49 (0, 0)) ∧ QT (fun k => Z k ∨ k = h.size) N z.2 p (C + 660 + 198 * 64 + 132 * z.1) (putAll ((x.params.take z.1).flatMap parIts) S13) ∧ Go.Eng.Mod (fun k => N ≤ k ∧ ¬ Z k) h z.2) (fun z => x.params.length - z.1) (0, h13)
        ⟨⟨Nat.zero_le _, by simp only; omega⟩, k_13, hb3_13, w13.le (by omega), Mg2.trans (hm x13)⟩ ⟨rfl, rfl, rfl, trivial⟩ rfl (fun z hz => ?_)
      obtain ⟨i, g3_⟩ := z
      obtain ⟨⟨hi3, hgg3⟩, kl3, hb3, wg3, Mg3⟩ := hz
      simp only at hi3 hgg3 kl3 hb3 wg3 Mg3
      have kln3 := kl3.n
      change SC _ _ _ _ g3_
      refine c_seq ?_; refine c_seq ?_; refine c_reg ?_; refine mv rfl rfl (fa rfl rfl (ld rfl (cell hb3 rfl) rfl (lnl rfl rfl (lti rfl rfl rfl ?_))))
      refine o_nil ?_; refine x_seq ?_; refine c_cond rfl (fun c14 => ?_) (fun c14 => ?_)
      · have hlt : i < x.params.length := by have := c14; simp only at this; omega
        obtain ⟨fl, hfx⟩ : ∃ fl, x.params[i]? = some fl := ⟨_, List.getElem?_eq_getElem hlt⟩
        have htk := flat_take hfx parIts
        obtain ⟨b2, o2, cs2, ha2, hb2, hl2, hr2, hR2⟩ := SliceAt.el hP0 kl3 hfx
        subst ha2
        obtain ⟨rfl, -⟩ := hR2
        refine c_skip ?_; refine x_seq ?_
        refine c_seq ?_; refine c_blk ?_; refine c_seq ?_; refine c_reg ?_
        refine mv rfl rfl (fa rfl rfl (ld rfl (cell hb3 rfl) rfl (mv rfl rfl (ixs rfl rfl (by omega) rfl (fa rfl rfl (ld rfl (hr2 0 _ rfl) rfl (clp (rflag_fn _ _) rfl rfl ?_)))))))
        refine cl (vs := [ptr p 0, i64 (flagV fl.byVar)]) rfl ((QT.byte (by assumption) (by omega) (by omega) _)) rfl (fun v15 h15 r15 => ?_)
        obtain ⟨w15, x15⟩ := r15
        have z15 := x15.size
        have hr15 := x15.row hr2 (fun e => by omega)
        have k_15 := (kl3.mod x15 (fun _ e => e.1))
        have hb3_15 := (x15.get hb3 (fun e => e.2 (.inr rfl)))
        refine o_nil ?_; refine x_seq ?_; refine c_reg ?_
        refine mv rfl rfl (fa rfl rfl (ld rfl (cell hb3_15 rfl) rfl (mv rfl rfl (ixs rfl rfl (by omega) rfl (fa rfl rfl (ld rfl (hr15 1 _ rfl) rfl (cl (vs := [ptr p 0, i64 fl.type]) rfl ((QT.num (by assumption) (by omega) (by omega) _)) rfl (fun v16 h16 r16 => ?_))))))))
        obtain ⟨w16, x16⟩ := r16
        have z16 := x16.size
        have k_16 := (k_15.mod x16 (fun _ e => e.1))
        have hb3_16 := (x16.get hb3_15 (fun e => e.2 (.inr rfl)))
        refine o_nil ?_; refine x_blk ?_; refine x_seq ?_; refine c_reg ?_; refine mv rfl rfl (add rfl rfl (by omega) rfl (asg rfl rfl ?_))
        refine o_nil ?_
        refine x_loop (i + 1, h16) ⟨⟨hlt, by simp only; omega⟩, k_16, hb3_16, ?_, (Mg3.trans (hm x15)).trans (hm x16)⟩ (by simp only; omega) ⟨rfl, rfl, rfl, trivial⟩ rfl
        simp only
        rw [htk, putAll_append]
        exact w16.le (by omega)
      · have hin : i = x.params.length := by have := c14; simp only at this; omega
        subst hin
        rw [List.take_length] at wg3
        refine c_exit ?_; refine x_seq_exit ?_; refine x_loop_exit ?_; refine x_blk_hit ?_; refine ret0 (.inl rfl) rfl ?_
        have e : putAll (tyIts x) st = putAll (x.params.flatMap parIts) S13 := by
         rw [tyIts_eq, putAll_append, putAll_append, putAll_cons, putAll_append, putAll_cons, ← hS4, ← hS8, ← hS13]
        rw [e]
        exact ⟨(wg3.less (fun k e => .inl e)).le (by omega), Mg3⟩
end Go.Proofs.Ytgnkfegkdjfnjaa
