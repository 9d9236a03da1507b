/- The walk of what tells interfaces alike. No condition but what each theorem says. -/
import Derived.Test.YtgnkfegkdjfnjaaIfb4
namespace Go.Proofs.Ytgnkfegkdjfnjaa
open Go Go.Eng

theorem same1_fn {N : Nat} {h0 h : Heap} {vx vy : Value} {x y : Ty} (hx : TyV N h0 vx x) (hy : TyV N h0 vy y) (k0 : At N h0 h) : Does Try.prog 48 [vx, vy] h (fun v h' => v = .bool (tb (x = y)) ∧ Ext h h') := by
  have kk : At h.size h h := At.refl (Nat.le_refl _)
  obtain ⟨cx, rfl, -, vfx, vpx, rfl, hFx, hPx⟩ := hx
  obtain ⟨cy, rfl, -, vfy, vpy, rfl, hFy, hPy⟩ := hy
  have hFx0 := hFx
  have hFy0 := hFy
  have hPx0 := hPx
  have hPy0 := hPy
  obtain ⟨ax, ax', rfl⟩ := hFx.form
  obtain ⟨ay, ay', rfl⟩ := hFy.form
  obtain ⟨px, px', rfl⟩ := hPx.form
  obtain ⟨py, py', rfl⟩ := hPy.form
  refine fn_enter (N := 73) Try.func48 (by kernel_rfl) rfl rfl rfl (fun w0 => ?_)
  refine c_seq ?_; refine c_reg ?_; refine bx rfl nofun rfl (fun h1 n1 => ?_)
  have s1 : h1.size = h.size + 1 := n1.size
  have k_1 := kk.ext n1.ext
  have b2_1 := n1.at_
  refine bx rfl nofun rfl (fun h2 n2 => ?_)
  have s2 : h2.size = h1.size + 1 := n2.size
  have k_2 := k_1.ext n2.ext
  have b2_2 := n2.ext.get b2_1
  have b3_2 := n2.at_
  refine asg rfl rfl ?_; refine o_nil ?_; refine x_seq ?_; refine c_seq ?_; refine c_reg ?_
  refine fa rfl rfl (ld rfl (cell b2_2 rfl) rfl (fa rfl rfl (ld rfl (cell b3_2 rfl) rfl (eqi rfl rfl rfl (mv rfl rfl (gqt rfl rfl rfl (fun e => fa rfl rfl) (gqt rfl rfl rfl (fun e => ld (cg rfl e) (cell b2_2 rfl) rfl) ?_)))))))
  refine gqt rfl rfl rfl (fun e => fa rfl rfl) (gqt rfl rfl rfl (fun e => ld (cg rfl e) (cell b3_2 rfl) rfl) (gqt rfl rfl rfl (fun e => eqs (cg rfl e) (cg rfl e) rfl) ?_))
  refine pka rfl rfl rfl rfl (mv rfl rfl (gqt rfl rfl rfl (fun e => fa rfl rfl) (gqt rfl rfl rfl (fun e => ld (cg rfl e) (cell b2_2 rfl) rfl) (gqt rfl rfl rfl (fun e => fa rfl rfl) ?_))))
  refine gqt rfl rfl rfl (fun e => ld (cg rfl e) (cell b3_2 rfl) rfl) (gqt rfl rfl rfl (fun e => eqs (cg rfl e) (cg rfl e) rfl) (pka rfl rfl rfl rfl (mv rfl rfl ?_)))
  refine gqt rfl rfl rfl (fun e => fa rfl rfl) (gqt rfl rfl rfl (fun e => ld (cg rfl e) (cell b2_2 rfl) rfl) (gqt rfl rfl rfl (fun e => fa rfl rfl) (gqt rfl rfl rfl (fun e => ld (cg rfl e) (cell b3_2 rfl) rfl) ?_)))
  refine gqt rfl rfl rfl (fun e => eqi (cg rfl e) (cg rfl e) rfl) (pka rfl rfl rfl rfl (mv rfl rfl (gqt rfl rfl rfl (fun e => fa rfl rfl) (gqt rfl rfl rfl (fun e => ld (cg rfl e) (cell b2_2 rfl) rfl) ?_))))
  refine gqt rfl rfl rfl (fun e => fa rfl rfl) (gqt rfl rfl rfl (fun e => ld (cg rfl e) (cell b3_2 rfl) rfl) (gqt rfl rfl rfl (fun e => eqi (cg rfl e) (cg rfl e) rfl) ?_))
  refine pka rfl rfl rfl rfl (mv rfl rfl (gqt rfl rfl rfl (fun e => fa rfl rfl) (gqt rfl rfl rfl (fun e => ld (cg rfl e) (cell b2_2 rfl) rfl) (gqt rfl rfl rfl (fun e => fa rfl rfl) ?_))))
  refine gqt rfl rfl rfl (fun e => ld (cg rfl e) (cell b3_2 rfl) rfl) (gqt rfl rfl rfl (fun e => eqi (cg rfl e) (cg rfl e) rfl) (pka rfl rfl rfl rfl (mv rfl rfl ?_)))
  refine gqt rfl rfl rfl (fun e => fa rfl rfl) (gqt rfl rfl rfl (fun e => ld (cg rfl e) (cell b2_2 rfl) rfl) (gqt rfl rfl rfl (fun e => fa rfl rfl) (gqt rfl rfl rfl (fun e => ld (cg rfl e) (cell b3_2 rfl) rfl) ?_)))
  refine gqt rfl rfl rfl (fun e => eqi (cg rfl e) (cg rfl e) rfl) (pka rfl rfl rfl rfl (mv rfl rfl (gqt rfl rfl rfl (fun e => fa rfl rfl) (gqt rfl rfl rfl (fun e => ld (cg rfl e) (cell b2_2 rfl) rfl) ?_))))
  refine gqt rfl rfl rfl (fun e => fa rfl rfl) (gqt rfl rfl rfl (fun e => ld (cg rfl e) (cell b3_2 rfl) rfl) (gqt rfl rfl rfl (fun e => eqi (cg rfl e) (cg rfl e) rfl) ?_))
  refine pka rfl rfl rfl rfl (mv rfl rfl (gqt rfl rfl rfl (fun e => fa rfl rfl) (gqt rfl rfl rfl (fun e => ld (cg rfl e) (cell b2_2 rfl) rfl) (gqt rfl rfl rfl (fun e => fa rfl rfl) ?_))))
  refine gqt rfl rfl rfl (fun e => ld (cg rfl e) (cell b3_2 rfl) rfl) (gqt rfl rfl rfl (fun e => clp ((eqFld_fn hFx0 hFy0 ((k0.ext n1.ext).ext n2.ext))) (a2 (cg rfl e) (cg rfl e)) rfl) ?_)
  refine pka rfl rfl rfl rfl (mv rfl rfl (gqt rfl rfl rfl (fun e => fa rfl rfl) (gqt rfl rfl rfl (fun e => ld (cg rfl e) (cell b2_2 rfl) rfl) (gqt rfl rfl rfl (fun e => fa rfl rfl) ?_))))
  refine gqt rfl rfl rfl (fun e => ld (cg rfl e) (cell b3_2 rfl) rfl) (gqt rfl rfl rfl (fun e => clp ((eqPar_fn hPx0 hPy0 ((k0.ext n1.ext).ext n2.ext))) (a2 (cg rfl e) (cg rfl e)) rfl) ?_)
  refine pka rfl rfl rfl rfl (asg rfl rfl ?_)
  refine o_nil ?_; refine x_seq ?_; refine c_ret ?_; refine ret1 (.inr rfl) rfl rfl ?_
  refine ⟨congrArg Value.bool (tb_of ?_), (k_2).toExt⟩
  obtain ⟨x1, x2, x3, x4, x5, x6, x7, x8, x9, x10⟩ := x
  obtain ⟨y1, y2, y3, y4, y5, y6, y7, y8, y9, y10⟩ := y
  simp only [Bool.and_eq_true, beq_iff_eq, tb_iff, Ty.mk.injEq]
  constructor
  · rintro ⟨⟨⟨⟨⟨⟨⟨⟨⟨e1, e2⟩, e3⟩, e4⟩, e5⟩, e6⟩, e9⟩, e10⟩, e7⟩, e8⟩
    exact ⟨e1, e2, e3, e4, e5, e6, e7, e8, e9, e10⟩
  · rintro ⟨e1, e2, e3, e4, e5, e6, e7, e8, e9, e10⟩
    exact ⟨⟨⟨⟨⟨⟨⟨⟨⟨e1, e2⟩, e3⟩, e4⟩, e5⟩, e6⟩, e9⟩, e10⟩, e7⟩, e8⟩
theorem eqTys_fn {N : Nat} {h0 h : Heap} {vx vy : Value} {xs ys : List Ty} (hx : TypesAt N h0 vx xs) (hy : TypesAt N h0 vy ys) (k0 : At N h0 h) :
    Does Try.prog 47 [vx, vy, .func (.func 48) #[] #[]] h (fun v h' => v = .bool (tb (xs = ys)) ∧ Ext h h') := by
  have hmx : maxLen = 9223372036854775807 := by decide
  have hx0 := hx
  have hy0 := hy
  have hxl := hx.1
  have kk : At h.size h h := At.refl (Nat.le_refl _)
  obtain ⟨ax, cx, rfl⟩ := SliceAt.form hx
  obtain ⟨ay, cy, rfl⟩ := SliceAt.form hy
  refine fn_enter (N := 32) Try.func47 (by kernel_rfl) rfl rfl rfl (fun w0 => ?_)
  refine c_seq ?_; refine c_reg ?_; refine asg rfl rfl ?_; refine o_nil ?_; refine x_seq ?_
  refine c_seq ?_; refine c_seq ?_; refine c_reg ?_; refine mv rfl rfl (lnl rfl rfl (mv rfl rfl (lnl rfl rfl (nei rfl rfl rfl ?_))))
  refine o_nil ?_; refine x_seq ?_; refine c_cond rfl (fun c1 => ?_) (fun c1 => ?_)
  · refine c_seq ?_; refine c_reg ?_; refine asg rfl rfl ?_; refine o_nil ?_; refine x_seq ?_; refine c_ret ?_; refine x_seq_ret ?_
    refine ret1 (.inr rfl) rfl rfl ?_
    have c1 : ¬ xs.length = ys.length := by omega
    exact ⟨congrArg Value.bool (tb_f (fun e => c1 (by rw [e]))).symm, Mod.refl _ _⟩
  · have hlen : xs.length = ys.length := by omega
    refine c_skip ?_; refine x_seq ?_
    refine c_seq ?_; refine c_seq ?_; refine c_reg ?_; refine mv rfl rfl (lnl rfl rfl (mv rfl rfl ?_))
    refine o_nil ?_; refine x_seq ?_; refine c_blk ?_
    refine c_loop (α := Nat × Heap) (fun s => [(0, .slice ax xs.length cx), (1, .slice ay ys.length cy), (2, .func (.func 48) #[] #[]), (15, .slice ax xs.length cx), (16, i64 (xs.length : Nat)), (17, i64 (s.1 : Nat))]) (fun s => s.2)
      (fun s => s.1 ≤ xs.length ∧ At h.size h s.2 ∧ xs.take s.1 = ys.take s.1) (fun s => xs.length - s.1) (0, h) ⟨Nat.zero_le _, kk, by simp⟩ ⟨rfl, rfl, rfl, rfl, rfl, rfl, trivial⟩ rfl (fun s hs => ?_)
    obtain ⟨i, g⟩ := s
    obtain ⟨hi, kg, htk⟩ := hs
    simp only at hi kg htk
    have kN : At N h0 g := k0.ext kg.toExt
    have hgn := kg.n
    change SC _ _ _ _ g
    refine c_seq ?_; refine c_reg ?_; refine lti rfl rfl rfl ?_; refine o_nil ?_; refine x_seq ?_
    refine c_seq ?_; refine c_cond rfl (fun c2 => ?_) (fun c2 => ?_)
    · have hlt : i < xs.length := by have := c2; simp only at this; omega
      obtain ⟨x, hxi⟩ : ∃ x, xs[i]? = some x := ⟨_, List.getElem?_eq_getElem hlt⟩
      obtain ⟨y, hyi⟩ : ∃ y, ys[i]? = some y := ⟨_, List.getElem?_eq_getElem (by omega)⟩
      obtain ⟨b1, o1, cs1, ha1, hb1, hl1, hr1, hR1⟩ := SliceAt.el hx0 kN hxi
      obtain ⟨b2, o2, cs2, ha2, hb2, hl2, hr2, hR2⟩ := SliceAt.el hy0 kN hyi
      subst ha1
      subst ha2
      have hX : TyV N h0 _ x := ⟨cs1, rfl, hR1⟩
      have hY : TyV N h0 _ y := ⟨cs2, rfl, hR2⟩
      obtain ⟨-, vfx, vpx, rfl, hfx, hpx⟩ := hR1
      obtain ⟨-, vfy, vpy, rfl, hfy, hpy⟩ := hR2
      obtain ⟨_, _, rfl⟩ := hfx.form
      obtain ⟨_, _, rfl⟩ := hpx.form
      obtain ⟨_, _, rfl⟩ := hfy.form
      obtain ⟨_, _, rfl⟩ := hpy.form
      refine c_skip ?_; refine x_seq ?_
      refine c_seq ?_; refine c_blk ?_; refine c_seq ?_; refine c_reg ?_
      refine mv rfl rfl (ixs rfl rfl (by omega) rfl (ldn rfl rfl hr1 rfl (alc nofun rfl (fun h3 n3 => ?_))))
      have s3 : h3.size = g.size + 1 := n3.size
      have k_3 := kg.ext n3.ext
      have b8_3 := n3.at_
      refine asg rfl rfl (stw rfl rfl rfl (ones rfl) b8_3 rfl nofun (fun h4 u4 => ?_))
      have hr2' := u4.mod.row (n3.ext.row hr2 (fun e => e)) (fun e => by have e : b2 = g.size := e; have := kN.n; omega)
      have s4 : h4.size = h3.size := u4.size
      have k_4 := k_3.upd u4 (by omega)
      have b8_4 := u4.at_
      refine o_nil ?_; refine x_seq ?_; refine c_seq ?_; refine c_reg ?_
      refine mv rfl rfl (mv rfl rfl (ixs rfl rfl (by omega) rfl (ldn rfl rfl hr2' rfl (alc nofun rfl (fun h5 n5 => ?_)))))
      have s5 : h5.size = h4.size + 1 := n5.size
      have k_5 := k_4.ext n5.ext
      have b8_5 := n5.ext.get b8_4
      have b9_5 := n5.at_
      refine stw rfl rfl rfl (ones rfl) b9_5 rfl nofun (fun h6 u6 => ?_)
      have s6 : h6.size = h5.size := u6.size
      have k_6 := k_5.upd u6 (by omega)
      have b8_6 := u6.ne b8_5 (by omega)
      have b9_6 := u6.at_
      refine o_nil ?_; refine x_seq ?_; refine c_seq ?_; refine c_reg ?_
      refine mv rfl rfl (ldn rfl rfl (row_blk b8_6) rfl (ldn rfl rfl (row_blk b9_6) rfl (cll (first := []) (captured := []) (vs := [.agg (tyCells x _ _).toArray, .agg (tyCells y _ _).toArray]) rfl (a2 rfl rfl) (same1_fn hX hY ((((kN.ext n3.ext).upd u4 (by have := kN.n; omega)).ext n5.ext).upd u6 (by have := kN.n; omega))) rfl nofun (fun v7 h7 r7 => ?_))))
      obtain ⟨rfl, x7⟩ := r7
      have k_7 := (k_6.ext x7)
      have b8_7 := (x7.get b8_6)
      have b9_7 := (x7.get b9_6)
      refine nt rfl rfl ?_; refine o_nil ?_; refine x_seq ?_; refine c_cond rfl (fun c8 => ?_) (fun c8 => ?_)
      · refine c_seq ?_; refine c_reg ?_; refine asg rfl rfl ?_; refine o_nil ?_; refine x_seq ?_; refine c_ret ?_; refine x_blk_ret ?_
        refine x_seq_ret ?_; refine x_loop_ret ?_; refine x_blk_ret ?_; refine x_seq_ret ?_; refine ret1 (.inr rfl) rfl rfl ?_
        have c8 : ¬ x = y := c8
        refine ⟨congrArg Value.bool (tb_f (fun e => ?_)).symm, (k_7).toExt⟩
        rw [e, hyi] at hxi
        exact c8 (Option.some.inj hxi).symm
      · have c8 : x = y := Classical.not_not.1 c8
        refine c_skip ?_; refine x_blk ?_; refine x_seq ?_; refine c_reg ?_; refine add rfl rfl (by omega) rfl (mv rfl rfl ?_)
        refine o_nil ?_
        refine x_loop (i + 1, h7) ⟨hlt, k_7, ?_⟩ (by simp only; omega) ⟨rfl, rfl, rfl, rfl, rfl, rfl, trivial⟩ rfl
        simp only
        rw [List.take_add_one, List.take_add_one, hxi, hyi, htk, c8]
    · have hin : i = xs.length := by have := c2; simp only at this; omega
      subst hin
      refine c_exit ?_; refine x_seq_exit ?_; refine x_loop_exit ?_; refine x_blk_hit ?_; refine x_seq ?_; refine c_seq ?_; refine c_reg ?_
      refine asg rfl rfl ?_; refine o_nil ?_; refine x_seq ?_; refine c_ret ?_; refine ret1 (.inr rfl) rfl rfl ?_
      refine ⟨congrArg Value.bool (tb_t ?_).symm, (kg).toExt⟩
      rw [List.take_length, hlen, List.take_length] at htk
      exact htk
theorem same_fn {h : Heap} {fv gv : Value} {f g : Face} (hF : FaceV h.size h fv f) (hG : FaceV h.size h gv g) : Does Try.prog 25 [fv, gv] h (fun v h' => v = .bool (tb (f = g)) ∧ Ext h h') := by
  have kk : At h.size h h := At.refl (Nat.le_refl _)
  obtain ⟨vu, vt, vo, rfl, hn, hk, hU, hT, hO⟩ := hF
  obtain ⟨wu, wt, wo, rfl, hn', hk', hU', hT', hO'⟩ := hG
  have hU0 := hU
  have hT0 := hT
  have hO0 := hO
  have hU0' := hU'
  have hT0' := hT'
  have hO0' := hO'
  obtain ⟨ao, co, rfl⟩ := hO.form
  obtain ⟨au, cu, rfl⟩ := hU.form
  obtain ⟨at0, ct0, rfl⟩ := SliceAt.form hT
  obtain ⟨ao', co', rfl⟩ := hO'.form
  obtain ⟨au', cu', rfl⟩ := hU'.form
  obtain ⟨at', ct', rfl⟩ := SliceAt.form hT'
  refine fn_enter (N := 38) Try.func25 (by kernel_rfl) rfl rfl rfl (fun w0 => ?_)
  refine c_seq ?_; refine c_reg ?_; refine bx rfl nofun rfl (fun h1 n1 => ?_)
  have s1 : h1.size = h.size + 1 := n1.size
  have k_1 := kk.ext n1.ext
  have b2_1 := n1.at_
  refine bx rfl nofun rfl (fun h2 n2 => ?_)
  have s2 : h2.size = h1.size + 1 := n2.size
  have k_2 := k_1.ext n2.ext
  have b2_2 := n2.ext.get b2_1
  have b3_2 := n2.at_
  refine asg rfl rfl ?_; refine o_nil ?_; refine x_seq ?_; refine c_seq ?_; refine c_reg ?_
  refine fa rfl rfl (ld rfl (cell b2_2 rfl) rfl (fa rfl rfl (ld rfl (cell b3_2 rfl) rfl (eqs rfl rfl rfl (mv rfl rfl (gqt rfl rfl rfl (fun e => fa rfl rfl) (gqt rfl rfl rfl (fun e => ld (cg rfl e) (cell b2_2 rfl) rfl) ?_)))))))
  refine gqt rfl rfl rfl (fun e => fa rfl rfl) (gqt rfl rfl rfl (fun e => ld (cg rfl e) (cell b3_2 rfl) rfl) (gqt rfl rfl rfl (fun e => eqi (cg rfl e) (cg rfl e) rfl) ?_))
  refine pka rfl rfl rfl rfl (mv rfl rfl (gqt rfl rfl rfl (fun e => fa rfl rfl) (gqt rfl rfl rfl (fun e => ld (cg rfl e) (cell b2_2 rfl) rfl) (gqt rfl rfl rfl (fun e => fa rfl rfl) ?_))))
  refine gqt rfl rfl rfl (fun e => ld (cg rfl e) (cell b3_2 rfl) rfl) (gqt rfl rfl rfl (fun e => clp ((eqUsed_fn hU0 hU0' k_2)) (a2 (cg rfl e) (cg rfl e)) rfl) (pka rfl rfl rfl rfl ?_))
  refine mv rfl rfl (gqt rfl rfl rfl (fun e => fa rfl rfl) (gqt rfl rfl rfl (fun e => ld (cg rfl e) (cell b2_2 rfl) rfl) (gqt rfl rfl rfl (fun e => fa rfl rfl) (gqt rfl rfl rfl (fun e => ld (cg rfl e) (cell b3_2 rfl) rfl) ?_))))
  refine gqt rfl rfl rfl (fun e => clp ((eqObj_fn hO0 hO0' k_2)) (a2 (cg rfl e) (cg rfl e)) rfl) (pka rfl rfl rfl rfl (mv rfl rfl (gqt rfl rfl rfl (fun e => fa rfl rfl) ?_)))
  refine gqt rfl rfl rfl (fun e => ld (cg rfl e) (cell b2_2 rfl) rfl) (gqt rfl rfl rfl (fun e => fa rfl rfl) (gqt rfl rfl rfl (fun e => ld (cg rfl e) (cell b3_2 rfl) rfl) ?_))
  refine getr rfl rfl rfl (fun e kk => clE ((eqTys_fn hT0 hT0' k_2)) (a3 (cg rfl e) (cg rfl e) rfl) rfl kk) (fun h3 x3 => ?_)
  have s3 : h2.size ≤ h3.size := x3.size
  have k_3 := k_2.ext x3
  have b2_3 := x3.get b2_2
  have b3_3 := x3.get b3_2
  refine pka rfl rfl rfl rfl (asg rfl rfl ?_)
  refine o_nil ?_; refine x_seq ?_; refine c_ret ?_; refine ret1 (.inr rfl) rfl rfl ?_
  refine ⟨congrArg Value.bool (tb_of ?_), (k_3).toExt⟩
  obtain ⟨x1, x2, x3, x4, x5⟩ := f
  obtain ⟨y1, y2, y3, y4, y5⟩ := g
  simp only [Bool.and_eq_true, beq_iff_eq, tb_iff, Face.mk.injEq]
  constructor
  · rintro ⟨⟨⟨⟨e1, e2⟩, e3⟩, e5⟩, e4⟩
    exact ⟨e1, e2, e3, e4, e5⟩
  · rintro ⟨e1, e2, e3, e4, e5⟩
    exact ⟨⟨⟨⟨e1, e2⟩, e3⟩, e5⟩, e4⟩
end Go.Proofs.Ytgnkfegkdjfnjaa
