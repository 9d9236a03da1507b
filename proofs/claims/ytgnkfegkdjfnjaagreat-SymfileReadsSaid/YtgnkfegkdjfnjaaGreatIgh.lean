/- The walk of the reference's Good of tables. The walks of the reference's shaped and Good. Slices in blocks of their own; the walk of what copies a table of types. No condition but what each theorem says. -/
import Derived.Test.YtgnkfegkdjfnjaaGreatIgg
namespace Go.Proofs.YtgnkfegkdjfnjaaGreat
/-! The walk of the reference's Good of tables. No condition but what each theorem says. -/
section
open Go Go.Eng

theorem basic_rows {g : Heap} {v : Value} (h : BasicR g v) : ∃ bl c, v = .slice (some ⟨bl, 0, none⟩) 7 c ∧ bl < g.size ∧ ∀ i, i < 7 → Go.Eng.rowAt g bl (0 + i * 10) (tyCells (basicTy i) (.slice none 0 0) (.slice none 0 0)) := by
  obtain ⟨css, hO, h1, h2, h3⟩ := h
  have hO : Owns g 52 10 v 7 css.flatten := hO
  have hlt := hO.lt
  obtain ⟨bl, c, rfl, hr⟩ := hO.some (by decide)
  refine ⟨bl, c, rfl, hlt bl rfl, fun i hi => ?_⟩
  have hl : css.length = 7 := h1
  have hc : css[i]? = some (css[i]'(by omega)) := List.getElem?_eq_getElem _
  have := h3 i (basicTy i) _ (basic_at (by omega)) hc
  rw [← this]
  exact flat_row css 0 i _ h2 hr hc
theorem z64 : in64 0 := by unfold in64; omega
theorem basic_V {N : Nat} {h : Heap} {i : Nat} (hi : i < 7) : TyV N h (.agg (tyCells (basicTy i) (.slice none 0 0) (.slice none 0 0)).toArray) (basicTy i) :=
  ⟨_, rfl, ⟨Nat.zero_le _, Nat.zero_le _, by show in64 (i : Int); unfold in64; omega, z64, z64, z64, z64, z64⟩, _, _, rfl, SliceAt.nil _ _ _ _ _ _, SliceAt.nil _ _ _ _ _ _⟩
theorem free_step7 {E : Nat → List Int} {n : Nat} (hv : ∀ a, a < n → ∀ e ∈ E a, 0 ≤ e ∧ e < n) {M : List Int} (h : Free E n M) {a : Nat} (ha : a < n) :
    ((endsF E (n + 1) a M).1 = true → Free E n (endsF E (n + 1) a M).2 ∧ Ends E a) ∧ ((endsF E (n + 1) a M).1 = false → ∃ x, x < n ∧ ¬ Ends E x) := free_step hv h ha

set_option maxHeartbeats 2000000 in
theorem good13_fn {h : Heap} {vt : Value} {t : List Ty} (ht : TypesAt h.size h vt t) : Does Tryz.prog 69 [vt] h (fun v h' => v = .bool (tb (TGood t)) ∧ Ext h h') := by
  have ht0 := ht
  have hr13 := r13_iff t
  have htl := ht.1
  have hmx : maxLen = 9223372036854775807 := by decide
  have k0 : At h.size h h := At.refl (Nat.le_refl _)
  obtain ⟨at0, ct0, rfl⟩ := SliceAt.form ht
  refine fn_enter (N := 108) Tryz.func69 (by kernel_rfl) rfl rfl rfl (fun w0 => ?_)
  refine c_seq ?_; refine c_reg ?_; refine asg rfl rfl ?_; refine o_nil ?_; refine x_seq ?_
  refine c_seq ?_; refine c_seq ?_; refine c_reg ?_
  refine mv rfl rfl (lnl rfl rfl (lti rfl rfl rfl (mv rfl rfl (gqf rfl rfl rfl (fun e => mv rfl rfl) (gqf rfl rfl rfl (fun e => lnl (cg rfl e) rfl) (gqf rfl rfl rfl (fun e => gti (cg rfl e) rfl rfl) ?_))))))
  refine pko rfl rfl rfl rfl ?_; refine o_nil ?_; refine x_seq ?_; refine c_cond rfl (fun c1 => ?_) (fun c1 => ?_)
  · refine c_seq ?_; refine c_reg ?_; refine asg rfl rfl ?_; refine o_nil ?_; refine x_seq ?_; refine c_ret ?_; refine x_seq_ret ?_
    refine ret1 (.inr rfl) rfl rfl ?_
    exact ⟨congrArg Value.bool (tb_f (fun hg => by have := hg.1; omega)).symm, (k0).toExt⟩
  · have hlen : 7 ≤ t.length ∧ t.length ≤ 256 := by omega
    obtain ⟨b, o, c, hve, hb, hi⟩ := types_some ht (by omega)
    cases hve
    refine c_skip ?_; refine x_seq ?_; refine c_seq ?_; refine c_reg ?_; refine cl (vs := []) rfl ((basic13_fn)) rfl (fun v2 h2 r2 => ?_)
    obtain ⟨hB, x2, hBo⟩ := r2
    have k_2 := (k0.ext x2)
    refine asg rfl rfl ?_; refine o_nil ?_; refine x_seq ?_
    refine c_seq ?_; refine c_seq ?_; refine c_reg ?_; refine asg rfl rfl ?_; refine o_nil ?_; refine x_seq ?_; refine c_blk ?_
    refine c_loop (α := Nat × Heap) (fun s => [(0, .slice (some ⟨b, o, none⟩) t.length ct0), (3, v2), (4, i64 (s.1 : Nat))]) (fun s => s.2)
      (fun s => At h.size h s.2 ∧ BasicR s.2 v2 ∧ s.1 ≤ 7 ∧ ∀ j, j < s.1 → t[j]? = basic[j]?) (fun s => 7 - s.1) (0, h2) ⟨k_2, hB, Nat.zero_le _, fun j e => absurd e (Nat.not_lt_zero _)⟩ ⟨rfl, rfl, rfl, trivial⟩ rfl (fun s hs => ?_)
    obtain ⟨i, g⟩ := s
    obtain ⟨kg, hBg, hil, hup⟩ := hs
    simp only at kg hBg hil hup
    have kgn := kg.n
    change SC _ _ _ _ g
    refine c_seq ?_; refine c_seq ?_; refine c_reg ?_; refine mv rfl rfl (lti rfl rfl rfl ?_)
    refine o_nil ?_; refine x_seq ?_; refine c_cond rfl (fun c3 => ?_) (fun c3 => ?_)
    · have hlt : i < 7 := by have := c3; simp only at this; omega
      have hx : t[i]? = some (t[i]'(by omega)) := List.getElem?_eq_getElem _
      obtain ⟨bl, cb, hvb, hblt, hrows⟩ := basic_rows hBg
      have hrb := hrows i hlt
      generalize t[i]'(by omega) = x at *
      obtain ⟨cs, hcl, hrow, hR⟩ := hi i x hx
      have hV : TyV h.size h (.agg cs.toArray) x := ⟨cs, rfl, hR⟩
      have hrk := kg.k.row hb hrow
      obtain ⟨hfit, vf, vp, rfl, -⟩ := hR
      subst hvb
      refine c_skip ?_; refine x_seq ?_
      refine c_seq ?_; refine c_blk ?_; refine c_seq ?_
      refine c_treg (Mod (fun k => False) g) (some 8) [8, 7, 6, 5, 4, 3, 2, 1, 0] (.leaf [0, 1, 2, 3, 4, 5, 6, 7] [8, 9]) rfl (Mod.refl _ _) (by kernel_rfl) ?_
      have c0_1 : Mod (fun k => False) g g := Mod.refl _ _
      refine t_leaf ?_
      refine mv rfl rfl (mv rfl rfl (ixs rfl rfl (by omega) rfl (ldnI rfl rfl (fun _ hI => hI.row hrk (fun e => e)) rfl (mv rfl rfl (mv rfl rfl (ixs rfl rfl (by omega) rfl ?_))))))
      refine ldnI rfl rfl (fun _ hI => hI.row hrb (fun e => e)) rfl ?_
      refine o_nil ?_; refine x_tail ?_; refine clE ((alike_fn (TyV.keep hV (At.k kg) (At.n kg)) (basic_V hlt))) rfl rfl (fun h4 x4 => ?_)
      have s4 : g.size ≤ h4.size := x4.size
      have k_4 := kg.ext x4
      refine nt rfl rfl ?_; refine o_nil ?_; refine x_seq ?_; refine c_cond rfl (fun c5 => ?_) (fun c5 => ?_)
      · refine c_seq ?_; refine c_reg ?_; refine asg rfl rfl ?_; refine o_nil ?_; refine x_seq ?_; refine c_ret ?_; refine x_blk_ret ?_
        refine x_seq_ret ?_; refine x_loop_ret ?_; refine x_blk_ret ?_; refine x_seq_ret ?_; refine ret1 (.inr rfl) rfl rfl ?_
        refine ⟨congrArg Value.bool (tb_f (fun hg => ?_)).symm, (k_4).toExt⟩
        have := (hr13.2 hg).2.1 i hlt
        rw [hx, basic_at (by omega)] at this
        exact c5 (Option.some.inj this)
      · refine c_skip ?_; refine x_blk ?_; refine x_seq ?_; refine c_reg ?_; refine mv rfl rfl (add rfl rfl (by omega) rfl (asg rfl rfl ?_))
        refine o_nil ?_
        refine x_loop (i + 1, h4) ⟨k_4, hBg.mono x4 (fun _ _ e => e) (fun _ _ e => e), hlt, fun j hj => ?_⟩ (by simp only; omega) ⟨rfl, rfl, rfl, trivial⟩ rfl
        rcases Nat.lt_or_ge j i with e | e
        · exact hup j e
        · obtain rfl : j = i := by have := hj; simp only at this; omega
          rw [hx, basic_at (by omega), Classical.not_not.1 c5]
    · have hi7 : i = 7 := by have := c3; simp only at this; omega
      subst hi7
      refine c_exit ?_; refine x_seq_exit ?_; refine x_loop_exit ?_; refine x_blk_hit ?_; refine x_seq ?_
      refine c_seq ?_; refine c_seq ?_; refine c_reg ?_; refine asg rfl rfl ?_; refine o_nil ?_; refine x_seq ?_; refine c_blk ?_
      refine c_loop (α := Nat × Heap) (fun s => [(0, .slice (some ⟨b, o, none⟩) t.length ct0), (5, i64 (s.1 : Nat))]) (fun s => s.2)
        (fun s => At h.size h s.2 ∧ (7 ≤ s.1 ∧ s.1 ≤ t.length) ∧ ∀ j x, 7 ≤ j → j < s.1 → t[j]? = some x → OneP t j x) (fun s => t.length - s.1) (7, g) ⟨kg, ⟨Nat.le_refl _, hlen.1⟩, fun j x e1 e2 => absurd e2 (Nat.not_lt.2 e1)⟩ ⟨rfl, rfl, trivial⟩ rfl (fun s hs => ?_)
      obtain ⟨i, g2⟩ := s
      obtain ⟨kg2, hil2, hup2⟩ := hs
      simp only at kg2 hil2 hup2
      have kgn2 := kg2.n
      change SC _ _ _ _ g2
      refine c_seq ?_; refine c_seq ?_; refine c_reg ?_; refine mv rfl rfl (mv rfl rfl (lnl rfl rfl (lti rfl rfl rfl ?_)))
      refine o_nil ?_; refine x_seq ?_; refine c_cond rfl (fun c6 => ?_) (fun c6 => ?_)
      · have hlt : i < t.length := by have := c6; simp only at this; omega
        have hx : t[i]? = some t[i] := List.getElem?_eq_getElem hlt
        generalize t[i] = x at *
        refine c_skip ?_; refine x_seq ?_
        refine c_seq ?_; refine c_blk ?_; refine c_seq ?_; refine c_reg ?_
        refine mv rfl rfl (mv rfl rfl (clE ((one_fn (TypesAt.keep ht0 (At.k kg2) (At.n kg2)) i x hx)) rfl rfl (fun h7 x7 => ?_)))
        have s7 : g2.size ≤ h7.size := x7.size
        have k_7 := kg2.ext x7
        refine nt rfl rfl ?_; refine o_nil ?_; refine x_seq ?_; refine c_cond rfl (fun c8 => ?_) (fun c8 => ?_)
        · refine c_seq ?_; refine c_reg ?_; refine asg rfl rfl ?_; refine o_nil ?_; refine x_seq ?_; refine c_ret ?_; refine x_blk_ret ?_
          refine x_seq_ret ?_; refine x_loop_ret ?_; refine x_blk_ret ?_; refine x_seq_ret ?_; refine ret1 (.inr rfl) rfl rfl ?_
          exact ⟨congrArg Value.bool (tb_f (fun hg => c8 ((hr13.2 hg).2.2.1 i x hil2.1 hx))).symm, (k_7).toExt⟩
        · refine c_skip ?_; refine x_blk ?_; refine x_seq ?_; refine c_reg ?_; refine mv rfl rfl (add rfl rfl (by omega) rfl (asg rfl rfl ?_))
          refine o_nil ?_
          refine x_loop (i + 1, h7) ⟨k_7, by simp only; omega, fun j y h7 hj hy => ?_⟩ (by simp only; omega) ⟨rfl, rfl, trivial⟩ rfl
          rcases Nat.lt_or_ge j i with e | e
          · exact hup2 j y h7 e hy
          · obtain rfl : j = i := by have := hj; simp only at this; omega
            rw [hx] at hy; cases hy; exact Classical.not_not.1 c8
      · have hie : i = t.length := by have := c6; simp only at this; omega
        subst hie
        have hOne : ∀ (j : Nat) x, 7 ≤ j → t[j]? = some x → OneP t j x := fun j x h7 hj => hup2 j x h7 (List.getElem?_eq_some_iff.1 hj).1 hj
        have hN := r13_nodes hup hOne
        have hval := r13_valid hlen.1 hN
        refine c_exit ?_; refine x_seq_exit ?_; refine x_loop_exit ?_; refine x_blk_hit ?_; refine x_seq ?_; refine c_seq ?_; refine c_reg ?_
        refine mv rfl rfl (lnl rfl rfl (mks rfl rfl (by omega) nofun rfl (fun h9 n9 => ?_)))
        have s9 : h9.size = g2.size + 1 := n9.size
        have k_9 := kg2.ext n9.ext
        refine asg rfl rfl ?_; refine o_nil ?_; refine x_seq ?_
        refine c_seq ?_; refine c_seq ?_; refine c_reg ?_; refine asg rfl rfl ?_; refine o_nil ?_; refine x_seq ?_; refine c_blk ?_
        refine c_loop (α := Nat × List Int × Heap) (fun s => [(0, .slice (some ⟨b, o, none⟩) t.length ct0), (6, .slice (some ⟨g2.size, 0, none⟩) t.length t.length), (7, i64 (s.1 : Nat))]) (fun s => s.2.2)
          (fun s => At h.size h s.2.2 ∧ (7 ≤ s.1 ∧ s.1 ≤ t.length) ∧ MetAt s.2.2 g2.size s.2.1 ∧ Free (edges13 t) t.length s.2.1 ∧ (∀ a, 7 ≤ a → a < s.1 → Ends (edges13 t) a) ∧ ∀ j, 7 ≤ j → j < s.1 → PairP t j)
          (fun s => t.length - s.1) (7, List.replicate t.length 0, h9) ⟨k_9, ⟨Nat.le_refl _, hlen.1⟩, ?_, free_zero _ _, fun a e1 e2 => absurd e2 (Nat.not_lt.2 e1), fun a e1 e2 => absurd e2 (Nat.not_lt.2 e1)⟩ ⟨rfl, rfl, rfl, trivial⟩ rfl (fun s hs => ?_)
        · unfold MetAt
          rw [n9.at_]
          simp [icells]
        obtain ⟨i, M, g3⟩ := s
        obtain ⟨kg3, hil3, hM, hfree, hends, hpair⟩ := hs
        simp only at kg3 hil3 hM hfree hends hpair
        have kgn3 := kg3.n
        change SC _ _ _ _ g3
        refine c_seq ?_; refine c_seq ?_; refine c_reg ?_; refine mv rfl rfl (mv rfl rfl (lnl rfl rfl (lti rfl rfl rfl ?_)))
        refine o_nil ?_; refine x_seq ?_; refine c_cond rfl (fun c10 => ?_) (fun c10 => ?_)
        · have hlt : i < t.length := by have := c10; simp only at this; omega
          have hstep := free_step hval hfree hlt
          have hz := zeros_le M
          have hMlen := hfree.len
          have hx : t[i]? = some t[i] := List.getElem?_eq_getElem hlt
          generalize t[i] = x at *
          obtain ⟨cs, hcl, hrow, hfit, vf, vp, rfl, -⟩ := hi i x hx
          refine c_skip ?_; refine x_seq ?_
          refine c_seq ?_; refine c_blk ?_
          refine c_seq ?_; refine c_seq ?_; refine c_reg ?_
          refine mv rfl rfl (mv rfl rfl (mv rfl rfl (cl (vs := [.slice (some ⟨b, o, none⟩) t.length ct0, i64 (i : Nat), .slice (some ⟨g2.size, 0, none⟩) t.length t.length]) rfl ((round_fn ht0 hval hN.few g2.size kgn2 (t.length + 1) i M _ (by omega) kg3 hM hMlen hfree.col hlt)) rfl (fun v11 h11 r11 => ?_))))
          obtain ⟨rfl, M11, q11⟩ := r11
          have k_11 := (kg3.mod q11 (fun k e => by have := e; omega))
          refine o_nil ?_; refine x_seq ?_; refine c_cond rfl (fun c12 => ?_) (fun c12 => ?_)
          · refine c_seq ?_; refine c_reg ?_; refine asg rfl rfl ?_; refine o_nil ?_; refine x_seq ?_; refine c_ret ?_; refine x_seq_ret ?_
            refine x_blk_ret ?_; refine x_seq_ret ?_; refine x_loop_ret ?_; refine x_blk_ret ?_; refine x_seq_ret ?_; refine ret1 (.inr rfl) rfl rfl ?_
            refine ⟨congrArg Value.bool (tb_f (fun hg => ?_)).symm, (k_11).toExt⟩
            have c12 : ¬ (endsF (edges13 t) (t.length + 1) i M).1 = true := c12
            obtain ⟨a, ha, hne⟩ := hstep.2 (by simpa using c12)
            exact hne (Ends.mono (E := edges t) (fun b e he => .inl (edges13_sub he)) (hg.2.2.1 a ha))
          · have c12 : (endsF (edges13 t) (t.length + 1) i M).1 = true := Classical.not_not.1 c12
            obtain ⟨hf2, he2⟩ := hstep.1 c12
            refine c_skip ?_; refine x_seq ?_; refine c_seq ?_; refine c_reg ?_; refine asg rfl rfl ?_; refine o_nil ?_; refine x_seq ?_
            refine c_blk ?_
            refine c_loop (α := Nat) (fun s => [(0, .slice (some ⟨b, o, none⟩) t.length ct0), (6, .slice (some ⟨g2.size, 0, none⟩) t.length t.length), (7, i64 (i : Nat)), (8, i64 (s : Nat))]) (fun _ => h11)
              (fun s => (7 ≤ s ∧ s ≤ i) ∧ ∀ k x y, 7 ≤ k → k < s → t[i]? = some x → t[k]? = some y → ¬ ((((x.form = 9 ∧ y.form = 9) ∧ x.mod = y.mod) ∧ x.desc = y.desc) ∧ ¬ x.desc = -1)) (fun s => i - s) 7 ⟨⟨Nat.le_refl _, hil3.1⟩, fun k x y e1 e2 => absurd e2 (Nat.not_lt.2 e1)⟩ ⟨rfl, rfl, rfl, rfl, trivial⟩ rfl (fun q hs => ?_)
            obtain ⟨hql, hupq⟩ := hs
            change SC _ _ _ _ h11
            refine c_seq ?_; refine c_seq ?_; refine c_reg ?_; refine mv rfl rfl (mv rfl rfl (lti rfl rfl rfl ?_))
            refine o_nil ?_; refine x_seq ?_; refine c_cond rfl (fun c13 => ?_) (fun c13 => ?_)
            · have hlq : q < i := by have := c13; omega
              have hy : t[q]? = some (t[q]'(by omega)) := List.getElem?_eq_getElem _
              generalize t[q]'(by omega) = y at *
              obtain ⟨cs', hcl', hrow', hfit', vf', vp', rfl, -⟩ := hi q y hy
              have r1 := k_11.k.row hb hrow
              have r2 := k_11.k.row hb hrow'
              refine c_skip ?_; refine x_seq ?_
              refine c_seq ?_; refine c_blk ?_; refine c_seq ?_
              refine c_dreg (· = h11) [0, 1, 2, 3, 4, 5, 6, 7, 8, 9, 10, 11, 12, 13, 14, 15, 16, 17, 18, 19, 20, 21, 22, 23, 24, 25, 26, 27, 28, 29, 30, 31, 32, 33, 34, 35, 36, 37, 38, 39, 40, 41, 42, 43, 44, 45, 46, 47] rfl rfl (by kernel_rfl) ?_
              refine mv rfl rfl (mv rfl rfl (ixs rfl rfl (by omega) rfl (fa rfl rfl (ldI rfl (fun _ hI => by subst hI; exact r1 0 _ rfl) rfl (eqi rfl rfl rfl (mv rfl rfl (gqt rfl rfl rfl (fun e => mv rfl rfl) ?_)))))))
              refine gqt rfl rfl rfl (fun e => mv rfl rfl) (gqt rfl rfl rfl (fun e => ixs (cg rfl e) (cg rfl e) (by omega) rfl) (gqt rfl rfl rfl (fun e => fa (cg rfl e) rfl) ?_))
              refine gqt rfl rfl rfl (fun e => ldI (cg rfl e) (fun _ hI => by subst hI; exact r2 0 _ rfl) rfl) (gqt rfl rfl rfl (fun e => eqi (cg rfl e) rfl rfl) (pka rfl rfl rfl rfl ?_))
              refine mv rfl rfl (gqt rfl rfl rfl (fun e => mv rfl rfl) (gqt rfl rfl rfl (fun e => mv rfl rfl) (gqt rfl rfl rfl (fun e => ixs (cg rfl e) (cg rfl e) (by omega) rfl) ?_)))
              refine gqt rfl rfl rfl (fun e => fa (cg rfl e) rfl) (gqt rfl rfl rfl (fun e => ldI (cg rfl e) (fun _ hI => by subst hI; exact r1 1 _ rfl) rfl) (gqt rfl rfl rfl (fun e => mv rfl rfl) ?_))
              refine gqt rfl rfl rfl (fun e => mv rfl rfl) (gqt rfl rfl rfl (fun e => ixs (cg rfl e) (cg rfl e) (by omega) rfl) (gqt rfl rfl rfl (fun e => fa (cg rfl e) rfl) ?_))
              refine gqt rfl rfl rfl (fun e => ldI (cg rfl e) (fun _ hI => by subst hI; exact r2 1 _ rfl) rfl) (gqt rfl rfl rfl (fun e => eqs (cg rfl e) (cg rfl e) rfl) (pka rfl rfl rfl rfl ?_))
              refine mv rfl rfl (gqt rfl rfl rfl (fun e => mv rfl rfl) (gqt rfl rfl rfl (fun e => mv rfl rfl) (gqt rfl rfl rfl (fun e => ixs (cg rfl e) (cg rfl e) (by omega) rfl) ?_)))
              refine gqt rfl rfl rfl (fun e => fa (cg rfl e) rfl) (gqt rfl rfl rfl (fun e => ldI (cg rfl e) (fun _ hI => by subst hI; exact r1 9 _ rfl) rfl) (gqt rfl rfl rfl (fun e => mv rfl rfl) ?_))
              refine gqt rfl rfl rfl (fun e => mv rfl rfl) (gqt rfl rfl rfl (fun e => ixs (cg rfl e) (cg rfl e) (by omega) rfl) (gqt rfl rfl rfl (fun e => fa (cg rfl e) rfl) ?_))
              refine gqt rfl rfl rfl (fun e => ldI (cg rfl e) (fun _ hI => by subst hI; exact r2 9 _ rfl) rfl) (gqt rfl rfl rfl (fun e => eqi (cg rfl e) (cg rfl e) rfl) (pka rfl rfl rfl rfl ?_))
              refine mv rfl rfl (gqt rfl rfl rfl (fun e => mv rfl rfl) (gqt rfl rfl rfl (fun e => mv rfl rfl) (gqt rfl rfl rfl (fun e => ixs (cg rfl e) (cg rfl e) (by omega) rfl) ?_)))
              refine gqt rfl rfl rfl (fun e => fa (cg rfl e) rfl) (gqt rfl rfl rfl (fun e => ldI (cg rfl e) (fun _ hI => by subst hI; exact r1 9 _ rfl) rfl) (gqt rfl rfl rfl (fun e => nei (cg rfl e) rfl rfl) ?_))
              refine pka rfl rfl rfl rfl ?_; refine o_nil ?_; refine x_seq ?_; refine c_cond rfl (fun c14 => ?_) (fun c14 => ?_)
              · refine c_seq ?_; refine c_reg ?_; refine asg rfl rfl ?_; refine o_nil ?_; refine x_seq ?_; refine c_ret ?_; refine x_blk_ret ?_
                refine x_seq_ret ?_; refine x_loop_ret ?_; refine x_blk_ret ?_; refine x_blk_ret ?_; refine x_seq_ret ?_; refine x_loop_ret ?_
                refine x_blk_ret ?_; refine x_seq_ret ?_; refine ret1 (.inr rfl) rfl rfl ?_
                exact ⟨congrArg Value.bool (tb_f (fun hg => (hr13.2 hg).2.2.2.2 i hil3.1 hlt q x y hql.1 hlq hx hy c14)).symm, (k_11).toExt⟩
              · refine c_skip ?_; refine x_blk ?_; refine x_seq ?_; refine c_reg ?_; refine mv rfl rfl (add rfl rfl (by omega) rfl (asg rfl rfl ?_))
                refine o_nil ?_
                refine x_loop (q + 1) ⟨by omega, fun k x' y' h7 hk hx' hy' => ?_⟩ (by omega) ⟨rfl, rfl, rfl, rfl, trivial⟩ rfl
                rcases Nat.lt_or_ge k q with e | e
                · exact hupq k x' y' h7 e hx' hy'
                · rw [hx] at hx'; cases hx'
                  obtain rfl : k = q := by omega
                  rw [hy] at hy'; cases hy'; exact c14
            · have hqe : q = i := by have := c13; omega
              subst hqe
              refine c_exit ?_; refine x_seq_exit ?_; refine x_loop_exit ?_; refine x_blk_hit ?_; refine x_blk ?_; refine x_seq ?_; refine c_reg ?_
              refine mv rfl rfl (add rfl rfl (by omega) rfl (asg rfl rfl ?_))
              refine o_nil ?_
              refine x_loop (q + 1, (endsF (edges13 t) (t.length + 1) q M).2, h11) ⟨k_11, by simp only; omega, M11, hf2, fun a h7 ha => ?_, fun a h7 ha => ?_⟩ (by simp only; omega) ⟨rfl, rfl, rfl, trivial⟩ rfl
              · rcases Nat.lt_or_ge a q with e | e
                · exact hends a h7 e
                · rw [show a = q by have := ha; simp only at this; omega]; exact he2
              · rcases Nat.lt_or_ge a q with e | e
                · exact hpair a h7 e
                · rw [show a = q by have := ha; simp only at this; omega]
                  exact fun k x y e1 e2 e3 e4 => hupq k x y e1 e2 e3 e4
        · have hie : i = t.length := by have := c10; simp only at this; omega
          subst hie
          refine c_exit ?_; refine x_seq_exit ?_; refine x_loop_exit ?_; refine x_blk_hit ?_; refine x_seq ?_; refine c_seq ?_; refine c_reg ?_
          refine asg rfl rfl ?_; refine o_nil ?_; refine x_seq ?_; refine c_ret ?_; refine ret1 (.inr rfl) rfl rfl ?_
          exact ⟨congrArg Value.bool (tb_t (hr13.1 ⟨hlen, hup, hOne, hends, hpair⟩)).symm, (kg3).toExt⟩
end

/-! The walks of the reference's shaped and Good. No condition but what each theorem says. -/
section
open Go Go.Eng

theorem take_mem {α : Type} {l : List α} {i : Nat} {v : α} (h : v ∈ l.take i) : ∃ j, j < i ∧ l[j]? = some v := by
  obtain ⟨j, hj⟩ := List.mem_iff_getElem?.1 h
  have hl := (List.getElem?_eq_some_iff.1 hj).1
  rw [List.length_take] at hl
  rw [List.getElem?_take, if_pos (by omega)] at hj
  exact ⟨j, by omega, hj⟩
theorem names_ne {α : Type} {l : List α} (g : α → Bytes) (h : (l.map g).Nodup) {i j : Nat} {x y : α} (hij : i ≠ j) (hx : l[i]? = some x) (hy : l[j]? = some y) : g x ≠ g y := by
  intro e
  have h1 : (l.map g)[i]? = some (g x) := by rw [List.getElem?_map, hx]; rfl
  have h2 : (l.map g)[j]? = some (g x) := by rw [List.getElem?_map, hy, e]; rfl
  exact hij ((List.getElem?_inj (List.getElem?_eq_some_iff.1 h1).1 h).1 (h1.trans h2.symm))

set_option maxHeartbeats 2000000 in
theorem shaped_fn {h : Heap} {fv : Value} {f : Face} (hF : FaceV h.size h fv f) : Does Tryz.prog 56 [fv] h (fun v h' => v = .bool (tb (ShapedP f)) ∧ Ext h h') := by
  have hF0 := hF
  obtain ⟨vu, vt, vo, rfl, hn, hk, hU, hT, hO⟩ := hF
  have hO0 := hO
  have hU0 := hU
  have hT0 := hT
  obtain ⟨ao, co, rfl⟩ := hO.form
  obtain ⟨au, cu, rfl⟩ := hU.form
  obtain ⟨at0, ct0, rfl⟩ := SliceAt.form hT
  have hol := hO.1
  have hul := hU.1
  have htl := hT.1
  have hmx : maxLen = 9223372036854775807 := by decide
  have k0 : At h.size h h := At.refl (Nat.le_refl _)
  refine fn_enter (N := 111) Tryz.func56 (by kernel_rfl) rfl rfl rfl (fun w0 => ?_)
  refine c_seq ?_; refine c_reg ?_; refine bx rfl nofun rfl (fun h1 n1 => ?_)
  have s1 : h1.size = h.size + 1 := n1.size
  have k_1 := k0.ext n1.ext
  have b1_1 := n1.at_
  refine asg rfl rfl ?_; refine o_nil ?_; refine x_seq ?_
  refine c_seq ?_; refine c_seq ?_; refine c_reg ?_
  refine fa rfl rfl (ld rfl (cell b1_1 rfl) rfl (clp (word16_fn _ _) rfl rfl (nt rfl rfl (mv rfl rfl (gqf rfl rfl rfl (fun e => fa rfl rfl) (gqf rfl rfl rfl (fun e => ld (cg rfl e) (cell b1_1 rfl) rfl) ?_))))))
  refine gqf rfl rfl rfl (fun e => lnl (cg rfl e) rfl) (gqf rfl rfl rfl (fun e => gti (cg rfl e) rfl rfl) (pko rfl rfl rfl rfl (mv rfl rfl (gqf rfl rfl rfl (fun e => fa rfl rfl) ?_))))
  refine gqf rfl rfl rfl (fun e => ld (cg rfl e) (cell b1_1 rfl) rfl) (gqf rfl rfl rfl (fun e => lnl (cg rfl e) rfl) (gqf rfl rfl rfl (fun e => gti (cg rfl e) rfl rfl) ?_))
  refine pko rfl rfl rfl rfl (mv rfl rfl (gqf rfl rfl rfl (fun e => fa rfl rfl) (gqf rfl rfl rfl (fun e => ld (cg rfl e) (cell b1_1 rfl) rfl) (gef rfl rfl rfl (fun e kk => clE ((good13_fn (TypesAt.keep hT0 (At.k k_1) (At.n k_1)))) (a1 (cg rfl e)) rfl kk) (fun h2 x2 => ?_)))))
  have s2 : h1.size ≤ h2.size := x2.size
  have k_2 := k_1.ext x2
  have b1_2 := x2.get b1_1
  refine gqf rfl rfl rfl (fun e => nt (cg rfl e) rfl) (pko rfl rfl rfl rfl (mv rfl rfl (gqf rfl rfl rfl (fun e => ldn rfl rfl (row_blk b1_2) rfl) (gef rfl rfl rfl (fun e kk => clE ((named16_fn (FaceV.keep hF0 (At.k k_2) (At.n k_2)) (Classical.byContradiction fun hg => e (.inr hg)))) (a1 (cg rfl e)) rfl kk) (fun h3 x3 => ?_)))))
  have s3 : h2.size ≤ h3.size := x3.size
  have k_3 := k_2.ext x3
  have b1_3 := x3.get b1_2
  refine gqf rfl rfl rfl (fun e => nt (cg rfl e) rfl) (pko rfl rfl rfl rfl ?_)
  refine o_nil ?_; refine x_seq ?_; refine c_cond rfl (fun c4 => ?_) (fun c4 => ?_)
  · refine c_seq ?_; refine c_reg ?_; refine asg rfl rfl ?_; refine o_nil ?_; refine x_seq ?_; refine c_ret ?_; refine x_seq_ret ?_
    refine ret1 (.inr rfl) rfl rfl ?_
    refine ⟨congrArg Value.bool (tb_f (fun hs => ?_)).symm, (k_3).toExt⟩
    obtain ⟨⟨a1, a2, a3, a4⟩, -, a5, -⟩ := hs
    rcases c4 with (((c | c) | c) | c) | c
    · exact c a1
    · omega
    · omega
    · exact c a4
    · exact c a5
  · have e1 : WordP f.name := Classical.byContradiction fun e => c4 (.inl (.inl (.inl (.inl e))))
    have e2 : f.uses.length ≤ 16 := by have := fun e => c4 (.inl (.inl (.inl (.inr e)))); omega
    have e3 : f.objs.length ≤ 64 := by have := fun e => c4 (.inl (.inl (.inr e))); omega
    have e4 : TGood f.types := Classical.byContradiction fun e => c4 (.inl (.inr e))
    have e5 : TypesP f := Classical.byContradiction fun e => c4 (.inr e)
    refine c_skip ?_; refine x_seq ?_
    refine c_seq ?_; refine c_seq ?_; refine c_reg ?_; refine asg rfl rfl ?_; refine o_nil ?_; refine x_seq ?_; refine c_blk ?_
    refine c_loop (α := Nat) (fun s => [(1, ptr h.size 0), (3, i64 (s : Nat))]) (fun _ => h3)
      (fun i => i ≤ f.uses.length ∧ upTo f.uses (fun u => WordP u.name ∧ u.name ≠ f.name) i ∧ ((f.uses.take i).map (·.name)).Nodup) (fun i => f.uses.length - i) 0 ⟨Nat.zero_le _, upTo_zero _ _, .nil⟩ ⟨rfl, rfl, trivial⟩ rfl (fun i hs => ?_)
    obtain ⟨hil, hup, hnd⟩ := hs
    change SC _ _ _ _ h3
    refine c_seq ?_; refine c_seq ?_; refine c_reg ?_; refine mv rfl rfl (fa rfl rfl (ld rfl (cell b1_3 rfl) rfl (lnl rfl rfl (lti rfl rfl rfl ?_))))
    refine o_nil ?_; refine x_seq ?_; refine c_cond rfl (fun c5 => ?_) (fun c5 => ?_)
    · have hlt : i < f.uses.length := by have := c5; omega
      have hxi : f.uses[i]? = some f.uses[i] := List.getElem?_eq_getElem hlt
      obtain ⟨b2, o2, cs2, ha2, hb2, hl2, hr2, hR2⟩ := SliceAt.el hU0 k_3 hxi
      have htk := take_map (·.name) hxi
      generalize f.uses[i] = u at *
      subst ha2
      obtain ⟨rfl, hq, -⟩ := hR2
      refine c_skip ?_; refine x_seq ?_
      refine c_seq ?_; refine c_blk ?_
      refine c_seq ?_; refine c_seq ?_
      refine c_treg (Mod (fun k => False) h3) (some 17) [17, 16, 15, 14, 13, 12, 11, 10, 9, 8, 7, 6, 5, 4, 3, 2, 1, 0] (.leaf [0, 1, 2, 3, 4, 5, 6, 7, 8, 9, 10, 11, 12, 13, 14, 15, 16] [17, 18]) rfl (Mod.refl _ _) (by kernel_rfl) ?_
      have c0_1 : Mod (fun k => False) h3 h3 := Mod.refl _ _
      refine t_leaf ?_
      refine fa rfl rfl (ldI rfl (fun _ hI => cell (hI.get b1_3 (by first | exact id | (intro e; have e : _ = _ := e; omega) | assumption)) rfl) rfl (mv rfl rfl (ixs rfl rfl (by omega) rfl ?_)))
      refine fa rfl rfl (ldI rfl (fun _ hI => Mod.cell hI (hr2 0 _ rfl) (by first | exact id | (intro e; have e : _ = _ := e; omega) | assumption)) rfl (clpI (word16_fn _ _) rfl c0_1 rfl ?_))
      refine nt rfl rfl (mv rfl rfl (gqf rfl rfl rfl (fun e => fa rfl rfl) (gqf rfl rfl rfl (fun e => ldI (cg rfl e) (fun _ hI => cell (hI.get b1_3 (by first | exact id | (intro e; have e : _ = _ := e; omega) | assumption)) rfl) rfl) ?_)))
      refine gqf rfl rfl rfl (fun e => mv rfl rfl) (gqf rfl rfl rfl (fun e => ixs (cg rfl e) (cg rfl e) (by omega) rfl) (gqf rfl rfl rfl (fun e => fa (cg rfl e) rfl) ?_))
      refine gqf rfl rfl rfl (fun e => ldI (cg rfl e) (fun _ hI => Mod.cell hI (hr2 0 _ rfl) (by first | exact id | (intro e; have e : _ = _ := e; omega) | assumption)) rfl) ?_
      refine gqf rfl rfl rfl (fun e => fa rfl rfl) (gqf rfl rfl rfl (fun e => ldI (cg rfl e) (fun _ hI => cell (hI.get b1_3 (by first | exact id | (intro e; have e : _ = _ := e; omega) | assumption)) rfl) rfl) ?_)
      refine o_nil ?_; refine x_tail ?_; refine gqf rfl rfl rfl (fun e => eqs (cg rfl e) (cg rfl e) rfl) (pko rfl rfl rfl rfl ?_)
      refine o_nil ?_; refine x_seq ?_; refine c_cond rfl (fun c6 => ?_) (fun c6 => ?_)
      · refine c_seq ?_; refine c_reg ?_; refine asg rfl rfl ?_; refine o_nil ?_; refine x_seq ?_; refine c_ret ?_; refine x_seq_ret ?_
        refine x_blk_ret ?_; refine x_seq_ret ?_; refine x_loop_ret ?_; refine x_blk_ret ?_; refine x_seq_ret ?_; refine ret1 (.inr rfl) rfl rfl ?_
        refine ⟨congrArg Value.bool (tb_f (fun hs => ?_)).symm, (k_3).toExt⟩
        obtain ⟨-, ⟨q1, q2⟩, -⟩ := hs
        have hum := List.mem_of_getElem? hxi
        rcases c6 with c | c
        · exact c (q2 u hum)
        · rw [List.nodup_cons] at q1
          exact q1.1 (List.mem_map.2 ⟨u, hum, c⟩)
      · have hW : WordP u.name ∧ u.name ≠ f.name := ⟨Classical.byContradiction fun e => c6 (.inl e), fun e => c6 (.inr e)⟩
        refine c_skip ?_; refine x_seq ?_; refine c_seq ?_; refine c_reg ?_; refine asg rfl rfl ?_; refine o_nil ?_; refine x_seq ?_; refine c_blk ?_
        refine c_loop (α := Nat) (fun s => [(1, ptr h.size 0), (3, i64 (i : Nat)), (4, i64 (s : Nat))]) (fun _ => h3)
          (fun q => q ≤ i ∧ upTo f.uses (fun v => ¬ v.name = u.name) q) (fun q => i - q) 0 ⟨Nat.zero_le _, upTo_zero _ _⟩ ⟨rfl, rfl, rfl, trivial⟩ rfl (fun q hs => ?_)
        obtain ⟨hql, hupq⟩ := hs
        change SC _ _ _ _ h3
        refine c_seq ?_; refine c_seq ?_; refine c_reg ?_; refine mv rfl rfl (mv rfl rfl (lti rfl rfl rfl ?_))
        refine o_nil ?_; refine x_seq ?_; refine c_cond rfl (fun c7 => ?_) (fun c7 => ?_)
        · have hlq : q < i := by have := c7; omega
          have hyi : f.uses[q]? = some (f.uses[q]'(by omega)) := List.getElem?_eq_getElem _
          obtain ⟨b3, o3, cs3, ha3, hb3, hl3, hr3, hR3⟩ := SliceAt.el hU0 k_3 hyi
          generalize f.uses[q]'(by omega) = v at *
          cases ha3
          obtain ⟨rfl, hq3, -⟩ := hR3
          refine c_skip ?_; refine x_seq ?_
          refine c_seq ?_; refine c_blk ?_; refine c_seq ?_
          refine c_dreg (· = h3) [0, 1, 2, 3, 4, 5, 6, 7, 8, 9, 10, 11, 12] rfl rfl (by kernel_rfl) ?_
          refine fa rfl rfl (ldI rfl (fun _ hI => by subst hI; exact cell b1_3 rfl) rfl (mv rfl rfl (ixs rfl rfl (by omega) rfl (fa rfl rfl (ldI rfl (fun _ hI => by subst hI; exact (hr3 0 _ rfl)) rfl ?_)))))
          refine fa rfl rfl (ldI rfl (fun _ hI => by subst hI; exact cell b1_3 rfl) rfl (mv rfl rfl (ixs rfl rfl (by omega) rfl (fa rfl rfl (ldI rfl (fun _ hI => by subst hI; exact (hr2 0 _ rfl)) rfl ?_)))))
          refine eqs rfl rfl rfl ?_; refine o_nil ?_; refine x_seq ?_; refine c_cond rfl (fun c8 => ?_) (fun c8 => ?_)
          · refine c_seq ?_; refine c_reg ?_; refine asg rfl rfl ?_; refine o_nil ?_; refine x_seq ?_; refine c_ret ?_; refine x_blk_ret ?_
            refine x_seq_ret ?_; refine x_loop_ret ?_; refine x_blk_ret ?_; refine x_blk_ret ?_; refine x_seq_ret ?_; refine x_loop_ret ?_
            refine x_blk_ret ?_; refine x_seq_ret ?_; refine ret1 (.inr rfl) rfl rfl ?_
            refine ⟨congrArg Value.bool (tb_f (fun hs => ?_)).symm, (k_3).toExt⟩
            have q1 := hs.2.1.1
            rw [List.nodup_cons] at q1
            exact names_ne (·.name) q1.2 (by omega) hyi hxi c8
          · refine c_skip ?_; refine x_blk ?_; refine x_seq ?_; refine c_reg ?_; refine mv rfl rfl (add rfl rfl (by omega) rfl (asg rfl rfl ?_))
            refine o_nil ?_
            exact x_loop (q + 1) ⟨by omega, (upTo_succ hyi).2 ⟨hupq, c8⟩⟩ (by omega) ⟨rfl, rfl, rfl, trivial⟩ rfl
        · have hqe : q = i := by have := c7; omega
          subst hqe
          refine c_exit ?_; refine x_seq_exit ?_; refine x_loop_exit ?_; refine x_blk_hit ?_; refine x_blk ?_; refine x_seq ?_; refine c_reg ?_
          refine mv rfl rfl (add rfl rfl (by omega) rfl (asg rfl rfl ?_))
          refine o_nil ?_
          refine x_loop (q + 1) ⟨hlt, (upTo_succ hxi).2 ⟨hup, hW⟩, ?_⟩ (by omega) ⟨rfl, rfl, trivial⟩ rfl
          rw [htk]
          refine nodup_snoc hnd (fun e => ?_)
          obtain ⟨v, hv, hvn⟩ := List.mem_map.1 e
          obtain ⟨j, hj, hvj⟩ := take_mem hv
          exact hupq j v hj hvj hvn
    · have hie : i = f.uses.length := by have := c5; omega
      subst hie
      rw [List.take_length] at hnd
      have hUse : UsesP f := ⟨by
       rw [List.nodup_cons]
       refine ⟨fun e => ?_, hnd⟩
       obtain ⟨u, hu, hn⟩ := List.mem_map.1 e
       exact (upTo_all.1 hup u hu).2 hn, fun u hu => (upTo_all.1 hup u hu).1⟩
      clear hup hnd hil
      refine c_exit ?_; refine x_seq_exit ?_; refine x_loop_exit ?_; refine x_blk_hit ?_; refine x_seq ?_
      refine c_seq ?_; refine c_seq ?_; refine c_reg ?_; refine asg rfl rfl ?_; refine o_nil ?_; refine x_seq ?_; refine c_blk ?_
      refine c_loop (α := Nat × Heap) (fun s => [(1, ptr h.size 0), (5, i64 (s.1 : Nat))]) (fun s => s.2)
        (fun s => At h.size h s.2 ∧ s.2[h.size]? = some (.cells #[str f.name, .int .u32 f.key, .slice au f.uses.length cu, .slice at0 f.types.length ct0, .slice ao f.objs.length co] 28 (0, 0)) ∧ s.1 ≤ f.objs.length ∧ upTo f.objs (ObjP f.types) s.1 ∧ ((f.objs.take s.1).map (·.name)).Nodup) (fun s => f.objs.length - s.1) (0, h3) ⟨k_3, b1_3, Nat.zero_le _, upTo_zero _ _, .nil⟩ ⟨rfl, rfl, trivial⟩ rfl (fun s hs => ?_)
      obtain ⟨i, g⟩ := s
      obtain ⟨kg, g1, hil, hup, hnd⟩ := hs
      simp only at kg g1 hil hup hnd
      have kgn := kg.n
      have g1l := lt_of_get g1
      change SC _ _ _ _ g
      refine c_seq ?_; refine c_seq ?_; refine c_reg ?_; refine mv rfl rfl (fa rfl rfl (ld rfl (cell g1 rfl) rfl (lnl rfl rfl (lti rfl rfl rfl ?_))))
      refine o_nil ?_; refine x_seq ?_; refine c_cond rfl (fun c9 => ?_) (fun c9 => ?_)
      · have hlt : i < f.objs.length := by have := c9; simp only at this; omega
        have hxi : f.objs[i]? = some f.objs[i] := List.getElem?_eq_getElem hlt
        obtain ⟨b2, o2, cs2, ha2, hb2, hl2, hr2, hR2⟩ := SliceAt.el hO0 kg hxi
        have htk := take_map (·.name) hxi
        generalize f.objs[i] = u at *
        subst ha2
        obtain ⟨rfl, hq, -⟩ := hR2
        refine c_skip ?_; refine x_seq ?_
        refine c_seq ?_; refine c_blk ?_
        refine c_seq ?_; refine c_seq ?_
        refine c_treg (Mod (fun k => False) g) (some 6) [6, 5, 4, 3, 2, 1, 0] (.leaf [0, 1, 2, 3, 4, 5] [6, 7]) rfl (Mod.refl _ _) (by kernel_rfl) ?_
        have c0_3 : Mod (fun k => False) g g := Mod.refl _ _
        refine t_leaf ?_
        refine ldnI rfl rfl (fun _ hI => row_blk (hI.get g1 (by first | exact id | (intro e; have e : _ = _ := e; omega) | assumption))) rfl (fa rfl rfl (ldI rfl (fun _ hI => cell (hI.get g1 (by first | exact id | (intro e; have e : _ = _ := e; omega) | assumption)) rfl) rfl ?_))
        refine mv rfl rfl (ixs rfl rfl (by omega) rfl (ldnI rfl rfl (fun _ hI => Mod.row hI hr2 (by first | exact id | (intro e; have e : _ = _ := e; omega) | assumption)) rfl ?_))
        refine o_nil ?_; refine x_tail ?_; refine clE ((obj16_fn hF0 kg e4)) rfl rfl (fun h10 x10 => ?_)
        have s10 : g.size ≤ h10.size := x10.size
        have k_10 := kg.ext x10
        have g1_10 := x10.get g1
        refine nt rfl rfl ?_; refine o_nil ?_; refine x_seq ?_; refine c_cond rfl (fun c11 => ?_) (fun c11 => ?_)
        · refine c_seq ?_; refine c_reg ?_; refine asg rfl rfl ?_; refine o_nil ?_; refine x_seq ?_; refine c_ret ?_; refine x_seq_ret ?_
          refine x_blk_ret ?_; refine x_seq_ret ?_; refine x_loop_ret ?_; refine x_blk_ret ?_; refine x_seq_ret ?_; refine ret1 (.inr rfl) rfl rfl ?_
          exact ⟨congrArg Value.bool (tb_f (fun hs => c11 (hs.2.2.2.2 u (List.mem_of_getElem? hxi)))).symm, (k_10).toExt⟩
        · refine c_skip ?_; refine x_seq ?_; refine c_seq ?_; refine c_reg ?_; refine asg rfl rfl ?_; refine o_nil ?_; refine x_seq ?_; refine c_blk ?_
          refine c_loop (α := Nat) (fun s => [(1, ptr h.size 0), (5, i64 (i : Nat)), (6, i64 (s : Nat))]) (fun _ => h10)
            (fun q => q ≤ i ∧ upTo f.objs (fun v => ¬ v.name = u.name) q) (fun q => i - q) 0 ⟨Nat.zero_le _, upTo_zero _ _⟩ ⟨rfl, rfl, rfl, trivial⟩ rfl (fun q hs => ?_)
          obtain ⟨hql, hupq⟩ := hs
          change SC _ _ _ _ h10
          refine c_seq ?_; refine c_seq ?_; refine c_reg ?_; refine mv rfl rfl (mv rfl rfl (lti rfl rfl rfl ?_))
          refine o_nil ?_; refine x_seq ?_; refine c_cond rfl (fun c12 => ?_) (fun c12 => ?_)
          · have hlq : q < i := by have := c12; omega
            have hyi : f.objs[q]? = some (f.objs[q]'(by omega)) := List.getElem?_eq_getElem _
            obtain ⟨b3, o3, cs3, ha3, hb3, hl3, hr3, hR3⟩ := SliceAt.el hO0 k_10 hyi
            obtain ⟨b4, o4, cs4, ha4, hb4, hl4, hr4, hR4⟩ := SliceAt.el hO0 k_10 hxi
            generalize f.objs[q]'(by omega) = v at *
            cases ha3
            cases ha4
            obtain ⟨rfl, hq3, -⟩ := hR3
            obtain ⟨rfl, -⟩ := hR4
            refine c_skip ?_; refine x_seq ?_
            refine c_seq ?_; refine c_blk ?_; refine c_seq ?_
            refine c_dreg (· = h10) [0, 1, 2, 3, 4, 5, 6, 7, 8, 9, 10, 11, 12] rfl rfl (by kernel_rfl) ?_
            refine fa rfl rfl (ldI rfl (fun _ hI => by subst hI; exact cell g1_10 rfl) rfl (mv rfl rfl (ixs rfl rfl (by omega) rfl (fa rfl rfl (ldI rfl (fun _ hI => by subst hI; exact (hr3 1 _ rfl)) rfl ?_)))))
            refine fa rfl rfl (ldI rfl (fun _ hI => by subst hI; exact cell g1_10 rfl) rfl (mv rfl rfl (ixs rfl rfl (by omega) rfl (fa rfl rfl (ldI rfl (fun _ hI => by subst hI; exact (hr4 1 _ rfl)) rfl ?_)))))
            refine eqs rfl rfl rfl ?_; refine o_nil ?_; refine x_seq ?_; refine c_cond rfl (fun c13 => ?_) (fun c13 => ?_)
            · refine c_seq ?_; refine c_reg ?_; refine asg rfl rfl ?_; refine o_nil ?_; refine x_seq ?_; refine c_ret ?_; refine x_blk_ret ?_
              refine x_seq_ret ?_; refine x_loop_ret ?_; refine x_blk_ret ?_; refine x_blk_ret ?_; refine x_seq_ret ?_; refine x_loop_ret ?_
              refine x_blk_ret ?_; refine x_seq_ret ?_; refine ret1 (.inr rfl) rfl rfl ?_
              exact ⟨congrArg Value.bool (tb_f (fun hs => names_ne (·.name) hs.2.2.2.1 (by omega) hyi hxi c13)).symm, (k_10).toExt⟩
            · refine c_skip ?_; refine x_blk ?_; refine x_seq ?_; refine c_reg ?_; refine mv rfl rfl (add rfl rfl (by omega) rfl (asg rfl rfl ?_))
              refine o_nil ?_
              exact x_loop (q + 1) ⟨by omega, (upTo_succ hyi).2 ⟨hupq, c13⟩⟩ (by omega) ⟨rfl, rfl, rfl, trivial⟩ rfl
          · have hqe : q = i := by have := c12; omega
            subst hqe
            refine c_exit ?_; refine x_seq_exit ?_; refine x_loop_exit ?_; refine x_blk_hit ?_; refine x_blk ?_; refine x_seq ?_; refine c_reg ?_
            refine mv rfl rfl (add rfl rfl (by omega) rfl (asg rfl rfl ?_))
            refine o_nil ?_
            refine x_loop (q + 1, h10) ⟨k_10, g1_10, hlt, (upTo_succ hxi).2 ⟨hup, Classical.not_not.1 c11⟩, ?_⟩ (by simp only; omega) ⟨rfl, rfl, trivial⟩ rfl
            simp only; rw [htk]
            refine nodup_snoc hnd (fun e => ?_)
            obtain ⟨v, hv, hvn⟩ := List.mem_map.1 e
            obtain ⟨j, hj, hvj⟩ := take_mem hv
            exact hupq j v hj hvj hvn
      · have hie : i = f.objs.length := by have := c9; simp only at this; omega
        subst hie
        rw [List.take_length] at hnd
        refine c_exit ?_; refine x_seq_exit ?_; refine x_loop_exit ?_; refine x_blk_hit ?_; refine x_seq ?_; refine c_seq ?_; refine c_reg ?_
        refine asg rfl rfl ?_; refine o_nil ?_; refine x_seq ?_; refine c_ret ?_; refine ret1 (.inr rfl) rfl rfl ?_
        exact ⟨congrArg Value.bool (tb_t ⟨⟨e1, e2, e3, e4⟩, hUse, e5, hnd, upTo_all.1 hup⟩).symm, (kg).toExt⟩
theorem good16_fn {h : Heap} {fv : Value} {f : Face} (hF : FaceV h.size h fv f) : Does Tryz.prog 31 [fv] h (fun v h' => v = .bool (tb (FGood f)) ∧ Ext h h') := by
  have k0 : At h.size h h := At.refl (Nat.le_refl _)
  have hF0 := hF
  obtain ⟨vu, vt, vo, rfl, hn, hk, hU, hT, hO⟩ := hF
  refine fn_enter (N := 9) Tryz.func31 (by kernel_rfl) rfl rfl rfl (fun w0 => ?_)
  refine c_seq ?_; refine c_reg ?_; refine bx rfl nofun rfl (fun h1 n1 => ?_)
  have s1 : h1.size = h.size + 1 := n1.size
  have k_1 := k0.ext n1.ext
  have b1_1 := n1.at_
  refine asg rfl rfl ?_; refine o_nil ?_; refine x_seq ?_; refine c_seq ?_; refine c_reg ?_
  refine ldn rfl rfl (row_blk b1_1) rfl (clE ((shaped_fn (FaceV.keep hF0 (At.k k_1) (At.n k_1)))) rfl rfl (fun h2 x2 => ?_))
  have s2 : h1.size ≤ h2.size := x2.size
  have k_2 := k_1.ext x2
  have b1_2 := x2.get b1_1
  refine mv rfl rfl (gqt rfl rfl rfl (fun e => ldn rfl rfl (row_blk b1_2) rfl) (getr rfl rfl rfl (fun e kk => clE ((numbered_fn (FaceV.keep hF0 (At.k k_2) (At.n k_2)))) (a1 (cg rfl e)) rfl kk) (fun h3 x3 => ?_)))
  have s3 : h2.size ≤ h3.size := x3.size
  have k_3 := k_2.ext x3
  have b1_3 := x3.get b1_2
  refine pka rfl rfl rfl rfl (asg rfl rfl ?_)
  refine o_nil ?_; refine x_seq ?_; refine c_ret ?_; refine ret1 (.inr rfl) rfl rfl ?_
  exact ⟨vtb ⟨fun e => ⟨e.1, (num_drop e.1).1 e.2⟩, fun e => ⟨e.1, (num_drop e.1).2 e.2⟩⟩, (k_3).toExt⟩
end

/-! Slices in blocks of their own; the walk of what copies a table of types. No condition but what each theorem says. -/
section
open Go Go.Eng

/-- a slice's value holds these things, in blocks of B -/
def SliceB {α : Type} (B : Nat → Prop) (h : Heap) (sz : Nat) (R : α → List Value → Prop) (v : Value) (xs : List α) : Prop :=
  xs.length ≤ maxLen ∧ ∃ a c, v = .slice a xs.length c ∧ ∀ i x, xs[i]? = some x → ∃ b o cs, a = some ⟨b, o, none⟩ ∧ (b < h.size ∧ B b) ∧ cs.length = sz ∧ Go.Eng.rowAt h b (o + i * sz) cs ∧ R x cs
theorem SliceB.mod {α : Type} {B B' : Nat → Prop} {S : Nat → Prop} {h h' : Heap} {sz : Nat} {R : α → List Value → Prop} {v : Value} {xs : List α} (a : SliceB B h sz R v xs) (x : Go.Eng.Mod S h h') (hS : ∀ b, b < h.size → B b → ¬ S b ∧ B' b) : SliceB B' h' sz R v xs := by
  obtain ⟨hl, a, c, rfl, hi⟩ := a
  refine ⟨hl, a, c, rfl, fun i y hy => ?_⟩
  obtain ⟨b, o, cs, ha, hb, hl, hr, hR1⟩ := hi i y hy
  have hs := hS b hb.1 hb.2
  exact ⟨b, o, cs, ha, ⟨Nat.lt_of_lt_of_le hb.1 x.size, hs.2⟩, hl, x.row hr hs.1, hR1⟩
theorem SliceB.at_ {α : Type} {B : Nat → Prop} {N : Nat} {h : Heap} {sz : Nat} {R : α → List Value → Prop} {v : Value} {xs : List α} (a : SliceB B h sz R v xs) (hB : ∀ b, b < h.size → B b → b < N) : SliceAt N h sz (fun _ => R) v xs := by
  obtain ⟨hl, a, c, rfl, hi⟩ := a
  refine ⟨hl, a, c, rfl, fun i y hy => ?_⟩
  obtain ⟨b, o, cs, ha, hb, r⟩ := hi i y hy
  exact ⟨b, o, cs, ha, hB b hb.1 hb.2, r⟩
theorem SliceB.form {α : Type} {B : Nat → Prop} {h : Heap} {sz : Nat} {R : α → List Value → Prop} {v : Value} {xs : List α} (a : SliceB B h sz R v xs) : ∃ a c, v = .slice a xs.length c := by
  obtain ⟨_, a, c, h, _⟩ := a; exact ⟨a, c, h⟩
theorem SliceB.mono {α : Type} {B B' : Nat → Prop} {h : Heap} {sz : Nat} {R : α → List Value → Prop} {v : Value} {xs : List α} (a : SliceB B h sz R v xs) (hS : ∀ b, b < h.size → B b → B' b) : SliceB B' h sz R v xs :=
  a.mod (Go.Eng.Mod.refl (fun _ => False) h) (fun b h1 h2 => ⟨fun e => e, hS b h1 h2⟩)
theorem rows_flat {h : Heap} {b sz : Nat} : ∀ (css : List (List Value)) (o : Nat), (∀ c ∈ css, c.length = sz) → (∀ (i : Nat) cs, css[i]? = some cs → Go.Eng.rowAt h b (o + i * sz) cs) → Go.Eng.rowAt h b o css.flatten
  | [], _, _, _ => fun j v hv => by simp at hv
  | c :: css, o, hl, hr => by
    have hc := hl c (List.mem_cons_self ..)
    have h0 := hr 0 c rfl
    have ih := rows_flat (h := h) (b := b) css (o + sz) (fun d hd => hl d (List.mem_cons_of_mem _ hd)) (fun i cs hi => by
      have := hr (i + 1) cs hi
      rwa [show o + (i + 1) * sz = o + sz + i * sz by rw [Nat.add_mul]; omega] at this)
    intro j v hv
    rw [List.flatten_cons] at hv
    by_cases hj : j < c.length
    · rw [List.getElem?_append_left hj] at hv
      have := h0 j v hv
      simpa using this
    · rw [List.getElem?_append_right (by omega)] at hv
      have := ih (j - c.length) v hv
      rwa [show o + sz + (j - c.length) = o + j by omega] at this
theorem flat_len {sz : Nat} : ∀ (css : List (List Value)), (∀ c ∈ css, c.length = sz) → css.flatten.length = css.length * sz
  | [], _ => by simp
  | c :: css, hl => by
    rw [List.flatten_cons, List.length_append, flat_len css (fun d hd => hl d (List.mem_cons_of_mem _ hd)), hl c (List.mem_cons_self ..), List.length_cons, Nat.add_mul]; omega
/-- what an append takes from such a slice -/
theorem _root_.Go.Eng.SliceAt.src {α : Type} (P : Program) {N : Nat} {h0 h : Heap} {sz : Nat} {R : Heap → α → List Value → Prop} {v : Value} {xs : List α} (s : SliceAt N h0 sz R v xs) (k : At N h0 h) :
    ∃ css : List (List Value), Src P h sz v xs.length css.flatten ∧ css.length = xs.length ∧ (∀ c ∈ css, c.length = sz) ∧ ∀ (i : Nat) x cs, xs[i]? = some x → css[i]? = some cs → R h0 x cs := by
  obtain ⟨hl, a, c, rfl, hi⟩ := s
  have hcs : ∀ i : Nat, ∃ cs : List Value, i < xs.length → ∃ b o, a = some ⟨b, o, none⟩ ∧ cs.length = sz ∧ Go.Eng.rowAt h b (o + i * sz) cs ∧ ∀ x, xs[i]? = some x → R h0 x cs := by
    intro i
    by_cases hil : i < xs.length
    · have hx : xs[i]? = some xs[i] := List.getElem?_eq_getElem hil
      obtain ⟨b, o, cs, ha, hb, hcl, hr, hR⟩ := hi i _ hx
      exact ⟨cs, fun _ => ⟨b, o, ha, hcl, k.k.row hb hr, fun x e => by rw [hx] at e; cases e; exact hR⟩⟩
    · exact ⟨[], fun e => absurd e hil⟩
  obtain ⟨g, hg⟩ := Classical.skolem.1 hcs
  have hget : ∀ (i : Nat) cs, ((List.range xs.length).map g)[i]? = some cs → i < xs.length ∧ cs = g i := by
    intro i cs he
    have hil := (List.getElem?_eq_some_iff.1 he).1
    simp only [List.length_map, List.length_range] at hil
    rw [List.getElem?_map, List.getElem?_range hil] at he
    exact ⟨hil, (Option.some.inj he).symm⟩
  have hlen : ∀ cs ∈ (List.range xs.length).map g, cs.length = sz := by
    intro cs he
    obtain ⟨i, hi⟩ := List.mem_iff_getElem?.1 he
    obtain ⟨hil, rfl⟩ := hget i cs hi
    obtain ⟨_, _, _, hcl, _⟩ := hg i hil
    exact hcl
  refine ⟨(List.range xs.length).map g, ?_, by simp, hlen, fun i x cs hx he => ?_⟩
  · by_cases h0 : xs.length = 0
    · rw [h0]; exact Src.nil
    · obtain ⟨b, o, rfl, -⟩ := hg 0 (by omega)
      refine Src.slice (by rw [flat_len _ hlen]; simp) (rows_flat _ o hlen fun i cs he => ?_)
      obtain ⟨hil, rfl⟩ := hget i cs he
      obtain ⟨b', o', e, -, hr, -⟩ := hg i hil
      cases e; exact hr
  · obtain ⟨hil, rfl⟩ := hget i cs he
    obtain ⟨_, _, _, _, _, hR⟩ := hg i hil
    exact hR x hx
/-- .. taken into a slice of its own -/
theorem own_slice {α : Type} {h' : Heap} {E sz n : Nat} {R : α → List Value → Prop} {v' : Value} {xs : List α} {css : List (List Value)} (hn : n = xs.length) (hl : xs.length ≤ maxLen) (o : Owns h' E sz v' n css.flatten) (h1 : css.length = xs.length) (h2 : ∀ c ∈ css, c.length = sz)
    (h3 : ∀ (i : Nat) x cs, xs[i]? = some x → css[i]? = some cs → R x cs) : SliceB (fun b => ownB v' b) h' sz R v' xs := by
  subst hn
  refine ⟨hl, ?_⟩
  have hlt := o.lt
  rcases o.2 with ⟨rfl, hn⟩ | ⟨g, cap, cur, rfl, hg, rest⟩
  · exact ⟨none, 0, by rw [hn], fun i x hx => by have := (List.getElem?_eq_some_iff.1 hx).1; omega⟩
  · refine ⟨some ⟨g, 0, none⟩, cap, rfl, fun i x hx => ?_⟩
    have hil := (List.getElem?_eq_some_iff.1 hx).1
    have hc : css[i]? = some (css[i]'(by omega)) := List.getElem?_eq_getElem (by omega)
    exact ⟨g, 0, _, rfl, ⟨hlt g rfl, rfl⟩, h2 _ (List.getElem_mem _), flat_row css 0 i _ h2 o.row.2 hc, h3 i x _ hx hc⟩
theorem flat_ones {α : Type} {xs : List α} {R : α → List Value → Prop} {css : List (List Value)} (h1 : css.length = xs.length) (h3 : ∀ (i : Nat) x cs, xs[i]? = some x → css[i]? = some cs → R x cs) (hR : ∀ x cs, R x cs → ∀ u ∈ cs, u.oneCell' = true) : ∀ u ∈ css.flatten, u.oneCell' = true := by
  intro u hu
  obtain ⟨cs, hcs, hu⟩ := List.mem_flatten.1 hu
  obtain ⟨i, hi⟩ := List.mem_iff_getElem?.1 hcs
  have hil := (List.getElem?_eq_some_iff.1 hi).1
  exact hR _ _ (h3 i _ cs (List.getElem?_eq_getElem (by omega)) hi) u hu
theorem fld_ones {h : Heap} : ∀ (x : Fld) cs, fldR h x cs → ∀ u ∈ cs, u.oneCell' = true := by
  intro x cs ⟨hc, _⟩ u hu; subst hc; simp at hu; rcases hu with rfl | rfl | rfl <;> rfl
theorem par_ones {h : Heap} : ∀ (x : Par) cs, parR h x cs → ∀ u ∈ cs, u.oneCell' = true := by
  intro x cs ⟨hc, _⟩ u hu; subst hc; simp at hu; rcases hu with rfl | rfl <;> rfl
/-- a type's row, its lists in blocks of B -/
def TyB (B : Nat → Prop) (h : Heap) (x : Ty) (cs : List Value) : Prop := x.fits ∧ ∃ vf vp, cs = tyCells x vf vp ∧ SliceB B h 3 (fldR h) vf x.fields ∧ SliceB B h 2 (parR h) vp x.params
theorem fldR_any {h h' : Heap} {x : Fld} {cs : List Value} (a : fldR h x cs) : fldR h' x cs := a
theorem TyB.mod {B B' : Nat → Prop} {S : Nat → Prop} {h h' : Heap} {x : Ty} {cs : List Value} (a : TyB B h x cs) (m : Go.Eng.Mod S h h') (hS : ∀ b, b < h.size → B b → ¬ S b ∧ B' b) : TyB B' h' x cs := by
  obtain ⟨hf, vf, vp, hc, h1, h2⟩ := a
  exact ⟨hf, vf, vp, hc, h1.mod m hS, h2.mod m hS⟩
theorem TyB.at_ {B : Nat → Prop} {h : Heap} {x : Ty} {cs : List Value} (a : TyB B h x cs) : tyR h.size h x cs := by
  obtain ⟨hf, vf, vp, hc, h1, h2⟩ := a
  exact ⟨hf, vf, vp, hc, h1.at_ (fun b hb _ => hb), h2.at_ (fun b hb _ => hb)⟩
/-- a list of types that owns its block; what its types name lies elsewhere; all in blocks of B -/
structure TysOwn (B : Nat → Prop) (h : Heap) (v : Value) (xs : List Ty) : Prop where
  own : OwnS h 52 10 (TyB (fun b => ¬ ownB v b ∧ B b) h) v xs
  low : ∀ b, ownB v b → B b
theorem TysOwn.nil (B : Nat → Prop) (h : Heap) : TysOwn B h (.slice none 0 0) [] := ⟨OwnS.nil _ _ _ _, fun b e => by simp [ownB, Value.ownBlock] at e⟩
theorem TysOwn.lt {B : Nat → Prop} {h : Heap} {v : Value} {xs : List Ty} (a : TysOwn B h v xs) : ∀ b, ownB v b → b < h.size := by
  obtain ⟨cells, o⟩ := OwnS.own a.own
  exact o.lt
theorem TysOwn.mod {S : Nat → Prop} {B : Nat → Prop} {h h' : Heap} {v : Value} {xs : List Ty} (a : TysOwn B h v xs) (m : Go.Eng.Mod S h h') (hS : ∀ b, B b → b < h.size → ¬ S b) : TysOwn B h' v xs :=
  ⟨OwnS.mono a.own m (fun k hk => hS k (a.low k hk) (a.lt k hk)) (fun _ _ r => r.mod m (fun b hb hB => ⟨hS b hB.2 hb, hB⟩)), a.low⟩
theorem TysOwn.mono {B B' : Nat → Prop} {h : Heap} {v : Value} {xs : List Ty} (a : TysOwn B h v xs) (hM : ∀ b, b < h.size → B b → B' b) : TysOwn B' h v xs :=
  ⟨OwnS.mono a.own (Go.Eng.Mod.refl (fun _ => False) h) (fun _ _ e => e) (fun _ _ r => r.mod (Go.Eng.Mod.refl (fun _ => False) h) (fun b hb e => ⟨fun e => e, e.1, hM b hb e.2⟩)), fun b e => hM b (a.lt b e) (a.low b e)⟩
theorem TysOwn.at_ {B : Nat → Prop} {h : Heap} {v : Value} {xs : List Ty} (a : TysOwn B h v xs) (hl : xs.length ≤ maxLen) : TypesAt h.size h v xs :=
  OwnS.at_ (R := tyR h.size) (OwnS.mono a.own (Go.Eng.Mod.refl (fun _ => False) h) (fun _ _ e => e) (fun _ _ r => r.at_)) hl a.lt
theorem tyCells_ones {x : Ty} {vf vp : Value} (h1 : vf.oneCell' = true) (h2 : vp.oneCell' = true) : ∀ u ∈ tyCells x vf vp, u.oneCell' = true := by
  intro u hu
  simp only [tyCells, List.mem_cons, List.not_mem_nil, or_false] at hu
  rcases hu with rfl | rfl | rfl | rfl | rfl | rfl | rfl | rfl | rfl | rfl <;> first | rfl | assumption
/-- .. one more at its end -/
theorem TysOwn.snoc {B : Nat → Prop} {h h' : Heap} {v v' : Value} {xs : List Ty} {x : Ty} {cs : List Value} {css : List (List Value)} (h1 : css.length = xs.length) (h2 : ∀ c ∈ css, c.length = 10) (h3 : ∀ (i : Nat) x cs, xs[i]? = some x → css[i]? = some cs → TyB (fun b => ¬ ownB v b ∧ B b) h x cs)
    (o : Owns h' 52 10 v' (xs.length + 1) (css.flatten ++ cs)) (m : Go.Eng.Mod (ownB v) h h') (f : ∀ k, ownB v' k → ownB v k ∨ h.size ≤ k) (hl : ∀ b, ownB v b → B b) (hN : ∀ b, h.size ≤ b → B b) (hx : TyB (fun b => ¬ ownB v b ∧ B b) h x cs) : TysOwn B h' v' (xs ++ [x]) := by
  have up : ∀ {y : Ty} {ds : List Value}, TyB (fun b => ¬ ownB v b ∧ B b) h y ds → TyB (fun b => ¬ ownB v' b ∧ B b) h' y ds := fun r => r.mod m (fun b hb hB => ⟨hB.1, fun e => (f b e).elim hB.1 (fun e => by omega), hB.2⟩)
  have hcl : cs.length = 10 := by obtain ⟨-, vf, vp, rfl, -⟩ := hx; rfl
  exact ⟨OwnS.snoc h1 h2 (fun i y ds hy hd => up (h3 i y ds hy hd)) o hcl (up hx), fun b e => (f b e).elim (hl b) (hN b)⟩

end
end Go.Proofs.YtgnkfegkdjfnjaaGreat
