/- The walk of the reference's one. The walk of the reference's round. The walks of the first seven types, and of what tells types alike. The reference's good tables are the program's. Plain. No condition but what each theorem says. -/
import Derived.Test.YtgnkfegkdjfnjaaGreatIgf
namespace Go.Proofs.YtgnkfegkdjfnjaaGreat
/-! The walk of the reference's one. No condition but what each theorem says. -/
section
open Go Go.Eng

def Bad1 (x : Ty) : Prop := (¬ x.form = 9 ∧ (¬ x.desc = 0 ∨ ¬ ((x.mod == []) = (x.name == [])))) ∨ (x.form = 9 ∧ ((x.mod = [] ∨ x.desc < -1) ∨ 63 < x.desc))
def Bad2 (x : Ty) : Prop := (¬ x.mod = [] ∧ ¬ WordP x.mod) ∨ (¬ x.name = [] ∧ ¬ WordP x.name)
def Bad3 (x : Ty) : Prop := (((¬ x.form = 7 ∧ ¬ x.len = 0) ∨ (((¬ x.form = 7 ∧ ¬ x.form = 8) ∧ ¬ x.form = 10) ∧ ¬ x.elem = 0)) ∨ (¬ x.form = 9 ∧ (¬ x.base = 0 ∨ 0 < (x.fields.length : Int)))) ∨ (¬ x.form = 11 ∧ (0 < (x.params.length : Int) ∨ ¬ x.res = 0))
def ParR (t : List Ty) (p : Par) : Prop := HoldsP t p.type ∨ ((0 ≤ p.type ∧ p.type < t.length) ∧ formOf t p.type = 8)
def Kind13 (t : List Ty) (a : Nat) (x : Ty) : Prop :=
  (x.form = 7 ∧ (1 ≤ x.len ∧ x.len ≤ 4096) ∧ HoldsP t x.elem) ∨ (x.form = 8 ∧ (HoldsP t x.elem ∨ ((0 ≤ x.elem ∧ x.elem < t.length) ∧ formOf t x.elem = 8))) ∨
  (x.form = 10 ∧ (0 ≤ x.elem ∧ x.elem < t.length) ∧ formOf t x.elem = 9) ∨ (x.form = 9 ∧ RecP t a) ∨
  (x.form = 11 ∧ (x.params.length : Int) ≤ 64 ∧ (∀ p ∈ x.params, ParR t p) ∧ (x.res = 0 ∨ ((HoldsP t x.res ∧ ¬ formOf t x.res = 7) ∧ ¬ formOf t x.res = 9)))
def OneP (t : List Ty) (a : Nat) (x : Ty) : Prop := ¬ Bad1 x ∧ ¬ Bad2 x ∧ ¬ Bad3 x ∧ Kind13 t a x
theorem holds_fn2 {N : Nat} {h0 h : Heap} {vt : Value} {t : List Ty} (ht : TypesAt N h0 vt t) (k : At N h0 h) (hl : 0 < t.length) (i : Int) : Does Tryz.prog 90 [vt, i64 i] h (fun v h' => h' = h ∧ v = .bool (tb ((0 ≤ i ∧ i < t.length) ∧ HoldsF (formOf t i)))) := holds_fn ht k hl i

set_option maxHeartbeats 2000000 in
theorem one_fn {h : Heap} {vt : Value} {t : List Ty} (ht : TypesAt h.size h vt t) (a : Nat) (x : Ty) (hx : t[a]? = some x) : Does Tryz.prog 79 [vt, i64 (a : Int)] h (fun v h' => v = .bool (tb (OneP t a x)) ∧ Ext h h') := by
  have ht0 := ht
  have ha := (List.getElem?_eq_some_iff.1 hx).1
  obtain ⟨b, o, c, rfl, hb, hi⟩ := types_some ht (by omega)
  have htl := ht.1
  have hmx : maxLen = 9223372036854775807 := by decide
  have k0 : At h.size h h := At.refl (Nat.le_refl _)
  have hxl : 0 < t.length := by omega
  obtain ⟨cs, -, hrow, hfit, vf, vp, rfl, hF, hP⟩ := hi a x hx
  have hP0 := hP
  obtain ⟨af, cf, rfl⟩ := hF.form
  obtain ⟨ap, cp, rfl⟩ := hP.form
  refine fn_enter (N := 254) Tryz.func79 (by kernel_rfl) rfl rfl rfl (fun w0 => ?_)
  refine c_seq ?_; refine c_reg ?_; refine asg rfl rfl ?_; refine o_nil ?_; refine x_seq ?_; refine c_seq ?_; refine c_reg ?_
  refine mv rfl rfl (mv rfl rfl (ixs rfl rfl (by omega) rfl (ldn rfl rfl hrow rfl (alc nofun rfl (fun h1 n1 => ?_)))))
  have s1 : h1.size = h.size + 1 := n1.size
  have k_1 := k0.ext n1.ext
  have b5_1 := n1.at_
  refine stw rfl rfl rfl (ones rfl) b5_1 rfl nofun (fun h2 u2 => ?_)
  have s2 : h2.size = h1.size := u2.size
  have k_2 := k_1.upd u2 (by omega)
  have b5_2 := u2.at_
  refine o_nil ?_; refine x_seq ?_
  refine c_seq ?_; refine c_seq ?_; refine c_reg ?_
  refine fa rfl rfl (ld rfl (cell b5_2 rfl) rfl (nei rfl rfl rfl (mv rfl rfl (gqt rfl rfl rfl (fun e => fa rfl rfl) (gqt rfl rfl rfl (fun e => ld (cg rfl e) (cell b5_2 rfl) rfl) ?_)))))
  refine gqt rfl rfl rfl (fun e => nei (cg rfl e) rfl rfl) (gqt rfl rfl rfl (fun e => mv (cg rfl e) rfl) (gqf2 rfl rfl rfl (fun e => fa rfl rfl) (gqf2 rfl rfl rfl (fun e => ld (cg rfl e) (cell b5_2 rfl) rfl) ?_)))
  refine gqf2 rfl rfl rfl (fun e => eqs (cg rfl e) rfl rfl) (gqf2 rfl rfl rfl (fun e => fa rfl rfl) (gqf2 rfl rfl rfl (fun e => ld (cg rfl e) (cell b5_2 rfl) rfl) ?_))
  refine gqf2 rfl rfl rfl (fun e => eqs (cg rfl e) rfl rfl) (gqf2 rfl rfl rfl (fun e => neb (cg rfl e) (cg rfl e) rfl) (gqt rfl rfl rfl (fun e => pko (cg rfl e) rfl (cg2 rfl e) rfl) ?_))
  refine pka rfl rfl rfl rfl (mv rfl rfl (gqf rfl rfl rfl (fun e => fa rfl rfl) (gqf rfl rfl rfl (fun e => ld (cg rfl e) (cell b5_2 rfl) rfl) (gqf rfl rfl rfl (fun e => eqi (cg rfl e) rfl rfl) ?_))))
  refine gqf rfl rfl rfl (fun e => mv (cg rfl e) rfl) (gqt2 rfl rfl rfl (fun e => fa rfl rfl) (gqt2 rfl rfl rfl (fun e => ld (cg rfl e) (cell b5_2 rfl) rfl) (gqt2 rfl rfl rfl (fun e => eqs (cg rfl e) rfl rfl) ?_)))
  refine gqt2 rfl rfl rfl (fun e => mv (cg rfl e) rfl) (gqf2 rfl rfl rfl (fun e => fa rfl rfl) (gqf2 rfl rfl rfl (fun e => ld (cg rfl e) (cell b5_2 rfl) rfl) (gqf2 rfl rfl rfl (fun e => lti (cg rfl e) rfl rfl) ?_)))
  refine gqt2 rfl rfl rfl (fun e => pko (cg rfl e) rfl (cg2 rfl e) rfl) (gqt2 rfl rfl rfl (fun e => mv (cg rfl e) rfl) (gqf2 rfl rfl rfl (fun e => fa rfl rfl) (gqf2 rfl rfl rfl (fun e => ld (cg rfl e) (cell b5_2 rfl) rfl) ?_)))
  refine gqf2 rfl rfl rfl (fun e => gti (cg rfl e) rfl rfl) (gqt2 rfl rfl rfl (fun e => pko (cg rfl e) rfl (cg2 rfl e) rfl) (gqf rfl rfl rfl (fun e => pka (cg rfl e) (cg2 rfl e) rfl rfl) ?_))
  refine pko rfl rfl rfl rfl ?_; refine o_nil ?_; refine x_seq ?_; refine c_cond rfl (fun c3 => ?_) (fun c3 => ?_)
  · refine c_seq ?_; refine c_reg ?_; refine asg rfl rfl ?_; refine o_nil ?_; refine x_seq ?_; refine c_ret ?_; refine x_seq_ret ?_
    refine ret1 (.inr rfl) rfl rfl ?_
    exact ⟨congrArg Value.bool (tb_f (fun hs => hs.1 c3)).symm, (k_2).toExt⟩
  · refine c_skip ?_; refine x_seq ?_
    refine c_seq ?_; refine c_seq ?_; refine c_reg ?_
    refine fa rfl rfl (ld rfl (cell b5_2 rfl) rfl (nes rfl rfl rfl (mv rfl rfl (gqt rfl rfl rfl (fun e => fa rfl rfl) (gqt rfl rfl rfl (fun e => ld (cg rfl e) (cell b5_2 rfl) rfl) ?_)))))
    refine gqt rfl rfl rfl (fun e => clp (word13_fn _ _) (a1 (cg rfl e)) rfl) (gqt rfl rfl rfl (fun e => nt (cg rfl e) rfl) (pka rfl rfl rfl rfl (mv rfl rfl (gqf rfl rfl rfl (fun e => fa rfl rfl) ?_))))
    refine gqf rfl rfl rfl (fun e => ld (cg rfl e) (cell b5_2 rfl) rfl) (gqf rfl rfl rfl (fun e => nes (cg rfl e) rfl rfl) (gqf rfl rfl rfl (fun e => mv (cg rfl e) rfl) ?_))
    refine gqt2 rfl rfl rfl (fun e => fa rfl rfl) (gqt2 rfl rfl rfl (fun e => ld (cg rfl e) (cell b5_2 rfl) rfl) (gqt2 rfl rfl rfl (fun e => clp (word13_fn _ _) (a1 (cg rfl e)) rfl) ?_))
    refine gqt2 rfl rfl rfl (fun e => nt (cg rfl e) rfl) (gqf rfl rfl rfl (fun e => pka (cg rfl e) (cg2 rfl e) rfl rfl) (pko rfl rfl rfl rfl ?_))
    refine o_nil ?_; refine x_seq ?_; refine c_cond rfl (fun c4 => ?_) (fun c4 => ?_)
    · refine c_seq ?_; refine c_reg ?_; refine asg rfl rfl ?_; refine o_nil ?_; refine x_seq ?_; refine c_ret ?_; refine x_seq_ret ?_
      refine ret1 (.inr rfl) rfl rfl ?_
      exact ⟨congrArg Value.bool (tb_f (fun hs => hs.2.1 c4)).symm, (k_2).toExt⟩
    · refine c_skip ?_; refine x_seq ?_
      refine c_seq ?_; refine c_seq ?_; refine c_reg ?_
      refine fa rfl rfl (ld rfl (cell b5_2 rfl) rfl (nei rfl rfl rfl (mv rfl rfl (gqt rfl rfl rfl (fun e => fa rfl rfl) (gqt rfl rfl rfl (fun e => ld (cg rfl e) (cell b5_2 rfl) rfl) ?_)))))
      refine gqt rfl rfl rfl (fun e => nei (cg rfl e) rfl rfl) (pka rfl rfl rfl rfl (mv rfl rfl (gqf rfl rfl rfl (fun e => fa rfl rfl) (gqf rfl rfl rfl (fun e => ld (cg rfl e) (cell b5_2 rfl) rfl) ?_))))
      refine gqf rfl rfl rfl (fun e => nei (cg rfl e) rfl rfl) (gqf rfl rfl rfl (fun e => mv (cg rfl e) rfl) (gqt2 rfl rfl rfl (fun e => fa rfl rfl) (gqt2 rfl rfl rfl (fun e => ld (cg rfl e) (cell b5_2 rfl) rfl) ?_)))
      refine gqt2 rfl rfl rfl (fun e => nei (cg rfl e) rfl rfl) (gqf rfl rfl rfl (fun e => pka (cg rfl e) (cg2 rfl e) rfl rfl) (gqf rfl rfl rfl (fun e => mv (cg rfl e) rfl) ?_))
      refine gqt2 rfl rfl rfl (fun e => fa rfl rfl) (gqt2 rfl rfl rfl (fun e => ld (cg rfl e) (cell b5_2 rfl) rfl) (gqt2 rfl rfl rfl (fun e => nei (cg rfl e) rfl rfl) ?_))
      refine gqf rfl rfl rfl (fun e => pka (cg rfl e) (cg2 rfl e) rfl rfl) (gqf rfl rfl rfl (fun e => mv (cg rfl e) rfl) (gqt2 rfl rfl rfl (fun e => fa rfl rfl) (gqt2 rfl rfl rfl (fun e => ld (cg rfl e) (cell b5_2 rfl) rfl) ?_)))
      refine gqt2 rfl rfl rfl (fun e => nei (cg rfl e) rfl rfl) (gqf rfl rfl rfl (fun e => pka (cg rfl e) (cg2 rfl e) rfl rfl) (pko rfl rfl rfl rfl (mv rfl rfl (gqf rfl rfl rfl (fun e => fa rfl rfl) ?_))))
      refine gqf rfl rfl rfl (fun e => ld (cg rfl e) (cell b5_2 rfl) rfl) (gqf rfl rfl rfl (fun e => nei (cg rfl e) rfl rfl) (gqf rfl rfl rfl (fun e => mv (cg rfl e) rfl) ?_))
      refine gqt2 rfl rfl rfl (fun e => fa rfl rfl) (gqt2 rfl rfl rfl (fun e => ld (cg rfl e) (cell b5_2 rfl) rfl) (gqt2 rfl rfl rfl (fun e => nei (cg rfl e) rfl rfl) ?_))
      refine gqt2 rfl rfl rfl (fun e => mv (cg rfl e) rfl) (gqf2 rfl rfl rfl (fun e => fa rfl rfl) (gqf2 rfl rfl rfl (fun e => ld (cg rfl e) (cell b5_2 rfl) rfl) (gqf2 rfl rfl rfl (fun e => lnl (cg rfl e) rfl) ?_)))
      refine gqf2 rfl rfl rfl (fun e => gti (cg rfl e) rfl rfl) (gqt2 rfl rfl rfl (fun e => pko (cg rfl e) rfl (cg2 rfl e) rfl) (gqf rfl rfl rfl (fun e => pka (cg rfl e) (cg2 rfl e) rfl rfl) ?_))
      refine pko rfl rfl rfl rfl (mv rfl rfl (gqf rfl rfl rfl (fun e => fa rfl rfl) (gqf rfl rfl rfl (fun e => ld (cg rfl e) (cell b5_2 rfl) rfl) (gqf rfl rfl rfl (fun e => nei (cg rfl e) rfl rfl) ?_))))
      refine gqf rfl rfl rfl (fun e => mv (cg rfl e) rfl) (gqt2 rfl rfl rfl (fun e => fa rfl rfl) (gqt2 rfl rfl rfl (fun e => ld (cg rfl e) (cell b5_2 rfl) rfl) (gqt2 rfl rfl rfl (fun e => lnl (cg rfl e) rfl) ?_)))
      refine gqt2 rfl rfl rfl (fun e => gti (cg rfl e) rfl rfl) (gqt2 rfl rfl rfl (fun e => mv (cg rfl e) rfl) (gqf2 rfl rfl rfl (fun e => fa rfl rfl) (gqf2 rfl rfl rfl (fun e => ld (cg rfl e) (cell b5_2 rfl) rfl) ?_)))
      refine gqf2 rfl rfl rfl (fun e => nei (cg rfl e) rfl rfl) (gqt2 rfl rfl rfl (fun e => pko (cg rfl e) rfl (cg2 rfl e) rfl) (gqf rfl rfl rfl (fun e => pka (cg rfl e) (cg2 rfl e) rfl rfl) ?_))
      refine pko rfl rfl rfl rfl ?_; refine o_nil ?_; refine x_seq ?_; refine c_cond rfl (fun c5 => ?_) (fun c5 => ?_)
      · refine c_seq ?_; refine c_reg ?_; refine asg rfl rfl ?_; refine o_nil ?_; refine x_seq ?_; refine c_ret ?_; refine x_seq_ret ?_
        refine ret1 (.inr rfl) rfl rfl ?_
        exact ⟨congrArg Value.bool (tb_f (fun hs => hs.2.2.1 c5)).symm, (k_2).toExt⟩
      · have hiff : Kind13 t a x ↔ OneP t a x := ⟨fun e => ⟨c3, c4, c5, e⟩, fun e => e.2.2.2⟩
        refine c_skip ?_; refine x_seq ?_
        refine c_seq ?_; refine c_seq ?_; refine c_reg ?_; refine fa rfl rfl (ld rfl (cell b5_2 rfl) rfl ?_)
        refine o_nil ?_; refine x_seq ?_; refine c_blk ?_; refine c_seq ?_; refine c_reg ?_; refine eqi rfl rfl rfl (asg rfl rfl ?_)
        refine o_nil ?_; refine x_seq ?_; refine c_cond rfl (fun c6 => ?_) (fun c6 => ?_)
        · refine c_seq ?_; refine c_reg ?_
          refine fa rfl rfl (ld rfl (cell b5_2 rfl) rfl (gei rfl rfl rfl (mv rfl rfl (gqt rfl rfl rfl (fun e => fa rfl rfl) (gqt rfl rfl rfl (fun e => ld (cg rfl e) (cell b5_2 rfl) rfl) ?_)))))
          refine gqt rfl rfl rfl (fun e => lei (cg rfl e) rfl rfl) (pka rfl rfl rfl rfl (mv rfl rfl (gqt rfl rfl rfl (fun e => mv rfl rfl) (gqt rfl rfl rfl (fun e => fa rfl rfl) ?_))))
          refine gqt rfl rfl rfl (fun e => ld (cg rfl e) (cell b5_2 rfl) rfl) (gqt rfl rfl rfl (fun e => clp ((holds_fn2 ht0 k_2 hxl _)) (a2 (cg rfl e) (cg rfl e)) rfl) ?_)
          refine pka rfl rfl rfl rfl (asg rfl rfl ?_)
          refine o_nil ?_; refine x_seq ?_; refine c_ret ?_; refine x_blk_ret ?_; refine x_seq_ret ?_; refine ret1 (.inr rfl) rfl rfl ?_
          refine ⟨vtb (Iff.trans ?_ hiff), (k_2).toExt⟩
          simp only [Kind13, c6, Int.reduceEq, false_and, or_false, true_and]; exact Iff.rfl
        · refine c_seq ?_; refine c_reg ?_; refine eqi rfl rfl rfl (asg rfl rfl ?_)
          refine o_nil ?_; refine x_seq ?_; refine c_cond rfl (fun c7 => ?_) (fun c7 => ?_)
          · refine c_seq ?_; refine c_reg ?_
            refine mv rfl rfl (fa rfl rfl (ld rfl (cell b5_2 rfl) rfl (clp ((holds_fn2 ht0 k_2 hxl _)) rfl rfl (mv rfl rfl (gqf rfl rfl rfl (fun e => mv rfl rfl) (gqf rfl rfl rfl (fun e => fa rfl rfl) ?_))))))
            refine gqf rfl rfl rfl (fun e => ld (cg rfl e) (cell b5_2 rfl) rfl) (gqf rfl rfl rfl (fun e => clp ((place_fn _ _ _ _ _)) (a2 (cg rfl e) (cg rfl e)) rfl) (gqf rfl rfl rfl (fun e => mv (cg rfl e) rfl) ?_))
            refine gqt2 rfl rfl rfl (fun e => mv rfl rfl) (gqt2 rfl rfl rfl (fun e => fa rfl rfl) (gqt2 rfl rfl rfl (fun e => ld (cg rfl e) (cell b5_2 rfl) rfl) (gqt2 rfl rfl rfl (fun e => ixs (cg rfl e) (cg rfl e) (by omega) rfl) ?_)))
            refine gqt2 rfl rfl rfl (fun e => fa (cg rfl e) rfl) (gqt2 rfl rfl rfl (fun e => ld (cg rfl e) (form_cell hi k_2 hb e.2) rfl) (gqt2 rfl rfl rfl (fun e => eqi (cg rfl e) rfl rfl) ?_))
            refine gqf rfl rfl rfl (fun e => pka (cg rfl e) (cg2 rfl e) rfl rfl) (pko rfl rfl rfl rfl (asg rfl rfl ?_))
            refine o_nil ?_; refine x_seq ?_; refine c_ret ?_; refine x_blk_ret ?_; refine x_seq_ret ?_; refine ret1 (.inr rfl) rfl rfl ?_
            refine ⟨vtb (Iff.trans ?_ hiff), (k_2).toExt⟩
            simp only [Kind13, c7, Int.reduceEq, false_and, or_false, false_or, true_and]; exact Iff.rfl
          · refine c_seq ?_; refine c_reg ?_; refine eqi rfl rfl rfl (asg rfl rfl ?_)
            refine o_nil ?_; refine x_seq ?_; refine c_cond rfl (fun c8 => ?_) (fun c8 => ?_)
            · refine c_seq ?_; refine c_reg ?_
              refine mv rfl rfl (fa rfl rfl (ld rfl (cell b5_2 rfl) rfl (clp ((place_fn _ _ _ _ _)) rfl rfl (mv rfl rfl (gqt rfl rfl rfl (fun e => mv rfl rfl) (gqt rfl rfl rfl (fun e => fa rfl rfl) ?_))))))
              refine gqt rfl rfl rfl (fun e => ld (cg rfl e) (cell b5_2 rfl) rfl) (gqt rfl rfl rfl (fun e => ixs (cg rfl e) (cg rfl e) (by omega) rfl) (gqt rfl rfl rfl (fun e => fa (cg rfl e) rfl) ?_))
              refine gqt rfl rfl rfl (fun e => ld (cg rfl e) (form_cell hi k_2 hb e) rfl) (gqt rfl rfl rfl (fun e => eqi (cg rfl e) rfl rfl) (pka rfl rfl rfl rfl (asg rfl rfl ?_)))
              refine o_nil ?_; refine x_seq ?_; refine c_ret ?_; refine x_blk_ret ?_; refine x_seq_ret ?_; refine ret1 (.inr rfl) rfl rfl ?_
              refine ⟨vtb (Iff.trans ?_ hiff), (k_2).toExt⟩
              simp only [Kind13, c8, Int.reduceEq, false_and, or_false, false_or, true_and]
            · refine c_seq ?_; refine c_reg ?_; refine eqi rfl rfl rfl (asg rfl rfl ?_)
              refine o_nil ?_; refine x_seq ?_; refine c_cond rfl (fun c9 => ?_) (fun c9 => ?_)
              · refine c_seq ?_; refine c_reg ?_
                refine mv rfl rfl (mv rfl rfl (clE ((record_fn (TypesAt.keep ht0 (At.k k_2) (At.n k_2)) a ha)) rfl rfl (fun h10 x10 => ?_)))
                have s10 : h2.size ≤ h10.size := x10.size
                have k_10 := k_2.ext x10
                have b5_10 := x10.get b5_2
                refine asg rfl rfl ?_; refine o_nil ?_; refine x_seq ?_; refine c_ret ?_; refine x_blk_ret ?_; refine x_seq_ret ?_
                refine ret1 (.inr rfl) rfl rfl ?_
                refine ⟨vtb (Iff.trans ?_ hiff), (k_10).toExt⟩
                simp only [Kind13, c9, Int.reduceEq, false_and, or_false, false_or, true_and]
              · refine c_seq ?_; refine c_reg ?_; refine eqi rfl rfl rfl (asg rfl rfl ?_)
                refine o_nil ?_; refine x_seq ?_; refine c_cond rfl (fun c11 => ?_) (fun c11 => ?_)
                · refine c_seq ?_; refine c_seq ?_; refine c_reg ?_; refine asg rfl rfl ?_; refine o_nil ?_; refine x_seq ?_; refine c_blk ?_
                  refine c_loop (α := Nat) (fun i => [(0, .slice (some ⟨b, o, none⟩) t.length c), (5, ptr h.size 0), (6, i64 (i : Nat))]) (fun _ => h2)
                    (fun i => i ≤ x.params.length ∧ upTo x.params (ParR t) i) (fun i => x.params.length - i) 0 ⟨Nat.zero_le _, upTo_zero _ _⟩ ⟨rfl, rfl, rfl, trivial⟩ rfl (fun i hs => ?_)
                  obtain ⟨hil, hup⟩ := hs
                  have hPl := hP0.1
                  refine c_seq ?_; refine c_seq ?_; refine c_reg ?_
                  refine mv rfl rfl (fa rfl rfl (ld rfl (cell b5_2 rfl) rfl (lnl rfl rfl (lti rfl rfl rfl ?_))))
                  refine o_nil ?_; refine x_seq ?_; refine c_cond rfl (fun c12 => ?_) (fun c12 => ?_)
                  · have hlt : i < x.params.length := by have := c12; omega
                    have hpi : x.params[i]? = some x.params[i] := List.getElem?_eq_getElem hlt
                    obtain ⟨b2, o2, cs2, ha2, hb2, hl2, hr2, hcs2, hfl2⟩ := hP0.el k_2 hpi
                    generalize x.params[i] = p at *
                    subst hcs2
                    subst ha2
                    refine c_skip ?_; refine x_seq ?_
                    refine c_seq ?_; refine c_blk ?_; refine c_seq ?_; refine c_reg ?_
                    refine fa rfl rfl (ld rfl (cell b5_2 rfl) rfl (mv rfl rfl (ixs rfl rfl (by omega) rfl (fa rfl rfl (ld rfl (hr2 1 _ rfl) rfl (asg rfl rfl ?_))))))
                    refine o_nil ?_; refine x_seq ?_; refine c_seq ?_; refine c_reg ?_
                    refine mv rfl rfl (mv rfl rfl (clp ((holds_fn2 ht0 k_2 hxl _)) rfl rfl (nt rfl rfl (mv rfl rfl (gqt rfl rfl rfl (fun e => mv rfl rfl) (gqt rfl rfl rfl (fun e => mv rfl rfl) ?_))))))
                    refine gqt rfl rfl rfl (fun e => clp ((place_fn _ _ _ _ _)) (a2 (cg rfl e) (cg rfl e)) rfl) (gqt rfl rfl rfl (fun e => nt (cg rfl e) rfl) (gqt rfl rfl rfl (fun e => mv (cg rfl e) rfl) ?_))
                    refine gqf2 rfl rfl rfl (fun e => mv rfl rfl) (gqf2 rfl rfl rfl (fun e => mv rfl rfl) (gqf2 rfl rfl rfl (fun e => ixs (cg rfl e) (cg rfl e) (by omega) rfl) (gqf2 rfl rfl rfl (fun e => fa (cg rfl e) rfl) ?_)))
                    refine gqf2 rfl rfl rfl (fun e => ld (cg rfl e) (form_cell hi k_2 hb (Classical.not_not.1 e.2)) rfl) (gqf2 rfl rfl rfl (fun e => nei (cg rfl e) rfl rfl) (gqt rfl rfl rfl (fun e => pko (cg rfl e) rfl (cg2 rfl e) rfl) ?_))
                    refine pka rfl rfl rfl rfl ?_; refine o_nil ?_; refine x_seq ?_; refine c_cond rfl (fun c13 => ?_) (fun c13 => ?_)
                    · refine c_seq ?_; refine c_reg ?_; refine asg rfl rfl ?_; refine o_nil ?_; refine x_seq ?_; refine c_ret ?_; refine x_blk_ret ?_
                      refine x_seq_ret ?_; refine x_loop_ret ?_; refine x_blk_ret ?_; refine x_seq_ret ?_; refine x_blk_ret ?_; refine x_seq_ret ?_
                      refine ret1 (.inr rfl) rfl rfl ?_
                      refine ⟨congrArg Value.bool (tb_f (fun hs => ?_)).symm, (k_2).toExt⟩
                      have hk := hiff.2 hs
                      simp only [Kind13, c11, Int.reduceEq, false_and, false_or, true_and] at hk
                      rcases hk.2.1 p (List.mem_of_getElem? hpi) with d | d
                      · exact c13.1 d
                      · rcases c13.2 with e | e
                        · exact e d.1
                        · exact e d.2
                    · refine c_skip ?_; refine x_blk ?_; refine x_seq ?_; refine c_reg ?_
                      refine mv rfl rfl (add rfl rfl (by omega) rfl (asg rfl rfl ?_))
                      refine o_nil ?_
                      refine x_loop (i + 1) ⟨hlt, (upTo_succ hpi).2 ⟨hup, ?_⟩⟩ (by omega) ⟨rfl, rfl, rfl, trivial⟩ rfl
                      refine (Classical.em _).imp id (fun e => Classical.byContradiction fun e' => c13 ⟨e, ?_⟩)
                      refine (Classical.em _).imp id (fun e2 e3 => e' ⟨Classical.not_not.1 e2, e3⟩)
                  · have hi' : i = x.params.length := by have := c12; omega
                    subst hi'
                    refine c_exit ?_; refine x_seq_exit ?_; refine x_loop_exit ?_; refine x_blk_hit ?_; refine x_seq ?_; refine c_seq ?_
                    refine c_reg ?_
                    refine fa rfl rfl (ld rfl (cell b5_2 rfl) rfl (lnl rfl rfl (lei rfl rfl rfl (mv rfl rfl (gqt rfl rfl rfl (fun e => fa rfl rfl) (gqt rfl rfl rfl (fun e => ld (cg rfl e) (cell b5_2 rfl) rfl) ?_))))))
                    refine gqt rfl rfl rfl (fun e => eqi (cg rfl e) rfl rfl) (gqt rfl rfl rfl (fun e => mv (cg rfl e) rfl) (gqf2 rfl rfl rfl (fun e => mv rfl rfl) (gqf2 rfl rfl rfl (fun e => fa rfl rfl) ?_)))
                    refine gqf2 rfl rfl rfl (fun e => ld (cg rfl e) (cell b5_2 rfl) rfl) (gqf2 rfl rfl rfl (fun e => clp ((holds_fn2 ht0 k_2 hxl _)) (a2 (cg rfl e) (cg rfl e)) rfl) ?_)
                    refine gqf2 rfl rfl rfl (fun e => mv (cg rfl e) rfl) (gqt2 rfl rfl rfl (fun e => mv rfl rfl) (gqt2 rfl rfl rfl (fun e => fa rfl rfl) (gqt2 rfl rfl rfl (fun e => ld (cg rfl e) (cell b5_2 rfl) rfl) ?_)))
                    refine gqt2 rfl rfl rfl (fun e => ixs (cg rfl e) (cg rfl e) (by omega) rfl) (gqt2 rfl rfl rfl (fun e => fa (cg rfl e) rfl) (gqt2 rfl rfl rfl (fun e => ld (cg rfl e) (form_cell hi k_2 hb e.2.1) rfl) ?_))
                    refine gqt2 rfl rfl rfl (fun e => nei (cg rfl e) rfl rfl) (gqf2 rfl rfl rfl (fun e => pka (cg rfl e) (cg2 rfl e) rfl rfl) (gqf2 rfl rfl rfl (fun e => mv (cg rfl e) rfl) ?_))
                    refine gqt2 rfl rfl rfl (fun e => mv rfl rfl) (gqt2 rfl rfl rfl (fun e => fa rfl rfl) (gqt2 rfl rfl rfl (fun e => ld (cg rfl e) (cell b5_2 rfl) rfl) (gqt2 rfl rfl rfl (fun e => ixs (cg rfl e) (cg rfl e) (by omega) rfl) ?_)))
                    refine gqt2 rfl rfl rfl (fun e => fa (cg rfl e) rfl) (gqt2 rfl rfl rfl (fun e => ld (cg rfl e) (form_cell hi k_2 hb e.2.1.1) rfl) (gqt2 rfl rfl rfl (fun e => nei (cg rfl e) rfl rfl) ?_))
                    refine gqf2 rfl rfl rfl (fun e => pka (cg rfl e) (cg2 rfl e) rfl rfl) (gqt rfl rfl rfl (fun e => pko (cg rfl e) rfl (cg2 rfl e) rfl) (pka rfl rfl rfl rfl (asg rfl rfl ?_)))
                    refine o_nil ?_; refine x_seq ?_; refine c_ret ?_; refine x_blk_ret ?_; refine x_seq_ret ?_; refine ret1 (.inr rfl) rfl rfl ?_
                    refine ⟨vtb (Iff.trans ?_ hiff), (k_2).toExt⟩
                    simp only [Kind13, c11, Int.reduceEq, false_and, false_or, true_and]
                    exact ⟨fun e => ⟨e.1, upTo_all.1 hup, e.2⟩, fun e => ⟨e.1, e.2.2⟩⟩
                · refine c_skip ?_; refine x_blk ?_; refine x_seq ?_; refine c_seq ?_; refine c_reg ?_; refine asg rfl rfl ?_; refine o_nil ?_
                  refine x_seq ?_; refine c_ret ?_; refine ret1 (.inr rfl) rfl rfl ?_
                  refine ⟨congrArg Value.bool (tb_f (fun hs => ?_)).symm, (k_2).toExt⟩
                  rcases hiff.2 hs with d | d | d | d | d
                  · exact c6 d.1
                  · exact c7 d.1
                  · exact c8 d.1
                  · exact c9 d.1
                  · exact c11 d.1
end

/-! The walk of the reference's round. No condition but what each theorem says. -/
section
open Go Go.Eng

def edges13 (t : List Ty) (a : Nat) : List Int := match t[a]? with
  | some x => if x.form = 7 ∨ x.form = 8 then [x.elem] else if x.form = 9 then (if x.base = 0 then [] else [x.base]) ++ x.fields.map (·.type) else []
  | none => []
def Col3 (M : List Int) : Prop := ∀ b, col M b = 0 ∨ col M b = 1 ∨ col M b = 2
theorem Col3.set {M : List Int} (h : Col3 M) (a : Nat) {v : Int} (hv : v = 1 ∨ v = 2) : Col3 (M.set a v) := by
  intro b
  rcases Nat.lt_or_ge a M.length with ha | ha
  · rw [col_set M a b v ha]
    split
    · omega
    · exact h b
  · rw [List.set_eq_of_length_le ha]; exact h b

set_option maxHeartbeats 4000000 in
theorem round_fn {N : Nat} {h0 : Heap} {vt : Value} {t : List Ty} (ht : TypesAt N h0 vt t) (hv : Valid t (edges13 t)) (h64 : ∀ x ∈ t, x.form = 9 → x.fields.length ≤ 64) (m : Nat) (hm : N ≤ m) (k : Nat) :
    ∀ (a : Nat) (M : List Int) (h : Heap), zeros M < k → At N h0 h → MetAt h m M → M.length = t.length → Col3 M → a < t.length →
      Does Tryz.prog 80 [vt, i64 (a : Nat), .slice (some ⟨m, 0, none⟩) t.length t.length] h (fun v h' => v = .bool (!(endsF (edges13 t) k a M).1) ∧ MetAt h' m (endsF (edges13 t) k a M).2 ∧ Mod (· = m) h h') := by
  obtain ⟨htl, at_, ct, rfl, hti⟩ := ht
  induction k with
  | zero => intro a M h hk; omega
  | succ k ih =>
  intro a M h hk k0 hM hlen hc3 ha
  have hx : t[a]? = some t[a] := List.getElem?_eq_getElem ha
  have hed : edges13 t a = (if t[a].form = 7 ∨ t[a].form = 8 then [t[a].elem] else if t[a].form = 9 then (if t[a].base = 0 then [] else [t[a].base]) ++ t[a].fields.map (·.type) else []) := by rw [edges13, hx]
  have hval := hv a ha
  have h64 := h64 _ (List.getElem_mem ha)
  generalize t[a] = x at *
  obtain ⟨b', o', cs, rfl, hb', hl', hr0, hfit, vf, vp, rfl, hF, -⟩ := hti a x hx
  have hF0 := hF
  obtain ⟨hFl, af, cf, rfl, -⟩ := hF
  have hmx : maxLen = 9223372036854775807 := by decide
  have hmd := met_cell hM (a := a) (by omega)
  have hms := hM.lt
  have hn0 := k0.n
  have hset := zeros_set_lt M a 1 (by omega) (by omega)
  have hcol : M[a]?.getD 0 = 0 ∨ M[a]?.getD 0 = 1 ∨ M[a]?.getD 0 = 2 := hc3 a
  refine fn_enter (N := 89) Tryz.func80 (by kernel_rfl) rfl rfl rfl (fun w0 => ?_)
  refine c_seq ?_; refine c_reg ?_; refine asg rfl rfl ?_; refine o_nil ?_; refine x_seq ?_
  refine c_seq ?_; refine c_seq ?_; refine c_reg ?_; refine mv rfl rfl (mv rfl rfl (ixs rfl rfl (by omega) rfl (ld rfl hmd rfl (eqi rfl rfl rfl ?_))))
  refine o_nil ?_; refine x_seq ?_; refine c_cond rfl (fun c1 => ?_) (fun c1 => ?_)
  · refine c_seq ?_; refine c_reg ?_; refine asg rfl rfl ?_; refine o_nil ?_; refine x_seq ?_; refine c_ret ?_; refine x_seq_ret ?_
    refine ret1 (.inr rfl) rfl rfl ?_
    have e : endsF (edges13 t) (k + 1) a M = (decide (M[a]?.getD 0 = 2), M) := by rw [endsF, if_pos (by omega)]
    rw [e]
    exact ⟨by rw [decide_eq_false (by omega)]; rfl, hM, Mod.refl _ _⟩
  · refine c_skip ?_; refine x_seq ?_
    refine c_seq ?_; refine c_seq ?_; refine c_reg ?_
    refine mv rfl rfl (mv rfl rfl (ixs rfl rfl (by omega) rfl (ld rfl hmd rfl (eqi rfl rfl rfl ?_))))
    refine o_nil ?_; refine x_seq ?_; refine c_cond rfl (fun c2 => ?_) (fun c2 => ?_)
    · refine c_seq ?_; refine c_reg ?_; refine asg rfl rfl ?_; refine o_nil ?_; refine x_seq ?_; refine c_ret ?_; refine x_seq_ret ?_
      refine ret1 (.inr rfl) rfl rfl ?_
      have e : endsF (edges13 t) (k + 1) a M = (decide (M[a]?.getD 0 = 2), M) := by rw [endsF, if_pos (by omega)]
      rw [e]
      exact ⟨by rw [decide_eq_true c2]; rfl, hM, Mod.refl _ _⟩
    · have hzero : ¬ 0 < M[a]?.getD 0 := by omega
      have hset := hset hzero
      have eF : endsF (edges13 t) (k + 1) a M = (if (foldE (endsF (edges13 t) k) (edges13 t a) (M.set a 1)).1 then (true, (foldE (endsF (edges13 t) k) (edges13 t a) (M.set a 1)).2.set a 2) else (false, (foldE (endsF (edges13 t) k) (edges13 t a) (M.set a 1)).2)) := by rw [endsF, if_neg hzero]
      rw [eF]
      refine c_skip ?_; refine x_seq ?_; refine c_seq ?_; refine c_reg ?_
      refine mv rfl rfl (mv rfl rfl (ixs rfl rfl (by omega) rfl (st rfl rfl rfl hM (by simp [icells]; omega) nofun (fun h3 u3 => ?_))))
      have M2 := set_met u3.at_ rfl
      have hc32 : Col3 (M.set a 1) := hc3.set a (.inl rfl)
      have s3 : h3.size = h.size := u3.size
      have k_3 := k0.upd u3 (by omega)
      refine o_nil ?_; refine x_seq ?_; refine c_seq ?_; refine c_reg ?_; refine asg rfl rfl ?_; refine o_nil ?_; refine x_seq ?_
      refine c_cut (α := Value × Heap) (fun y => [(0, .slice (some ⟨b', o', none⟩) t.length ct), (1, i64 (a : Nat)), (2, .slice (some ⟨m, 0, none⟩) t.length t.length), (7, y.1)]) (fun y => y.2)
        (fun y => Owns y.2 3 1 y.1 (edges13 t a).length (icells (edges13 t a)) ∧ (∀ j, ownB y.1 j → j ≠ m ∧ h.size ≤ j) ∧ MetAt y.2 m (M.set a 1) ∧ Mod (· = m) h y.2) ?_ ?_
      · refine c_seq ?_
        refine c_reg ?_; refine mv rfl rfl (mv rfl rfl (ixs rfl rfl (by omega) rfl (fa rfl rfl (ld rfl (k_3.k.row hb' hr0 0 _ rfl) rfl ?_))))
        refine o_nil ?_; refine x_seq ?_; refine c_blk ?_
        refine c_cut (α := Unit) (fun _ => [(0, .slice (some ⟨b', o', none⟩) t.length ct), (1, i64 (a : Nat)), (2, .slice (some ⟨m, 0, none⟩) t.length t.length), (7, .slice none 0 0), (27, i64 x.form), (28, .bool (tb (x.form = 7 ∨ x.form = 8)))]) (fun _ => h3) (fun _ => True) ?_ ?_
        · refine c_seq ?_
          refine c_reg ?_; refine eqi rfl rfl rfl (asg rfl rfl ?_)
          refine o_nil ?_; refine x_seq ?_; refine c_cond rfl (fun c4 => ?_) (fun c4 => ?_)
          · refine c_skip ?_
            exact x_cut () trivial ⟨rfl, rfl, rfl, rfl, rfl, congrArg some (vtb ⟨.inl, fun _ => c4⟩), trivial⟩ rfl
          · refine c_reg ?_; refine eqi rfl rfl rfl (asg rfl rfl ?_)
            refine o_nil ?_
            exact x_cut () trivial ⟨rfl, rfl, rfl, rfl, rfl, congrArg some (vtb ⟨.inr, fun e => e.resolve_left c4⟩), trivial⟩ rfl
        · intro _ _
          change SC _ _ _ _ h3
          refine c_cond rfl (fun c5 => ?_) (fun c5 => ?_)
          · refine c_reg ?_
            refine mv rfl rfl (mv rfl rfl (ixs rfl rfl (by omega) rfl (fa rfl rfl (ld rfl (k_3.k.row hb' hr0 4 _ rfl) rfl (bsl (vs := [(0, i64 x.elem)]) (cs := #[i64 x.elem]) (E := 3) rfl (fun _ => by kernel_rfl) nofun rfl (fun h6 n6 => ?_))))))
            have s6 : h6.size = h3.size + 1 := n6.size
            have k_6 := k_3.ext n6.ext
            refine asg rfl rfl ?_; refine o_nil ?_; refine x_blk ?_
            exact x_cut (.slice (some ⟨h3.size, 0, none⟩) 1 1, h6) ⟨by rw [hed, if_pos c5]; exact n6.owns (n := 1) rfl (by decide), fun j e => by have := ownB_eq e; omega, M2.mod n6.ext (fun e => e), mod_more u3.mod n6.ext (fun _ e => e.elim)⟩ ⟨rfl, rfl, rfl, rfl, trivial⟩ rfl
          · refine c_seq ?_; refine c_reg ?_; refine eqi rfl rfl rfl (asg rfl rfl ?_)
            refine o_nil ?_; refine x_seq ?_; refine c_cond rfl (fun c7 => ?_) (fun c7 => ?_)
            · refine c_cut (α := Value × Heap) (fun y => [(0, .slice (some ⟨b', o', none⟩) t.length ct), (1, i64 (a : Nat)), (2, .slice (some ⟨m, 0, none⟩) t.length t.length), (7, y.1)]) (fun y => y.2)
                (fun y => Owns y.2 3 1 y.1 (if x.base = 0 then [] else [x.base]).length (icells (if x.base = 0 then [] else [x.base])) ∧ (∀ j, ownB y.1 j → j ≠ m ∧ h.size ≤ j) ∧ MetAt y.2 m (M.set a 1) ∧ Mod (· = m) h y.2) ?_ ?_
              · refine c_seq ?_
                refine c_reg ?_
                refine mv rfl rfl (mv rfl rfl (ixs rfl rfl (by omega) rfl (fa rfl rfl (ld rfl (k_3.k.row hb' hr0 5 _ rfl) rfl (nei rfl rfl rfl ?_)))))
                refine o_nil ?_; refine x_seq ?_; refine c_cond rfl (fun c8 => ?_) (fun c8 => ?_)
                · refine c_reg ?_
                  refine mv rfl rfl (mv rfl rfl (ixs rfl rfl (by omega) rfl (fa rfl rfl (ld rfl (k_3.k.row hb' hr0 5 _ rfl) rfl (bsl (vs := [(0, i64 x.base)]) (cs := #[i64 x.base]) (E := 3) rfl (fun _ => by kernel_rfl) nofun rfl (fun h9 n9 => ?_))))))
                  have s9 : h9.size = h3.size + 1 := n9.size
                  have k_9 := k_3.ext n9.ext
                  refine asg rfl rfl ?_; refine o_nil ?_
                  exact x_cut (.slice (some ⟨h3.size, 0, none⟩) 1 1, h9) ⟨by rw [if_neg c8]; exact n9.owns (n := 1) rfl (by decide), fun j e => by have := ownB_eq e; omega, M2.mod n9.ext (fun e => e), mod_more u3.mod n9.ext (fun _ e => e.elim)⟩ ⟨rfl, rfl, rfl, rfl, trivial⟩ rfl
                · refine c_skip ?_
                  exact x_cut (.slice none 0 0, h3) ⟨by rw [if_pos (Classical.not_not.1 c8)]; exact Owns.nil _ _ _, fun j e => by simp [ownB, Value.ownBlock] at e, M2, u3.mod⟩ ⟨rfl, rfl, rfl, rfl, trivial⟩ rfl
              · intro y hy
                obtain ⟨vl0, g0⟩ := y
                obtain ⟨og0, og2, Mg0, qg0⟩ := hy
                simp only at og0 og2 Mg0 qg0
                have gs0 := qg0.size
                have kg0 : At N h0 g0 := k0.mod qg0 (fun j e => by have e' : j = m := e; omega)
                have hl1 : (if x.base = 0 then ([] : List Int) else [x.base]).length ≤ 1 := by split <;> simp
                generalize hB : (if x.base = 0 then ([] : List Int) else [x.base]) = B at *
                change SC _ _ _ _ g0
                refine c_seq ?_; refine c_reg ?_; refine asg rfl rfl ?_; refine o_nil ?_; refine x_seq ?_; refine c_blk ?_
                refine c_loop (α := Value × Heap × Nat) (fun y => [(0, .slice (some ⟨b', o', none⟩) t.length ct), (1, i64 (a : Nat)), (2, .slice (some ⟨m, 0, none⟩) t.length t.length), (7, y.1), (8, i64 (y.2.2 : Nat))]) (fun y => y.2.1)
                  (fun y => At N h0 y.2.1 ∧ Owns y.2.1 3 1 y.1 (B.length + y.2.2) (icells (B ++ (x.fields.take y.2.2).map (·.type))) ∧ (∀ j, ownB y.1 j → j ≠ m ∧ h.size ≤ j) ∧ MetAt y.2.1 m (M.set a 1) ∧ Mod (· = m) h y.2.1 ∧ y.2.2 ≤ x.fields.length) (fun y => x.fields.length - y.2.2) (vl0, g0, 0)
                  ⟨kg0, by simpa using og0, og2, Mg0, qg0, Nat.zero_le _⟩ ⟨rfl, rfl, rfl, rfl, rfl, trivial⟩ rfl (fun y hy => ?_)
                obtain ⟨vl, g, i⟩ := y
                obtain ⟨kg, og, og2', Mg, qg, hil⟩ := hy
                simp only at kg og og2' Mg qg hil
                have gs := qg.size
                change SC _ _ _ _ g
                refine c_seq ?_; refine c_seq ?_; refine c_reg ?_
                refine mv rfl rfl (mv rfl rfl (mv rfl rfl (ixs rfl rfl (by omega) rfl (fa rfl rfl (ld rfl (kg.k.row hb' hr0 6 _ rfl) rfl (lnl rfl rfl (lti rfl rfl rfl ?_)))))))
                refine o_nil ?_; refine x_seq ?_; refine c_cond rfl (fun c10 => ?_) (fun c10 => ?_)
                · have hlt : i < x.fields.length := by have := c10; simp only at this; omega
                  have hxi : x.fields[i]? = some x.fields[i] := List.getElem?_eq_getElem hlt
                  have htake : x.fields.take (i + 1) = x.fields.take i ++ [x.fields[i]] := by rw [List.take_add_one, hxi]; rfl
                  obtain ⟨b2, o2, cs2, ha2, hb2, hl2, hr2, hcs2, hfl2⟩ := hF0.el kg hxi
                  generalize x.fields[i] = f at *
                  subst hcs2
                  subst ha2
                  have h64 := h64 c7
                  have Mlt := Mg.lt
                  refine c_skip ?_; refine x_seq ?_
                  refine c_seq ?_; refine c_blk ?_; refine c_reg ?_
                  refine mv rfl rfl (mv rfl rfl (mv rfl rfl (ixs rfl rfl (by omega) rfl (fa rfl rfl (ld rfl (kg.k.row hb' hr0 6 _ rfl) rfl (mv rfl rfl (ixs rfl rfl (by omega) rfl ?_)))))))
                  refine fa rfl rfl (ld rfl (hr2 2 _ rfl) rfl (bsl (vs := [(0, i64 f.type)]) (cs := #[i64 f.type]) (E := 3) rfl (fun _ => by kernel_rfl) nofun rfl (fun h11 n11 => ?_)))
                  have s11 : h11.size = g.size + 1 := n11.size
                  have k_11 := kg.ext n11.ext
                  refine app U_sl rfl rfl (og.mod n11.ext (fun _ _ e => e)) (Src.slice rfl (row_blk n11.at_)) rfl (one_i _) (by omega) (by omega) nofun rfl (fun v12 h12 o12 m12 f12 => ?_)
                  have s12 : h11.size ≤ h12.size := m12.size
                  have k_12 := (k_11.mod m12 (fun j e => by have := og2' j e; omega))
                  refine asg rfl rfl ?_; refine o_nil ?_; refine x_blk ?_; refine x_seq ?_; refine c_reg ?_
                  refine mv rfl rfl (add rfl rfl (by omega) rfl (asg rfl rfl ?_))
                  refine o_nil ?_
                  refine x_loop (v12, h12, i + 1) ⟨k_12, by rw [htake]; simpa [icells, Nat.add_assoc] using o12, fun j e => ?_, (Mg.mod n11.ext (fun e => e)).mod m12 (fun e => (og2' _ e).1 rfl), mod_more (mod_more qg n11.ext (fun _ e => e.elim)) m12 (fun j e => .inr (og2' j e).2), hlt⟩ (by simp only; omega) ⟨rfl, rfl, rfl, rfl, rfl, trivial⟩ rfl
                  rcases f12 j e with e | e
                  · exact og2' j e
                  · omega
                · refine c_exit ?_; refine x_seq_exit ?_; refine x_loop_exit ?_; refine x_blk_hit ?_; refine x_blk ?_
                  have hi : i = x.fields.length := by have := c10; simp only at this; omega
                  subst hi
                  refine x_cut (vl, g) ⟨?_, og2', Mg, qg⟩ ⟨rfl, rfl, rfl, rfl, trivial⟩ rfl
                  rw [hed, if_neg c5, if_pos c7]
                  rw [List.take_length] at og
                  simpa using og
            · refine c_skip ?_; refine x_blk ?_
              exact x_cut (.slice none 0 0, h3) ⟨by rw [hed, if_neg c5, if_neg c7]; exact Owns.nil _ _ _, fun j e => by simp [ownB, Value.ownBlock] at e, M2, u3.mod⟩ ⟨rfl, rfl, rfl, rfl, trivial⟩ rfl
      · intro y hy
        obtain ⟨vl, g0⟩ := y
        obtain ⟨og0, og2, Mg0, qg0⟩ := hy
        simp only at og0 og2 Mg0 qg0
        have gs0 := qg0.size
        have kg0 : At N h0 g0 := k0.mod qg0 (fun j e => by have e' : j = m := e; omega)
        obtain ⟨al, cq, rfl⟩ := og0.form
        have hel : (edges13 t a).length ≤ 65 := by
         rw [hed]; have := h64
         split
         · simp
         · split
           · have := h64 ‹_›; simp; split <;> simp <;> omega
           · simp
        change SC _ _ _ _ g0
        refine c_seq ?_; refine c_seq ?_; refine c_reg ?_; refine asg rfl rfl ?_; refine o_nil ?_; refine x_seq ?_; refine c_blk ?_
        refine c_loop (α := Heap × Nat × List Int) (fun y => [(0, .slice (some ⟨b', o', none⟩) t.length ct), (1, i64 (a : Nat)), (2, .slice (some ⟨m, 0, none⟩) t.length t.length), (7, .slice al (edges13 t a).length cq), (9, i64 (y.2.1 : Nat))]) (fun y => y.1)
          (fun y => At N h0 y.1 ∧ Owns y.1 3 1 (.slice al (edges13 t a).length cq) (edges13 t a).length (icells (edges13 t a)) ∧ MetAt y.1 m y.2.2 ∧ Mod (· = m) h y.1 ∧ y.2.2.length = t.length ∧ Col3 y.2.2 ∧ zeros y.2.2 < k ∧ y.2.1 ≤ (edges13 t a).length ∧ foldE (endsF (edges13 t) k) ((edges13 t a).drop y.2.1) y.2.2 = foldE (endsF (edges13 t) k) (edges13 t a) (M.set a 1))
          (fun y => (edges13 t a).length - y.2.1) (g0, 0, M.set a 1) ⟨kg0, og0, Mg0, qg0, by simpa using hlen, hc32, by simp only; omega, Nat.zero_le _, rfl⟩ ⟨rfl, rfl, rfl, rfl, rfl, trivial⟩ rfl (fun y hy => ?_)
        obtain ⟨g, i, M'⟩ := y
        obtain ⟨kg, og, Mg, qg, hlM, hcM, hzM, hil, hfold⟩ := hy
        simp only at kg og Mg qg hlM hcM hzM hil hfold
        have gs := qg.size
        have kn := kg.n
        change SC _ _ _ _ g
        refine c_seq ?_; refine c_seq ?_; refine c_reg ?_; refine mv rfl rfl (mv rfl rfl (lnl rfl rfl (lti rfl rfl rfl ?_)))
        refine o_nil ?_; refine x_seq ?_; refine c_cond rfl (fun c13 => ?_) (fun c13 => ?_)
        · have hlt : i < (edges13 t a).length := by have := c13; simp only at this; omega
          have hei : (edges13 t a)[i]? = some (edges13 t a)[i] := List.getElem?_eq_getElem hlt
          have hdrop : (edges13 t a).drop i = (edges13 t a)[i] :: (edges13 t a).drop (i + 1) := List.drop_eq_getElem_cons hlt
          have hve := hval _ (List.getElem_mem hlt)
          obtain ⟨n, hn⟩ : ∃ n : Nat, (edges13 t a)[i] = (n : Int) := ⟨(edges13 t a)[i].toNat, by omega⟩
          rw [hn] at hei hdrop hve
          rw [hdrop, foldE, Int.toNat_natCast] at hfold
          obtain ⟨bl, cq2, hsl, hrl⟩ := og.some (by omega)
          cases hsl
          have hcl : cellAt g bl (0 + i * 1) = some (i64 (n : Nat)) := by
           have := hrl i (i64 (n : Nat)) (by simp only [icells, List.getElem?_map, hei]; rfl)
           rw [Nat.mul_one]; exact this
          refine c_skip ?_; refine x_seq ?_
          refine c_seq ?_; refine c_blk ?_; refine c_seq ?_; refine c_reg ?_
          refine mv rfl rfl (mv rfl rfl (mv rfl rfl (ixs rfl rfl (by omega) rfl (ld rfl hcl rfl (mv rfl rfl (cl (vs := [.slice (some ⟨b', o', none⟩) t.length ct, i64 (n : Nat), .slice (some ⟨m, 0, none⟩) t.length t.length]) rfl ((ih n M' g hzM kg Mg hlM hcM (by omega))) rfl (fun v14 h14 r14 => ?_)))))))
          obtain ⟨rfl, M14, q14⟩ := r14
          have hk14 := endsF_keep (edges13 t) k n M'
          have k_14 := (kg.mod q14 (fun j e => by have e' : j = m := e; omega))
          refine o_nil ?_; refine x_seq ?_; refine c_cond rfl (fun c15 => ?_) (fun c15 => ?_)
          · have c15' : ¬ (endsF (edges13 t) k n M').1 = true := c15
            rw [if_neg c15'] at hfold
            rw [← hfold]
            refine c_seq ?_; refine c_reg ?_; refine asg rfl rfl ?_; refine o_nil ?_; refine x_seq ?_; refine c_ret ?_; refine x_blk_ret ?_
            refine x_seq_ret ?_; refine x_loop_ret ?_; refine x_blk_ret ?_; refine x_seq_ret ?_; refine ret1 (.inr rfl) rfl rfl ?_
            exact ⟨rfl, M14, mod_more qg q14 (fun j e => .inl e)⟩
          · have c15' : (endsF (edges13 t) k n M').1 = true := Classical.not_not.1 c15
            rw [if_pos c15'] at hfold
            refine c_skip ?_; refine x_blk ?_; refine x_seq ?_; refine c_reg ?_; refine mv rfl rfl (add rfl rfl (by omega) rfl (asg rfl rfl ?_))
            refine o_nil ?_
            refine x_loop (h14, i + 1, (endsF (edges13 t) k n M').2) ⟨k_14, og.mod q14 (fun j hj e => (og2 j hj).1 e), M14, mod_more qg q14 (fun j e => .inl e), hk14.1.trans hlM, endsF_col k n M' hcM, by have := hk14.2; simp only; omega, hlt, hfold⟩ (by simp only; omega) ⟨rfl, rfl, rfl, rfl, rfl, trivial⟩ rfl
        · have hi : i = (edges13 t a).length := by have := c13; simp only at this; omega
          subst hi
          rw [List.drop_length, foldE] at hfold
          rw [← hfold]
          refine c_exit ?_; refine x_seq_exit ?_; refine x_loop_exit ?_; refine x_blk_hit ?_; refine x_seq ?_; refine c_seq ?_; refine c_reg ?_
          refine mv rfl rfl (mv rfl rfl (ixs rfl rfl (by omega) rfl (st rfl rfl rfl Mg (by simp [icells]; omega) nofun (fun h16 u16 => ?_))))
          have s16 : h16.size = g.size := u16.size
          have k_16 := kg.upd u16 (by omega)
          refine o_nil ?_; refine x_seq ?_; refine c_seq ?_; refine c_reg ?_; refine asg rfl rfl ?_; refine o_nil ?_; refine x_seq ?_; refine c_ret ?_
          refine ret1 (.inr rfl) rfl rfl ?_
          exact ⟨rfl, set_met u16.at_ rfl, mod_more qg u16.mod (fun j e => .inl e)⟩
end

/-! The walks of the first seven types, and of what tells types alike. No condition but what each theorem says. -/
section
open Go Go.Eng

def BasicR (h' : Heap) (v : Value) : Prop := OwnS h' 52 10 (fun x cs => cs = tyCells x (.slice none 0 0) (.slice none 0 0)) v basic
theorem basic13_fn {h : Heap} : Does Tryz.prog 9 [] h (fun v h' => BasicR h' v ∧ Ext h h' ∧ ∀ k, ownB v k → h.size ≤ k) := by
  have k0 : At h.size h h := At.refl (Nat.le_refl _)
  refine fn_enter (N := 13) Tryz.func9 (by kernel_rfl) rfl rfl rfl (fun w0 => ?_)
  refine c_seq ?_; refine c_reg ?_; refine asg rfl rfl ?_; refine o_nil ?_; refine x_seq ?_; refine c_seq ?_; refine c_reg ?_; refine asg rfl rfl ?_
  refine o_nil ?_; refine x_seq ?_
  refine c_seq ?_; refine c_seq ?_; refine c_reg ?_; refine asg rfl rfl ?_; refine o_nil ?_; refine x_seq ?_; refine c_blk ?_
  refine c_loop (α := Nat × Value × Heap) (fun s => [(1, s.2.1), (2, i64 (s.1 : Nat))]) (fun s => s.2.2)
    (fun s => At h.size h s.2.2 ∧ s.1 ≤ 7 ∧ OwnS s.2.2 52 10 (fun x cs => cs = tyCells x (.slice none 0 0) (.slice none 0 0)) s.2.1 (basic.take s.1) ∧ (∀ k, ownB s.2.1 k → h.size ≤ k)) (fun s => 7 - s.1) (0, .slice none 0 0, h) ⟨k0, Nat.zero_le _, OwnS.nil _ _ _ _, fun k e => by simp [ownB, Value.ownBlock] at e⟩ ⟨rfl, rfl, trivial⟩ rfl (fun s hs => ?_)
  obtain ⟨i, vl, g⟩ := s
  obtain ⟨kg, hi, hO, hOb⟩ := hs
  simp only at kg hi hO hOb
  have kgn := kg.n
  obtain ⟨css, hOw, c1', c2', c3'⟩ := hO
  have hbl : (basic.take i).length = i := by rw [List.length_take, show basic.length = 7 from rfl]; omega
  have hlen : css.flatten.length = i * 10 := by have := hOw.1; rwa [hbl] at this
  change SC _ _ _ _ g
  refine c_seq ?_; refine c_seq ?_; refine c_reg ?_; refine mv rfl rfl (lti rfl rfl rfl ?_)
  refine o_nil ?_; refine x_seq ?_; refine c_cond rfl (fun c1 => ?_) (fun c1 => ?_)
  · have hlt : i < 7 := by have := c1; simp only at this; omega
    have htk : basic.take (i + 1) = basic.take i ++ [basicTy i] := by rw [List.take_add_one, basic_at (by omega)]; rfl
    refine c_skip ?_; refine x_seq ?_
    refine c_seq ?_; refine c_blk ?_; refine c_reg ?_
    refine mv rfl rfl (mv rfl rfl (bld (vs := [(0, i64 (i : Nat))]) (v := .agg (tyCells (basicTy i) (.slice none 0 0) (.slice none 0 0)).toArray) rfl (fun _ => by kernel_rfl) rfl ?_))
    refine bsl (vs := [(0, .agg (tyCells (basicTy i) (.slice none 0 0) (.slice none 0 0)).toArray)]) (cs := (tyCells (basicTy i) (.slice none 0 0) (.slice none 0 0)).toArray) (E := 52) rfl (fun _ => by kernel_rfl) nofun rfl (fun h2 n2 => ?_)
    have s2 : h2.size = g.size + 1 := n2.size
    have k_2 := kg.ext n2.ext
    refine app U_sl rfl rfl (hOw.mod n2.ext (fun _ _ e => e)) (Src.slice (size := 10) (m := 1) rfl (row_blk n2.at_)) rfl (ones rfl) (by rw [hbl]; simp only [maxLen]; omega) (by rw [hbl]; omega) nofun rfl (fun v3 h3 o3 m3 f3 => ?_)
    have s3 : h2.size ≤ h3.size := m3.size
    have k_3 := (k_2.mod m3 (fun j e => hOb j e))
    refine asg rfl rfl ?_; refine o_nil ?_; refine x_blk ?_; refine x_seq ?_; refine c_reg ?_
    refine mv rfl rfl (add rfl rfl (by omega) rfl (asg rfl rfl ?_))
    refine o_nil ?_
    refine x_loop (i + 1, v3, h3) ⟨k_3, hlt, ?_, fun j e => ?_⟩ (by simp only; omega) ⟨rfl, rfl, trivial⟩ rfl
    · simp only; rw [htk]
      exact OwnS.snoc c1' c2' c3' o3 rfl rfl
    · rcases f3 j e with e | e
      · exact hOb j e
      · omega
  · have hi7 : i = 7 := by have := c1; simp only at this; omega
    subst hi7
    refine c_exit ?_; refine x_seq_exit ?_; refine x_loop_exit ?_; refine x_blk_hit ?_; refine x_seq ?_; refine c_seq ?_; refine c_reg ?_
    refine mv rfl rfl (asg rfl rfl ?_)
    refine o_nil ?_; refine x_seq ?_; refine c_ret ?_; refine ret1 (.inr rfl) rfl rfl ?_
    exact ⟨⟨css, hOw, c1', c2', c3'⟩, (kg).toExt, hOb⟩
theorem basicT_fn {h : Heap} : Does Tryz.prog 15 [] h (fun v h' => BasicR h' v ∧ Ext h h' ∧ ∀ k, ownB v k → h.size ≤ k) := by
  have k0 : At h.size h h := At.refl (Nat.le_refl _)
  refine fn_enter (N := 13) Tryz.func15 (by kernel_rfl) rfl rfl rfl (fun w0 => ?_)
  refine c_seq ?_; refine c_reg ?_; refine asg rfl rfl ?_; refine o_nil ?_; refine x_seq ?_; refine c_seq ?_; refine c_reg ?_; refine asg rfl rfl ?_
  refine o_nil ?_; refine x_seq ?_
  refine c_seq ?_; refine c_seq ?_; refine c_reg ?_; refine asg rfl rfl ?_; refine o_nil ?_; refine x_seq ?_; refine c_blk ?_
  refine c_loop (α := Nat × Value × Heap) (fun s => [(1, s.2.1), (2, i64 (s.1 : Nat))]) (fun s => s.2.2)
    (fun s => At h.size h s.2.2 ∧ s.1 ≤ 7 ∧ OwnS s.2.2 52 10 (fun x cs => cs = tyCells x (.slice none 0 0) (.slice none 0 0)) s.2.1 (basic.take s.1) ∧ (∀ k, ownB s.2.1 k → h.size ≤ k)) (fun s => 7 - s.1) (0, .slice none 0 0, h) ⟨k0, Nat.zero_le _, OwnS.nil _ _ _ _, fun k e => by simp [ownB, Value.ownBlock] at e⟩ ⟨rfl, rfl, trivial⟩ rfl (fun s hs => ?_)
  obtain ⟨i, vl, g⟩ := s
  obtain ⟨kg, hi, hO, hOb⟩ := hs
  simp only at kg hi hO hOb
  have kgn := kg.n
  obtain ⟨css, hOw, c1', c2', c3'⟩ := hO
  have hbl : (basic.take i).length = i := by rw [List.length_take, show basic.length = 7 from rfl]; omega
  have hlen : css.flatten.length = i * 10 := by have := hOw.1; rwa [hbl] at this
  change SC _ _ _ _ g
  refine c_seq ?_; refine c_seq ?_; refine c_reg ?_; refine mv rfl rfl (lei rfl rfl rfl ?_)
  refine o_nil ?_; refine x_seq ?_; refine c_cond rfl (fun c1 => ?_) (fun c1 => ?_)
  · have hlt : i < 7 := by have := c1; simp only at this; omega
    have htk : basic.take (i + 1) = basic.take i ++ [basicTy i] := by rw [List.take_add_one, basic_at (by omega)]; rfl
    refine c_skip ?_; refine x_seq ?_
    refine c_seq ?_; refine c_blk ?_; refine c_reg ?_
    refine mv rfl rfl (mv rfl rfl (bld (vs := [(0, i64 (i : Nat))]) (v := .agg (tyCells (basicTy i) (.slice none 0 0) (.slice none 0 0)).toArray) rfl (fun _ => by kernel_rfl) rfl ?_))
    refine bsl (vs := [(0, .agg (tyCells (basicTy i) (.slice none 0 0) (.slice none 0 0)).toArray)]) (cs := (tyCells (basicTy i) (.slice none 0 0) (.slice none 0 0)).toArray) (E := 52) rfl (fun _ => by kernel_rfl) nofun rfl (fun h2 n2 => ?_)
    have s2 : h2.size = g.size + 1 := n2.size
    have k_2 := kg.ext n2.ext
    refine app U_sl rfl rfl (hOw.mod n2.ext (fun _ _ e => e)) (Src.slice (size := 10) (m := 1) rfl (row_blk n2.at_)) rfl (ones rfl) (by rw [hbl]; simp only [maxLen]; omega) (by rw [hbl]; omega) nofun rfl (fun v3 h3 o3 m3 f3 => ?_)
    have s3 : h2.size ≤ h3.size := m3.size
    have k_3 := (k_2.mod m3 (fun j e => hOb j e))
    refine asg rfl rfl ?_; refine o_nil ?_; refine x_blk ?_; refine x_seq ?_; refine c_reg ?_
    refine mv rfl rfl (add rfl rfl (by omega) rfl (asg rfl rfl ?_))
    refine o_nil ?_
    refine x_loop (i + 1, v3, h3) ⟨k_3, hlt, ?_, fun j e => ?_⟩ (by simp only; omega) ⟨rfl, rfl, trivial⟩ rfl
    · simp only; rw [htk]
      exact OwnS.snoc c1' c2' c3' o3 rfl rfl
    · rcases f3 j e with e | e
      · exact hOb j e
      · omega
  · have hi7 : i = 7 := by have := c1; simp only at this; omega
    subst hi7
    refine c_exit ?_; refine x_seq_exit ?_; refine x_loop_exit ?_; refine x_blk_hit ?_; refine x_seq ?_; refine c_seq ?_; refine c_reg ?_
    refine mv rfl rfl (asg rfl rfl ?_)
    refine o_nil ?_; refine x_seq ?_; refine c_ret ?_; refine ret1 (.inr rfl) rfl rfl ?_
    exact ⟨⟨css, hOw, c1', c2', c3'⟩, (kg).toExt, hOb⟩
theorem alike_head {x y : Ty} : x = y ↔ (((((((((x.form = y.form ∧ x.mod = y.mod) ∧ x.name = y.name) ∧ x.len = y.len) ∧ x.elem = y.elem) ∧ x.base = y.base) ∧ x.res = y.res) ∧ x.desc = y.desc) ∧ x.fields = y.fields) ∧ x.params = y.params) := by
  cases x; cases y
  simp only [Ty.mk.injEq]
  constructor
  · exact fun ⟨a, b, c, d, e, f, g, h, i, j⟩ => ⟨⟨⟨⟨⟨⟨⟨⟨⟨a, b⟩, c⟩, d⟩, e⟩, f⟩, i⟩, j⟩, g⟩, h⟩
  · exact fun ⟨⟨⟨⟨⟨⟨⟨⟨⟨a, b⟩, c⟩, d⟩, e⟩, f⟩, i⟩, j⟩, g⟩, h⟩ => ⟨a, b, c, d, e, f, g, h, i, j⟩
theorem upto_eq {α : Type} {xs ys : List α} (hl : xs.length = ys.length) (h : ∀ j, j < xs.length → xs[j]? = ys[j]?) : xs = ys := by
  apply List.ext_getElem?
  intro j
  by_cases hj : j < xs.length
  · exact h j hj
  · rw [List.getElem?_eq_none (by omega), List.getElem?_eq_none (by omega)]
set_option maxHeartbeats 2000000 in
theorem alike_fn {h : Heap} {vx vy : Value} {x y : Ty} (hx : TyV h.size h vx x) (hy : TyV h.size h vy y) : Does Tryz.prog 58 [vx, vy] h (fun v h' => v = .bool (tb (x = y)) ∧ Ext h h') := by
  have hmx : maxLen = 9223372036854775807 := by decide
  have k0 : At h.size h h := At.refl (Nat.le_refl _)
  obtain ⟨cx, rfl, hfx, vfx, vpx, rfl, hFx, hPx⟩ := hx
  obtain ⟨cy, rfl, hfy, vfy, vpy, rfl, hFy, hPy⟩ := hy
  have hFx0 := hFx
  have hPx0 := hPx
  have hFy0 := hFy
  have hPy0 := hPy
  obtain ⟨afx, cfx, rfl⟩ := hFx.form
  obtain ⟨apx, cpx, rfl⟩ := hPx.form
  obtain ⟨afy, cfy, rfl⟩ := hFy.form
  obtain ⟨apy, cpy, rfl⟩ := hPy.form
  have hl1 := hFx0.1
  have hl2 := hPx0.1
  refine fn_enter (N := 164) Tryz.func58 (by kernel_rfl) rfl rfl rfl (fun w0 => ?_)
  refine c_seq ?_; refine c_reg ?_; refine bx rfl nofun rfl (fun h1 n1 => ?_)
  have s1 : h1.size = h.size + 1 := n1.size
  have k_1 := k0.ext n1.ext
  have b2_1 := n1.at_
  refine bx rfl nofun rfl (fun h2 n2 => ?_)
  have s2 : h2.size = h1.size + 1 := n2.size
  have k_2 := k_1.ext n2.ext
  have b2_2 := n2.ext.get b2_1
  have b3_2 := n2.at_
  refine asg rfl rfl ?_; refine o_nil ?_; refine x_seq ?_
  refine c_seq ?_; refine c_seq ?_; refine c_reg ?_
  refine fa rfl rfl (ld rfl (cell b2_2 rfl) rfl (fa rfl rfl (ld rfl (cell b3_2 rfl) rfl (nei rfl rfl rfl (mv rfl rfl (gqf rfl rfl rfl (fun e => fa rfl rfl) (gqf rfl rfl rfl (fun e => ld (cg rfl e) (cell b2_2 rfl) rfl) ?_)))))))
  refine gqf rfl rfl rfl (fun e => fa rfl rfl) (gqf rfl rfl rfl (fun e => ld (cg rfl e) (cell b3_2 rfl) rfl) (gqf rfl rfl rfl (fun e => nes (cg rfl e) (cg rfl e) rfl) ?_))
  refine pko rfl rfl rfl rfl (mv rfl rfl (gqf rfl rfl rfl (fun e => fa rfl rfl) (gqf rfl rfl rfl (fun e => ld (cg rfl e) (cell b2_2 rfl) rfl) (gqf rfl rfl rfl (fun e => fa rfl rfl) ?_))))
  refine gqf rfl rfl rfl (fun e => ld (cg rfl e) (cell b3_2 rfl) rfl) (gqf rfl rfl rfl (fun e => nes (cg rfl e) (cg rfl e) rfl) (pko rfl rfl rfl rfl (mv rfl rfl ?_)))
  refine gqf rfl rfl rfl (fun e => fa rfl rfl) (gqf rfl rfl rfl (fun e => ld (cg rfl e) (cell b2_2 rfl) rfl) (gqf rfl rfl rfl (fun e => fa rfl rfl) (gqf rfl rfl rfl (fun e => ld (cg rfl e) (cell b3_2 rfl) rfl) ?_)))
  refine gqf rfl rfl rfl (fun e => nei (cg rfl e) (cg rfl e) rfl) (pko rfl rfl rfl rfl (mv rfl rfl (gqf rfl rfl rfl (fun e => fa rfl rfl) (gqf rfl rfl rfl (fun e => ld (cg rfl e) (cell b2_2 rfl) rfl) ?_))))
  refine gqf rfl rfl rfl (fun e => fa rfl rfl) (gqf rfl rfl rfl (fun e => ld (cg rfl e) (cell b3_2 rfl) rfl) (gqf rfl rfl rfl (fun e => nei (cg rfl e) (cg rfl e) rfl) ?_))
  refine pko rfl rfl rfl rfl (mv rfl rfl (gqf rfl rfl rfl (fun e => fa rfl rfl) (gqf rfl rfl rfl (fun e => ld (cg rfl e) (cell b2_2 rfl) rfl) (gqf rfl rfl rfl (fun e => fa rfl rfl) ?_))))
  refine gqf rfl rfl rfl (fun e => ld (cg rfl e) (cell b3_2 rfl) rfl) (gqf rfl rfl rfl (fun e => nei (cg rfl e) (cg rfl e) rfl) (pko rfl rfl rfl rfl (mv rfl rfl ?_)))
  refine gqf rfl rfl rfl (fun e => fa rfl rfl) (gqf rfl rfl rfl (fun e => ld (cg rfl e) (cell b2_2 rfl) rfl) (gqf rfl rfl rfl (fun e => fa rfl rfl) (gqf rfl rfl rfl (fun e => ld (cg rfl e) (cell b3_2 rfl) rfl) ?_)))
  refine gqf rfl rfl rfl (fun e => nei (cg rfl e) (cg rfl e) rfl) (pko rfl rfl rfl rfl (mv rfl rfl (gqf rfl rfl rfl (fun e => fa rfl rfl) (gqf rfl rfl rfl (fun e => ld (cg rfl e) (cell b2_2 rfl) rfl) ?_))))
  refine gqf rfl rfl rfl (fun e => fa rfl rfl) (gqf rfl rfl rfl (fun e => ld (cg rfl e) (cell b3_2 rfl) rfl) (gqf rfl rfl rfl (fun e => nei (cg rfl e) (cg rfl e) rfl) ?_))
  refine pko rfl rfl rfl rfl (mv rfl rfl (gqf rfl rfl rfl (fun e => fa rfl rfl) (gqf rfl rfl rfl (fun e => ld (cg rfl e) (cell b2_2 rfl) rfl) (gqf rfl rfl rfl (fun e => lnl (cg rfl e) rfl) ?_))))
  refine gqf rfl rfl rfl (fun e => fa rfl rfl) (gqf rfl rfl rfl (fun e => ld (cg rfl e) (cell b3_2 rfl) rfl) (gqf rfl rfl rfl (fun e => lnl (cg rfl e) rfl) (gqf rfl rfl rfl (fun e => nei (cg rfl e) (cg rfl e) rfl) ?_)))
  refine pko rfl rfl rfl rfl (mv rfl rfl (gqf rfl rfl rfl (fun e => fa rfl rfl) (gqf rfl rfl rfl (fun e => ld (cg rfl e) (cell b2_2 rfl) rfl) (gqf rfl rfl rfl (fun e => lnl (cg rfl e) rfl) ?_))))
  refine gqf rfl rfl rfl (fun e => fa rfl rfl) (gqf rfl rfl rfl (fun e => ld (cg rfl e) (cell b3_2 rfl) rfl) (gqf rfl rfl rfl (fun e => lnl (cg rfl e) rfl) (gqf rfl rfl rfl (fun e => nei (cg rfl e) (cg rfl e) rfl) ?_)))
  refine pko rfl rfl rfl rfl ?_; refine o_nil ?_; refine x_seq ?_; refine c_cond rfl (fun c3 => ?_) (fun c3 => ?_)
  · refine c_seq ?_; refine c_reg ?_; refine asg rfl rfl ?_; refine o_nil ?_; refine x_seq ?_; refine c_ret ?_; refine x_seq_ret ?_
    refine ret1 (.inr rfl) rfl rfl ?_
    refine ⟨congrArg Value.bool (tb_f (fun hs => ?_)).symm, (k_2).toExt⟩
    subst hs
    rcases c3 with ((((((((c | c) | c) | c) | c) | c) | c) | c) | c) | c <;> exact c rfl
  · have d1 : x.form = y.form := Classical.byContradiction fun e => c3 (.inl (.inl (.inl (.inl (.inl (.inl (.inl (.inl (.inl e)))))))))
    have d2 : x.mod = y.mod := Classical.byContradiction fun e => c3 (.inl (.inl (.inl (.inl (.inl (.inl (.inl (.inl (.inr e)))))))))
    have d3 : x.name = y.name := Classical.byContradiction fun e => c3 (.inl (.inl (.inl (.inl (.inl (.inl (.inl (.inr e))))))))
    have d4 : x.len = y.len := Classical.byContradiction fun e => c3 (.inl (.inl (.inl (.inl (.inl (.inl (.inr e)))))))
    have d5 : x.elem = y.elem := Classical.byContradiction fun e => c3 (.inl (.inl (.inl (.inl (.inl (.inr e))))))
    have d6 : x.base = y.base := Classical.byContradiction fun e => c3 (.inl (.inl (.inl (.inl (.inr e)))))
    have d7 : x.res = y.res := Classical.byContradiction fun e => c3 (.inl (.inl (.inl (.inr e))))
    have d8 : x.desc = y.desc := Classical.byContradiction fun e => c3 (.inl (.inl (.inr e)))
    have d9 : x.fields.length = y.fields.length := by have : (x.fields.length : Int) = y.fields.length := Classical.byContradiction fun e => c3 (.inl (.inr e)); omega
    have d10 : x.params.length = y.params.length := by have : (x.params.length : Int) = y.params.length := Classical.byContradiction fun e => c3 (.inr e); omega
    have hiff : x = y ↔ x.fields = y.fields ∧ x.params = y.params := alike_head.trans ⟨fun e => ⟨e.1.2, e.2⟩, fun e => ⟨⟨⟨⟨⟨⟨⟨⟨⟨d1, d2⟩, d3⟩, d4⟩, d5⟩, d6⟩, d7⟩, d8⟩, e.1⟩, e.2⟩⟩
    refine c_skip ?_; refine x_seq ?_
    refine c_seq ?_; refine c_seq ?_; refine c_reg ?_; refine asg rfl rfl ?_; refine o_nil ?_; refine x_seq ?_; refine c_blk ?_
    refine c_loop (α := Nat) (fun i => [(2, ptr h.size 0), (3, ptr h1.size 0), (5, i64 (i : Nat))]) (fun _ => h2) (fun i => i ≤ x.fields.length ∧ ∀ j, j < i → x.fields[j]? = y.fields[j]?) (fun i => x.fields.length - i) 0 ⟨Nat.zero_le _, fun j e => absurd e (Nat.not_lt_zero _)⟩ ⟨rfl, rfl, rfl, trivial⟩ rfl (fun i hs => ?_)
    obtain ⟨hil, hup⟩ := hs
    change SC _ _ _ _ h2
    refine c_seq ?_; refine c_seq ?_; refine c_reg ?_; refine mv rfl rfl (fa rfl rfl (ld rfl (cell b2_2 rfl) rfl (lnl rfl rfl (lti rfl rfl rfl ?_))))
    refine o_nil ?_; refine x_seq ?_; refine c_cond rfl (fun c4 => ?_) (fun c4 => ?_)
    · have hlt : i < x.fields.length := by have := c4; omega
      have hxi : x.fields[i]? = some x.fields[i] := List.getElem?_eq_getElem hlt
      have hyi : y.fields[i]? = some (y.fields[i]'(by omega)) := List.getElem?_eq_getElem _
      obtain ⟨b2, o2, cs2, ha2, hb2, hl2', hr2, hcs2, hfl2⟩ := hFx0.el k_2 hxi
      obtain ⟨b3, o3, cs3, ha3, hb3, hl3', hr3, hcs3, hfl3⟩ := hFy0.el k_2 hyi
      generalize x.fields[i] = f at *
      generalize y.fields[i]'(by omega) = g at *
      subst hcs2 hcs3
      subst ha2
      subst ha3
      refine c_skip ?_; refine x_seq ?_
      refine c_seq ?_; refine c_blk ?_; refine c_seq ?_
      refine c_dreg (· = h2) [0, 1, 2, 3, 4, 5, 6, 7, 8, 9, 10, 11, 12, 13, 14, 15, 16, 17, 18, 19, 20, 21, 22, 23, 24, 25, 26, 27, 28, 29, 30, 31, 32, 33, 34, 35, 36, 37, 38, 39, 40, 41, 42] rfl rfl (by kernel_rfl) ?_
      refine fa rfl rfl (ldI rfl (fun _ hI => by subst hI; exact cell b2_2 rfl) rfl (mv rfl rfl (ixs rfl rfl (by omega) rfl (fa rfl rfl (ldI rfl (fun _ hI => by subst hI; exact hr2 0 _ rfl) rfl ?_)))))
      refine fa rfl rfl (ldI rfl (fun _ hI => by subst hI; exact cell b3_2 rfl) rfl (mv rfl rfl (ixs rfl rfl (by omega) rfl (fa rfl rfl (ldI rfl (fun _ hI => by subst hI; exact hr3 0 _ rfl) rfl ?_)))))
      refine nes rfl rfl rfl (mv rfl rfl (gqf rfl rfl rfl (fun e => fa rfl rfl) (gqf rfl rfl rfl (fun e => ldI (cg rfl e) (fun _ hI => by subst hI; exact cell b2_2 rfl) rfl) ?_)))
      refine gqf rfl rfl rfl (fun e => mv rfl rfl) (gqf rfl rfl rfl (fun e => ixs (cg rfl e) (cg rfl e) (by omega) rfl) (gqf rfl rfl rfl (fun e => fa (cg rfl e) rfl) ?_))
      refine gqf rfl rfl rfl (fun e => ldI (cg rfl e) (fun _ hI => by subst hI; exact hr2 1 _ rfl) rfl) (gqf rfl rfl rfl (fun e => fa rfl rfl) (gqf rfl rfl rfl (fun e => ldI (cg rfl e) (fun _ hI => by subst hI; exact cell b3_2 rfl) rfl) ?_))
      refine gqf rfl rfl rfl (fun e => mv rfl rfl) (gqf rfl rfl rfl (fun e => ixs (cg rfl e) (cg rfl e) (by omega) rfl) (gqf rfl rfl rfl (fun e => fa (cg rfl e) rfl) ?_))
      refine gqf rfl rfl rfl (fun e => ldI (cg rfl e) (fun _ hI => by subst hI; exact hr3 1 _ rfl) rfl) (gqf rfl rfl rfl (fun e => neb (cg rfl e) (cg rfl e) rfl) (pko rfl rfl rfl rfl ?_))
      refine mv rfl rfl (gqf rfl rfl rfl (fun e => fa rfl rfl) (gqf rfl rfl rfl (fun e => ldI (cg rfl e) (fun _ hI => by subst hI; exact cell b2_2 rfl) rfl) (gqf rfl rfl rfl (fun e => mv rfl rfl) ?_)))
      refine gqf rfl rfl rfl (fun e => ixs (cg rfl e) (cg rfl e) (by omega) rfl) (gqf rfl rfl rfl (fun e => fa (cg rfl e) rfl) (gqf rfl rfl rfl (fun e => ldI (cg rfl e) (fun _ hI => by subst hI; exact hr2 2 _ rfl) rfl) ?_))
      refine gqf rfl rfl rfl (fun e => fa rfl rfl) (gqf rfl rfl rfl (fun e => ldI (cg rfl e) (fun _ hI => by subst hI; exact cell b3_2 rfl) rfl) (gqf rfl rfl rfl (fun e => mv rfl rfl) ?_))
      refine gqf rfl rfl rfl (fun e => ixs (cg rfl e) (cg rfl e) (by omega) rfl) (gqf rfl rfl rfl (fun e => fa (cg rfl e) rfl) (gqf rfl rfl rfl (fun e => ldI (cg rfl e) (fun _ hI => by subst hI; exact hr3 2 _ rfl) rfl) ?_))
      refine gqf rfl rfl rfl (fun e => nei (cg rfl e) (cg rfl e) rfl) (pko rfl rfl rfl rfl ?_)
      refine o_nil ?_; refine x_seq ?_; refine c_cond rfl (fun c5 => ?_) (fun c5 => ?_)
      · refine c_seq ?_; refine c_reg ?_; refine asg rfl rfl ?_; refine o_nil ?_; refine x_seq ?_; refine c_ret ?_; refine x_blk_ret ?_
        refine x_seq_ret ?_; refine x_loop_ret ?_; refine x_blk_ret ?_; refine x_seq_ret ?_; refine ret1 (.inr rfl) rfl rfl ?_
        refine ⟨congrArg Value.bool (tb_f (fun hs => ?_)).symm, (k_2).toExt⟩
        rw [(hiff.1 hs).1, hyi] at hxi
        cases hxi
        rcases c5 with (c | c) | c <;> exact c rfl
      · refine c_skip ?_; refine x_blk ?_; refine x_seq ?_; refine c_reg ?_; refine mv rfl rfl (add rfl rfl (by omega) rfl (asg rfl rfl ?_))
        refine o_nil ?_
        refine x_loop (i + 1) ⟨hlt, fun j hj => ?_⟩ (by omega) ⟨rfl, rfl, rfl, trivial⟩ rfl
        rcases Nat.lt_or_ge j i with e | e
        · exact hup j e
        · rw [show j = i by omega, hxi, hyi]
          have q1 : f.name = g.name := Classical.byContradiction fun e => c5 (.inl (.inl e))
          have q2 : f.exp = g.exp := Classical.byContradiction fun e => c5 (.inl (.inr e))
          have q3 : f.type = g.type := Classical.byContradiction fun e => c5 (.inr e)
          cases f; cases g; simp only at q1 q2 q3; rw [q1, q2, q3]
    · have hi' : i = x.fields.length := by have := c4; omega
      subst hi'
      have hfe := upto_eq d9 hup
      refine c_exit ?_; refine x_seq_exit ?_; refine x_loop_exit ?_; refine x_blk_hit ?_; refine x_seq ?_
      refine c_seq ?_; refine c_seq ?_; refine c_reg ?_; refine asg rfl rfl ?_; refine o_nil ?_; refine x_seq ?_; refine c_blk ?_
      refine c_loop (α := Nat) (fun i => [(2, ptr h.size 0), (3, ptr h1.size 0), (6, i64 (i : Nat))]) (fun _ => h2) (fun i => i ≤ x.params.length ∧ ∀ j, j < i → x.params[j]? = y.params[j]?) (fun i => x.params.length - i) 0 ⟨Nat.zero_le _, fun j e => absurd e (Nat.not_lt_zero _)⟩ ⟨rfl, rfl, rfl, trivial⟩ rfl (fun i hs => ?_)
      obtain ⟨hil, hup⟩ := hs
      change SC _ _ _ _ h2
      refine c_seq ?_; refine c_seq ?_; refine c_reg ?_; refine mv rfl rfl (fa rfl rfl (ld rfl (cell b2_2 rfl) rfl (lnl rfl rfl (lti rfl rfl rfl ?_))))
      refine o_nil ?_; refine x_seq ?_; refine c_cond rfl (fun c6 => ?_) (fun c6 => ?_)
      · have hlt : i < x.params.length := by have := c6; omega
        have hxi : x.params[i]? = some x.params[i] := List.getElem?_eq_getElem hlt
        have hyi : y.params[i]? = some (y.params[i]'(by omega)) := List.getElem?_eq_getElem _
        obtain ⟨b2, o2, cs2, ha2, hb2, hl2', hr2, hcs2, hfl2⟩ := hPx0.el k_2 hxi
        obtain ⟨b3, o3, cs3, ha3, hb3, hl3', hr3, hcs3, hfl3⟩ := hPy0.el k_2 hyi
        generalize x.params[i] = f at *
        generalize y.params[i]'(by omega) = g at *
        subst hcs2 hcs3
        subst ha2
        subst ha3
        refine c_skip ?_; refine x_seq ?_
        refine c_seq ?_; refine c_blk ?_; refine c_seq ?_
        refine c_dreg (· = h2) [0, 1, 2, 3, 4, 5, 6, 7, 8, 9, 10, 11, 12, 13, 14, 15, 16, 17, 18, 19, 20, 21, 22, 23, 24, 25, 26, 27] rfl rfl (by kernel_rfl) ?_
        refine fa rfl rfl (ldI rfl (fun _ hI => by subst hI; exact cell b2_2 rfl) rfl (mv rfl rfl (ixs rfl rfl (by omega) rfl (fa rfl rfl (ldI rfl (fun _ hI => by subst hI; exact hr2 0 _ rfl) rfl ?_)))))
        refine fa rfl rfl (ldI rfl (fun _ hI => by subst hI; exact cell b3_2 rfl) rfl (mv rfl rfl (ixs rfl rfl (by omega) rfl (fa rfl rfl (ldI rfl (fun _ hI => by subst hI; exact hr3 0 _ rfl) rfl ?_)))))
        refine neb rfl rfl rfl (mv rfl rfl (gqf rfl rfl rfl (fun e => fa rfl rfl) (gqf rfl rfl rfl (fun e => ldI (cg rfl e) (fun _ hI => by subst hI; exact cell b2_2 rfl) rfl) ?_)))
        refine gqf rfl rfl rfl (fun e => mv rfl rfl) (gqf rfl rfl rfl (fun e => ixs (cg rfl e) (cg rfl e) (by omega) rfl) (gqf rfl rfl rfl (fun e => fa (cg rfl e) rfl) ?_))
        refine gqf rfl rfl rfl (fun e => ldI (cg rfl e) (fun _ hI => by subst hI; exact hr2 1 _ rfl) rfl) (gqf rfl rfl rfl (fun e => fa rfl rfl) (gqf rfl rfl rfl (fun e => ldI (cg rfl e) (fun _ hI => by subst hI; exact cell b3_2 rfl) rfl) ?_))
        refine gqf rfl rfl rfl (fun e => mv rfl rfl) (gqf rfl rfl rfl (fun e => ixs (cg rfl e) (cg rfl e) (by omega) rfl) (gqf rfl rfl rfl (fun e => fa (cg rfl e) rfl) ?_))
        refine gqf rfl rfl rfl (fun e => ldI (cg rfl e) (fun _ hI => by subst hI; exact hr3 1 _ rfl) rfl) (gqf rfl rfl rfl (fun e => nei (cg rfl e) (cg rfl e) rfl) (pko rfl rfl rfl rfl ?_))
        refine o_nil ?_; refine x_seq ?_; refine c_cond rfl (fun c7 => ?_) (fun c7 => ?_)
        · refine c_seq ?_; refine c_reg ?_; refine asg rfl rfl ?_; refine o_nil ?_; refine x_seq ?_; refine c_ret ?_; refine x_blk_ret ?_
          refine x_seq_ret ?_; refine x_loop_ret ?_; refine x_blk_ret ?_; refine x_seq_ret ?_; refine ret1 (.inr rfl) rfl rfl ?_
          refine ⟨congrArg Value.bool (tb_f (fun hs => ?_)).symm, (k_2).toExt⟩
          rw [(hiff.1 hs).2, hyi] at hxi
          cases hxi
          rcases c7 with c | c <;> exact c rfl
        · refine c_skip ?_; refine x_blk ?_; refine x_seq ?_; refine c_reg ?_; refine mv rfl rfl (add rfl rfl (by omega) rfl (asg rfl rfl ?_))
          refine o_nil ?_
          refine x_loop (i + 1) ⟨hlt, fun j hj => ?_⟩ (by omega) ⟨rfl, rfl, rfl, trivial⟩ rfl
          rcases Nat.lt_or_ge j i with e | e
          · exact hup j e
          · rw [show j = i by omega, hxi, hyi]
            have q2 : f.byVar = g.byVar := Classical.byContradiction fun e => c7 (.inl e)
            have q3 : f.type = g.type := Classical.byContradiction fun e => c7 (.inr e)
            cases f; cases g; simp only at q2 q3; rw [q2, q3]
      · have hi' : i = x.params.length := by have := c6; omega
        subst hi'
        refine c_exit ?_; refine x_seq_exit ?_; refine x_loop_exit ?_; refine x_blk_hit ?_; refine x_seq ?_; refine c_seq ?_; refine c_reg ?_
        refine asg rfl rfl ?_; refine o_nil ?_; refine x_seq ?_; refine c_ret ?_; refine ret1 (.inr rfl) rfl rfl ?_
        exact ⟨congrArg Value.bool (tb_t (hiff.2 ⟨hfe, upto_eq d10 hup⟩)).symm, (k_2).toExt⟩
end

/-! The reference's good tables are the program's. Plain. No condition but what each theorem says. -/
section
open Go Go.Eng

def PairP (t : List Ty) (i : Nat) : Prop := ∀ (k : Nat) x y, 7 ≤ k → k < i → t[i]? = some x → t[k]? = some y → ¬ ((((x.form = 9 ∧ y.form = 9) ∧ x.mod = y.mod) ∧ x.desc = y.desc) ∧ ¬ x.desc = -1)
def R13 (t : List Ty) : Prop := (7 ≤ t.length ∧ t.length ≤ 256) ∧ (∀ j, j < 7 → t[j]? = basic[j]?) ∧ (∀ (i : Nat) x, 7 ≤ i → t[i]? = some x → OneP t i x) ∧ (∀ a, 7 ≤ a → a < t.length → Ends (edges13 t) a) ∧ ∀ i, 7 ≤ i → i < t.length → PairP t i
theorem nil_iff {a b : Bytes} : ((a == []) = (b == [])) ↔ (a = [] ↔ b = []) := by rw [Bool.eq_iff_iff]; simp
theorem bad1_not {x : Ty} (h : ¬ Bad1 x) : (x.form ≠ 9 → x.desc = 0 ∧ (x.mod = [] ↔ x.name = [])) ∧ (x.form = 9 → x.mod ≠ [] ∧ -1 ≤ x.desc ∧ x.desc ≤ 63) := by
  constructor
  · intro hf
    have h1 : x.desc = 0 := Classical.byContradiction fun e => h (.inl ⟨hf, .inl e⟩)
    have h2 : (x.mod == []) = (x.name == []) := Classical.byContradiction fun e => h (.inl ⟨hf, .inr e⟩)
    exact ⟨h1, nil_iff.1 h2⟩
  · intro hf
    have h1 : ¬ ((x.mod = [] ∨ x.desc < -1) ∨ 63 < x.desc) := fun e => h (.inr ⟨hf, e⟩)
    exact ⟨fun e => h1 (.inl (.inl e)), by have := fun e => h1 (.inl (.inr e)); omega, by have := fun e => h1 (.inr e); omega⟩
theorem bad2_not {x : Ty} (h : ¬ Bad2 x) : (x.mod = [] ∨ WordP x.mod) ∧ (x.name = [] ∨ WordP x.name) :=
  ⟨(Classical.em _).imp id (fun e => Classical.byContradiction fun e' => h (.inl ⟨e, e'⟩)), (Classical.em _).imp id (fun e => Classical.byContradiction fun e' => h (.inr ⟨e, e'⟩))⟩
theorem word_ne {s : Bytes} (h : WordP s) : s ≠ [] := fun e => by have := h.1; rw [e] at this; simp at this
theorem named_of {x : Ty} (h1 : ¬ Bad1 x) (h2 : ¬ Bad2 x) : NamedTy x := by
  obtain ⟨a, b⟩ := bad1_not h1
  obtain ⟨c, d⟩ := bad2_not h2
  by_cases hf : x.form = 9
  · exact .inr ⟨c.resolve_left (b hf).1, d.elim (fun e => .inr ⟨e, hf⟩) .inl⟩
  · rcases c with c | c
    · exact .inl ⟨⟨c, (a hf).2.1 c⟩, hf⟩
    · exact .inr ⟨c, .inl (d.resolve_left (fun e => word_ne c ((a hf).2.2 e)))⟩
theorem holds_part {t : List Ty} (hF : ∀ r : Int, 0 ≤ r ∧ r < t.length → 0 ≤ formOf t r ∧ formOf t r ≤ 11) {r : Int} : HoldsP t r ↔ PartF (formOf t r) := by
  constructor
  · intro ⟨h1, h2⟩
    have := hF r h1
    unfold HoldsF at h2; unfold PartF; omega
  · intro h
    have h1 := part_in h
    refine ⟨h1, ?_⟩
    unfold PartF at h; unfold HoldsF; omega
theorem len_nil {α : Type} {l : List α} (h : ¬ 0 < (l.length : Int)) : l = [] := List.length_eq_zero_iff.1 (by omega)
theorem head_bases {t : List Ty} {k a : Nat} {l : List Nat} (h : basesF t k a = some l) : ∃ l', l = a :: l' := by
  cases k with
  | zero =>
    simp only [basesF] at h
    split at h
    · cases h; exact ⟨[], rfl⟩
    · cases h
  | succ k =>
    simp only [basesF] at h
    split at h
    · cases h; exact ⟨[], rfl⟩
    · split at h
      · rw [Option.map_eq_some_iff] at h; obtain ⟨l', -, rfl⟩ := h; exact ⟨l', rfl⟩
      · cases h
theorem rec_base {t : List Ty} {a : Nat} {x : Ty} (hx : t[a]? = some x) (h : RecP t a) : x.base = 0 ∨ formOf t x.base = 9 := by
  obtain ⟨l, h1, -⟩ := h
  by_cases hb : x.base = 0
  · exact .inl hb
  · refine .inr ?_
    simp only [basesF, tyAt_of hx] at h1
    rw [if_neg hb] at h1
    split at h1
    · rename_i c; exact c.2
    · cases h1
theorem rec_fields {t : List Ty} {a : Nat} {x : Ty} (hx : t[a]? = some x) (h : RecP t a) : x.fields.length ≤ 64 ∧ ∀ f ∈ x.fields, FldR t f := by
  obtain ⟨l, h1, -, h2, -⟩ := h
  obtain ⟨l', rfl⟩ := head_bases h1
  have := h2 a (List.mem_cons_self ..)
  rwa [tyAt_of hx] at this
theorem kind_of {t : List Ty} (hF : ∀ r : Int, 0 ≤ r ∧ r < t.length → 0 ≤ formOf t r ∧ formOf t r ≤ 11) {a : Nat} {x : Ty} (hx : t[a]? = some x) (h1 : ¬ Bad1 x) (h3 : ¬ Bad3 x) (hk : Kind13 t a x) : KindP t x := by
  obtain ⟨b1, b2⟩ := bad1_not h1
  have c1 : x.form = 7 ∨ x.len = 0 := (Classical.em _).imp id (fun e => Classical.byContradiction fun e' => h3 (.inl (.inl (.inl ⟨e, e'⟩))))
  have c2 : (x.form = 7 ∨ x.form = 8 ∨ x.form = 10) ∨ x.elem = 0 := (Classical.em _).imp id (fun e => Classical.byContradiction fun e' => h3 (.inl (.inl (.inr ⟨by omega, e'⟩))))
  have c3 : x.form = 9 ∨ (x.base = 0 ∧ x.fields = []) := (Classical.em _).imp id (fun e => ⟨Classical.byContradiction fun e' => h3 (.inl (.inr ⟨e, .inl e'⟩)), len_nil fun e' => h3 (.inl (.inr ⟨e, .inr e'⟩))⟩)
  have c4 : x.form = 11 ∨ (x.params = [] ∧ x.res = 0) := (Classical.em _).imp id (fun e => ⟨len_nil fun e' => h3 (.inr ⟨e, .inl e'⟩), Classical.byContradiction fun e' => h3 (.inr ⟨e, .inr e'⟩)⟩)
  rcases hk with ⟨hf, k⟩ | ⟨hf, k⟩ | ⟨hf, k⟩ | ⟨hf, k⟩ | ⟨hf, k1, k2, k3⟩
  · have d3 := c3.resolve_left (by omega); have d4 := c4.resolve_left (by omega)
    exact .inl ⟨hf, ⟨k.1.1, k.1.2, (holds_part hF).1 k.2⟩, d3.1, d4.2, (b1 (by omega)).1, d3.2, d4.1⟩
  · have d3 := c3.resolve_left (by omega); have d4 := c4.resolve_left (by omega)
    exact .inr (.inl ⟨hf, k.imp (holds_part hF).1 (fun e => e.2), c1.resolve_left (by omega), d3.1, d4.2, (b1 (by omega)).1, d3.2, d4.1⟩)
  · have d3 := c3.resolve_left (by omega); have d4 := c4.resolve_left (by omega)
    exact .inr (.inr (.inr (.inl ⟨hf, k.2, c1.resolve_left (by omega), d3.1, d4.2, (b1 (by omega)).1, d3.2, d4.1⟩)))
  · have d4 := c4.resolve_left (by omega)
    have q := b2 hf
    have r1 := rec_base hx k
    obtain ⟨r2, r3⟩ := rec_fields hx k
    exact .inr (.inr (.inl ⟨hf, ⟨r1, r2, q.2.1, by omega, fun f hf => ⟨(r3 f hf).1, (holds_part hF).1 (r3 f hf).2⟩⟩, c1.resolve_left (by omega), c2.resolve_left (by omega), d4.2, d4.1⟩))
  · have d3 := c3.resolve_left (by omega)
    refine .inr (.inr (.inr (.inr ⟨hf, ⟨by omega, k3.imp id (fun e => ?_), fun p hp => (k2 p hp).imp (holds_part hF).1 (fun e => e.2)⟩, c1.resolve_left (by omega), c2.resolve_left (by omega), d3.1, (b1 (by omega)).1, d3.2⟩)))
    have h9 := (holds_part hF).1 e.1.1
    unfold PartF at h9; unfold PlainF; omega
theorem chain_of {t : List Ty} : ∀ {k a : Nat} {l : List Nat}, a < t.length → basesF t k a = some l → ∀ n, l.length ≤ n → chainN t n (tyAt t a) = some (namesT t l)
  | 0, a, l, ha, h, n, hn => by
    simp only [basesF] at h
    split at h
    · rename_i hb; cases h
      cases n with
      | zero => simp at hn
      | succ n => unfold chainN; rw [if_pos hb]; simp [namesT]
    · cases h
  | k + 1, a, l, ha, h, n, hn => by
    simp only [basesF] at h
    split at h
    · rename_i hb; cases h
      cases n with
      | zero => simp at hn
      | succ n => unfold chainN; rw [if_pos hb]; simp [namesT]
    · rename_i hb
      split at h
      · rename_i hc
        rw [Option.map_eq_some_iff] at h
        obtain ⟨l', hl', rfl⟩ := h
        cases n with
        | zero => simp at hn
        | succ n =>
          have ih := chain_of (by omega) hl' n (by simpa using hn)
          have hx : t[(tyAt t a).base.toNat]? = some (tyAt t (tyAt t a).base.toNat) := by
            have := List.getElem?_eq_getElem (show (tyAt t a).base.toNat < t.length by omega)
            rw [tyAt_of this]; exact this
          unfold chainN
          rw [if_neg hb, hx]
          simp only
          rw [ih]
          simp [namesT]
      · cases h
theorem bases_of {t : List Ty} (hN : NodesP t) : ∀ {n a : Nat} {x : Ty} {L : List Bytes} (k : Nat), 7 ≤ a → t[a]? = some x → x.form = 9 → chainN t n x = some L → n ≤ k + 1 →
    ∃ l, basesF t k a = some l ∧ l.length ≤ n ∧ namesT t l = L ∧ ∀ b ∈ l, 7 ≤ b ∧ ∃ y, t[b]? = some y ∧ y.form = 9
  | 0, _, _, _, _, _, _, _, h, _ => by simp [chainN] at h
  | n + 1, a, x, L, k, h7, hx, h9, h, hk => by
    unfold chainN at h
    by_cases hb : x.base = 0
    · rw [if_pos hb] at h
      cases h
      refine ⟨[a], bases_zero (by rw [tyAt_of hx]; exact hb), by simp, by simp [namesT, tyAt_of hx], fun b hb => ?_⟩
      rw [List.mem_singleton] at hb; subst hb; exact ⟨h7, x, hx, h9⟩
    · rw [if_neg hb] at h
      have hkind : KindP t x := by
        rcases hN a x hx with ⟨e, -⟩ | ⟨-, e, -⟩
        · omega
        · exact e
      have hb9 : formOf t x.base = 9 := by
        rcases hkind with ⟨h, -⟩ | ⟨h, -⟩ | ⟨h, k, -⟩ | ⟨h, -⟩ | ⟨h, -⟩ <;> omega
      have hin := formOf_in (t := t) (n := x.base) (by omega)
      have hy : t[x.base.toNat]? = some (t[x.base.toNat]'(by omega)) := List.getElem?_eq_getElem _
      have hy9 : (t[x.base.toNat]'(by omega)).form = 9 := by rw [← hb9, formOf_at hin.1 hy]
      generalize t[x.base.toNat]'(by omega) = y at *
      rw [hy] at h
      simp only at h
      rw [Option.map_eq_some_iff] at h
      obtain ⟨L', hL', rfl⟩ := h
      have hn : 0 < n := by
        cases n with
        | zero => simp [chainN] at hL'
        | succ n => omega
      have hb7 : 7 ≤ x.base.toNat := by
        rcases hN _ y hy with ⟨e, hb⟩ | ⟨e, -⟩
        · have := bare_form hb; omega
        · omega
      obtain ⟨k', rfl⟩ : ∃ k', k = k' + 1 := ⟨k - 1, by omega⟩
      obtain ⟨l, e1, e2, e3, e4⟩ := bases_of hN k' hb7 hy hy9 hL' (by omega)
      refine ⟨a :: l, ?_, by simpa using e2, by rw [← e3]; simp [namesT, tyAt_of hx], fun b hb => ?_⟩
      · rw [bases_more (by rw [tyAt_of hx]; exact hb) (by rw [tyAt_of hx]; exact ⟨hin, hb9⟩), tyAt_of hx, e1]; rfl
      · rcases List.mem_cons.1 hb with rfl | hb
        · exact ⟨h7, x, hx, h9⟩
        · exact e4 b hb
theorem basic_bare {j : Nat} : BareP (basicTy j) j := by simp [BareP, basicTy]
theorem bare_basic {x : Ty} {n : Int} (h : BareP x n) : x = basicTy n := by
  obtain ⟨⟨⟨⟨⟨⟨⟨⟨⟨a, b⟩, c⟩, d⟩, e⟩, f⟩, g⟩, i⟩, j0⟩, k0⟩ := h
  have j : x.fields = [] := List.length_eq_zero_iff.1 (by omega)
  have k : x.params = [] := List.length_eq_zero_iff.1 (by omega)
  clear j0 k0
  cases x
  simp only at a b c d e f g i j k
  subst a b c d e f g i j k
  rfl
theorem r13_forms {t : List Ty} (h2 : ∀ j, j < 7 → t[j]? = basic[j]?) (h3 : ∀ (i : Nat) x, 7 ≤ i → t[i]? = some x → OneP t i x) : ∀ r : Int, 0 ≤ r ∧ r < t.length → 0 ≤ formOf t r ∧ formOf t r ≤ 11 := by
  intro r hr
  have hx : t[r.toNat]? = some (t[r.toNat]'(by omega)) := List.getElem?_eq_getElem _
  rw [formOf_at hr.1 hx]
  by_cases h7 : r.toNat < 7
  · have := h2 _ h7
    rw [hx, basic_at (by omega)] at this
    have e := Option.some.inj this
    rw [e]
    simp only [basicTy]; omega
  · obtain ⟨-, -, -, hk⟩ := h3 _ _ (by omega) hx
    rcases hk with ⟨hf, -⟩ | ⟨hf, -⟩ | ⟨hf, -⟩ | ⟨hf, -⟩ | ⟨hf, -⟩ <;> omega
theorem r13_nodes {t : List Ty} (h2 : ∀ j, j < 7 → t[j]? = basic[j]?) (h3 : ∀ (i : Nat) x, 7 ≤ i → t[i]? = some x → OneP t i x) : NodesP t := by
  have hF := r13_forms h2 h3
  intro j y hj
  by_cases h7 : j < 7
  · have := h2 j h7
    rw [hj, basic_at (by omega)] at this
    cases this
    exact .inl ⟨by omega, basic_bare⟩
  · obtain ⟨a, b, c, d⟩ := h3 j y (by omega) hj
    exact .inr ⟨by omega, kind_of hF hj a c d, named_of a b⟩
theorem edges13_of {t : List Ty} {a : Nat} {x : Ty} (h : t[a]? = some x) : edges13 t a = if x.form = 7 ∨ x.form = 8 then [x.elem] else if x.form = 9 then (if x.base = 0 then [] else [x.base]) ++ x.fields.map (·.type) else [] := by rw [edges13, h]
theorem edges13_none {t : List Ty} {a : Nat} (h : t[a]? = none) : edges13 t a = [] := by rw [edges13, h]
theorem edges_none {t : List Ty} {a : Nat} (h : t[a]? = none) : edges t a = [] := by rw [edges, h]
theorem edges13_sub {t : List Ty} {a : Nat} {e : Int} (h : e ∈ edges13 t a) : e ∈ edges t a := by
  cases hx : t[a]? with
  | none => rw [edges13_none hx] at h; cases h
  | some x =>
    rw [edges13_of hx] at h
    rw [edges_of hx]
    by_cases c : x.form = 7 ∨ x.form = 8
    · rw [if_pos c] at h ⊢; exact h
    · rw [if_neg c] at h ⊢
      by_cases c2 : x.form = 9
      · rw [if_pos c2] at h ⊢
        rcases List.mem_append.1 h with h | h
        · split at h
          · cases h
          · rw [List.mem_singleton] at h; rw [h]; exact List.mem_cons_self ..
        · exact List.mem_cons_of_mem _ h
      · rw [if_neg c2] at h; cases h
theorem edges_sub13 {t : List Ty} {a : Nat} {e : Int} (h : e ∈ edges t a) : e ∈ edges13 t a ∨ e = 0 := by
  cases hx : t[a]? with
  | none => rw [edges_none hx] at h; cases h
  | some x =>
    rw [edges_of hx] at h
    rw [edges13_of hx]
    by_cases c : x.form = 7 ∨ x.form = 8
    · rw [if_pos c] at h ⊢; exact .inl h
    · rw [if_neg c] at h ⊢
      by_cases c2 : x.form = 9
      · rw [if_pos c2] at h ⊢
        rcases List.mem_cons.1 h with h | h
        · by_cases hb : x.base = 0
          · exact .inr (h.trans hb)
          · rw [if_neg hb]; exact .inl (by rw [h]; simp)
        · exact .inl (List.mem_append_right _ h)
      · rw [if_neg c2] at h; cases h
theorem low_edges {t : List Ty} (hN : NodesP t) {a : Nat} (h : a < 7) : edges t a = [] := by
  cases hx : t[a]? with
  | none => unfold edges; rw [hx]
  | some x =>
    rcases hN a x hx with ⟨-, hb⟩ | ⟨e, -⟩
    · have := bare_form hb
      rw [edges_of hx, if_neg (by omega), if_neg (by omega)]
    · omega
theorem r13_valid {t : List Ty} (h7 : 7 ≤ t.length) (hN : NodesP t) : Valid t (edges13 t) := fun a ha e he => hN.valid h7 a ha e (edges13_sub he)
theorem r13_iff (t : List Ty) : R13 t ↔ TGood t := by
  constructor
  · intro ⟨h1, h2, h3, h4, h5⟩
    have hN := r13_nodes h2 h3
    have h0 : Ends (edges t) 0 := .mk fun e he => by rw [low_edges hN (by omega)] at he; cases he
    refine ⟨h1, hN, fun a ha => ?_, filt_nodup.2 fun i j x y hij hx hy px py he => ?_, fun x hx h9 => ?_⟩
    · by_cases h7 : a < 7
      · exact .mk fun e he => by rw [low_edges hN h7] at he; cases he
      · exact Ends.mono (E := edges13 t) (fun b e he => (edges_sub13 he).imp id (fun e0 => by rw [e0]; exact h0)) (h4 a (by omega) ha)
    · have px := of_decide_eq_true px
      have py := of_decide_eq_true py
      obtain ⟨e1, e2⟩ := recK_eq.1 he
      have hi7 : ¬ i < 7 := fun e => by
        rcases hN i x hx with ⟨-, hb⟩ | ⟨e', -⟩
        · have := bare_form hb; omega
        · omega
      exact h5 j (by omega) (List.getElem?_eq_some_iff.1 hy).1 i y x (by omega) hij hy hx ⟨⟨⟨⟨py.1, px.1⟩, e1.symm⟩, e2.symm⟩, by omega⟩
    · obtain ⟨i, hi⟩ := List.mem_iff_getElem?.1 hx
      have hi7 : ¬ i < 7 := fun e => by
        rcases hN i x hi with ⟨-, hb⟩ | ⟨e', -⟩
        · have := bare_form hb; omega
        · omega
      obtain ⟨-, -, -, hk⟩ := h3 i x (by omega) hi
      have hr : RecP t i := by
        rcases hk with ⟨hf, -⟩ | ⟨hf, -⟩ | ⟨hf, -⟩ | ⟨-, hr⟩ | ⟨hf, -⟩ <;> first | omega | exact hr
      obtain ⟨l, e1, e2, -, e4⟩ := hr
      have := chain_of (List.getElem?_eq_some_iff.1 hi).1 e1 5 e2
      rw [tyAt_of hi] at this
      exact ⟨_, this, e4⟩
  · intro ⟨h1, hN, hE, hR, hFl⟩
    have hF : ∀ r : Int, 0 ≤ r ∧ r < t.length → 0 ≤ formOf t r ∧ formOf t r ≤ 11 := by
      intro r hr
      have hx : t[r.toNat]? = some (t[r.toNat]'(by omega)) := List.getElem?_eq_getElem _
      rw [formOf_at hr.1 hx]
      rcases hN _ _ hx with ⟨e, hb⟩ | ⟨-, hk, -⟩
      · have := bare_form hb; omega
      · rcases hk with ⟨hf, -⟩ | ⟨hf, -⟩ | ⟨hf, -⟩ | ⟨hf, -⟩ | ⟨hf, -⟩ <;> omega
    have hz : ∀ {n : Int}, n = 0 → ¬ ¬ n = 0 := fun e e' => e' e
    refine ⟨h1, fun j hj => ?_, fun i x h7 hx => ?_, fun a _ ha => Ends.mono (E := edges t) (fun b e he => .inl (edges13_sub he)) (hE a ha), fun i h7 hi k x y hk hki hx hy hc => ?_⟩
    · have hx : t[j]? = some (t[j]'(by omega)) := List.getElem?_eq_getElem _
      rw [hx, basic_at (by omega)]
      rcases hN _ _ hx with ⟨-, hb⟩ | ⟨e, -⟩
      · rw [bare_basic hb]
      · omega
    · have hf : FormedP t x := by
        rcases hN i x hx with ⟨e, -⟩ | ⟨-, e⟩
        · omega
        · exact e
      obtain ⟨hk, hn⟩ := hf
      have n1 : x.mod = [] ∨ WordP x.mod := hn.elim (fun e => .inl e.1.1) (fun e => .inr e.1)
      have n2 : x.name = [] ∨ WordP x.name := hn.elim (fun e => .inl e.1.2) (fun e => e.2.elim .inr (fun e => .inl e.1))
      have n3 : x.form ≠ 9 → (x.mod = [] ↔ x.name = []) := fun h9 => hn.elim (fun e => ⟨fun _ => e.1.2, fun _ => e.1.1⟩) (fun e => e.2.elim (fun w => ⟨fun q => absurd q (word_ne e.1), fun q => absurd q (word_ne w)⟩) (fun w => absurd w.2 h9))
      have n4 : x.form = 9 → x.mod ≠ [] := fun h9 => hn.elim (fun e => absurd h9 e.2) (fun e => word_ne e.1)
      have hB2 : ¬ Bad2 x := fun e => e.elim (fun e => n1.elim e.1 e.2) (fun e => n2.elim e.1 e.2)
      have mkB1 : (x.form ≠ 9 → x.desc = 0) → (x.form = 9 → -1 ≤ x.desc ∧ x.desc ≤ 63) → ¬ Bad1 x := fun q1 q2 e => by
        rcases e with ⟨e1, e2 | e2⟩ | ⟨e1, (e2 | e2) | e2⟩
        · exact e2 (q1 e1)
        · exact e2 (nil_iff.2 (n3 e1))
        · exact n4 e1 e2
        · have := q2 e1; omega
        · have := q2 e1; omega
      have mkB3 : (x.form ≠ 7 → x.len = 0) → (x.form ≠ 7 → x.form ≠ 8 → x.form ≠ 10 → x.elem = 0) → (x.form ≠ 9 → x.base = 0 ∧ x.fields = []) → (x.form ≠ 11 → x.params = [] ∧ x.res = 0) → ¬ Bad3 x := fun q1 q2 q3 q4 e => by
        rcases e with ((⟨e1, e2⟩ | ⟨⟨⟨e1, e2⟩, e3⟩, e4⟩) | ⟨e1, e2 | e2⟩) | ⟨e1, e2 | e2⟩
        · exact e2 (q1 e1)
        · exact e4 (q2 e1 e2 e3)
        · exact e2 (q3 e1).1
        · rw [(q3 e1).2] at e2; simp at e2
        · rw [(q4 e1).1] at e2; simp at e2
        · exact e2 (q4 e1).2
      rcases hk with ⟨hf, k, b1, b2, b3, b4, b5⟩ | ⟨hf, k, b0, b1, b2, b3, b4, b5⟩ | ⟨hf, ⟨k1, k2, k3, k4, k5⟩, b1, b2, b3, b4⟩ | ⟨hf, k, b0, b1, b2, b3, b4, b5⟩ | ⟨hf, ⟨k1, k2, k3⟩, b1, b2, b3, b4, b5⟩
      · exact ⟨mkB1 (fun _ => b3) (fun e => by omega), hB2, mkB3 (fun e => absurd hf e) (fun e => absurd hf e) (fun _ => ⟨b1, b4⟩) (fun _ => ⟨b5, b2⟩), .inl ⟨hf, ⟨k.1, k.2.1⟩, (holds_part hF).2 k.2.2⟩⟩
      · exact ⟨mkB1 (fun _ => b3) (fun e => by omega), hB2, mkB3 (fun _ => b0) (fun _ e => absurd hf e) (fun _ => ⟨b1, b4⟩) (fun _ => ⟨b5, b2⟩), .inr (.inl ⟨hf, k.imp (holds_part hF).2 (fun e => ⟨formOf_in (by omega), e⟩)⟩)⟩
      · refine ⟨mkB1 (fun e => absurd hf e) (fun _ => ⟨k3, by omega⟩), hB2, mkB3 (fun _ => b1) (fun _ _ _ => b2) (fun e => absurd hf e) (fun _ => ⟨b4, b3⟩), .inr (.inr (.inr (.inl ⟨hf, ?_⟩)))⟩
        obtain ⟨L, hL, hnd⟩ := hFl x (List.mem_of_getElem? hx) hf
        obtain ⟨l, e1, e2, e3, e4⟩ := bases_of hN 5 h7 hx hf hL (by omega)
        refine ⟨l, e1, e2, fun b hb => ?_, by rw [e3]; exact hnd⟩
        obtain ⟨hb7, y, hy, hy9⟩ := e4 b hb
        rw [tyAt_of hy]
        have hky : KindP t y := by
          rcases hN b y hy with ⟨e, -⟩ | ⟨-, e, -⟩
          · omega
          · exact e
        rcases hky with ⟨h, -⟩ | ⟨h, -⟩ | ⟨h, ⟨-, q2, -, -, q5⟩, -⟩ | ⟨h, -⟩ | ⟨h, -⟩
        · omega
        · omega
        · exact ⟨q2, fun f hf => ⟨(q5 f hf).1, (holds_part hF).2 (q5 f hf).2⟩⟩
        · omega
        · omega
      · exact ⟨mkB1 (fun _ => b3) (fun e => by omega), hB2, mkB3 (fun _ => b0) (fun _ _ e => absurd hf e) (fun _ => ⟨b1, b4⟩) (fun _ => ⟨b5, b2⟩), .inr (.inr (.inl ⟨hf, formOf_in (by omega), k⟩))⟩
      · refine ⟨mkB1 (fun _ => b4) (fun e => by omega), hB2, mkB3 (fun _ => b1) (fun _ _ _ => b2) (fun _ => ⟨b3, b5⟩) (fun e => absurd hf e), .inr (.inr (.inr (.inr ⟨hf, by omega, fun p hp => (k3 p hp).imp (holds_part hF).2 (fun e => ⟨formOf_in (by omega), e⟩), k2.imp id (fun e => ?_)⟩)))⟩
        have e1 : PartF (formOf t x.res) := by unfold PlainF at e; unfold PartF; omega
        exact ⟨⟨(holds_part hF).2 e1, by unfold PlainF at e; omega⟩, by unfold PlainF at e; omega⟩
    · obtain ⟨⟨⟨⟨c1, c2⟩, c3⟩, c4⟩, c5⟩ := hc
      have hd : ∀ {b : Nat} {z : Ty}, 7 ≤ b → t[b]? = some z → z.form = 9 → -1 ≤ z.desc := fun hb hz h9 => by
        rcases hN _ _ hz with ⟨e, -⟩ | ⟨-, hk, -⟩
        · omega
        · rcases hk with ⟨h, -⟩ | ⟨h, -⟩ | ⟨h, k, -⟩ | ⟨h, -⟩ | ⟨h, -⟩ <;> omega
      have d1 := hd h7 hx c1
      have d2 := hd hk hy c2
      exact filt_ne hR (by omega) hx hy (decide_eq_true ⟨c1, by omega⟩) (decide_eq_true ⟨c2, by omega⟩) (recK_eq.2 ⟨c3, c4⟩)
end
end Go.Proofs.YtgnkfegkdjfnjaaGreat
