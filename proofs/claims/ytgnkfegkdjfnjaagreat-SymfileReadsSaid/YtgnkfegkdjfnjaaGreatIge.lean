/- The walk of iface's object. The walks of what finds an object, and of what tells objects alike. The walk of iface's framed. The walks of iface's Good, and of the records' numbers. No condition but what each theorem says. -/
import Derived.Test.YtgnkfegkdjfnjaaGreatIgd
namespace Go.Proofs.YtgnkfegkdjfnjaaGreat
/-! The walk of iface's object. No condition but what each theorem says. -/
section
open Go Go.Eng

theorem row_part {h : Heap} {b o : Nat} {cs : Array Value} {E : TypeId} {fr : Nat × Nat} {l : List Value} (hb : h[b]? = some (.cells cs E fr)) (he : ∀ j v, l[j]? = some v → cs[o + j]? = some v) : Go.Eng.rowAt h b o l := fun j v hv => cell hb (he j v hv)
theorem val_part (o : Ob) : ∀ (j : Nat) v, [i64 o.val.form, i64 o.val.n, str o.val.text][j]? = some v → #[i64 o.cls, str o.name, i64 o.type, i64 o.val.form, i64 o.val.n, str o.val.text, i64 o.n][3 + j]? = some v := by
  intro j v hv
  match j, hv with
  | 0, hv => exact hv
  | 1, hv => exact hv
  | 2, hv => exact hv
  | j + 3, hv => simp at hv

set_option maxHeartbeats 2000000 in
theorem obj_fn {N : Nat} {h0 h : Heap} {fv : Value} {f : Face} {o : Ob} (hF : FaceV N h0 fv f) (k0 : At N h0 h) (ho : o.val.text.length ≤ maxLen) :
    Does Tryz.prog 74 [fv, objV o] h (fun v h' => v = .bool (tb (ObjP f.types o)) ∧ Ext h h') := by
  obtain ⟨vu, vt, vo, rfl, hn, hk, hU, hT, hO⟩ := hF
  have hT0 := hT
  obtain ⟨at0, ct0, rfl⟩ := SliceAt.form hT
  have htl := hT.1
  have hmx : maxLen = 9223372036854775807 := by decide
  refine fn_enter (N := 125) Tryz.func74 (by kernel_rfl) rfl rfl rfl (fun w0 => ?_)
  refine c_seq ?_; refine c_reg ?_; refine bx rfl nofun rfl (fun h1 n1 => ?_)
  have s1 : h1.size = h.size + 1 := n1.size
  have k_1 := k0.ext n1.ext
  have b2_1 := n1.at_
  refine bx rfl nofun rfl (fun h2 n2 => ?_)
  have s2 : h2.size = h1.size + 1 := n2.size
  have k_2 := k_1.ext n2.ext
  have b2_2 := n2.ext.get b2_1
  have b3_2 := n2.at_
  refine asg rfl rfl ?_; refine o_nil ?_; refine x_seq ?_
  refine c_seq ?_; refine c_seq ?_; refine c_reg ?_; refine fa rfl rfl (ld rfl (cell b3_2 rfl) rfl (clE (named_fn _ _) rfl rfl (fun h3 x3 => ?_)))
  have s3 : h2.size ≤ h3.size := x3.size
  have k_3 := k_2.ext x3
  have b2_3 := x3.get b2_2
  have b3_3 := x3.get b3_2
  refine nt rfl rfl (mv rfl rfl (gqf rfl rfl rfl (fun e => fa rfl rfl) (gqf rfl rfl rfl (fun e => ld (cg rfl e) (cell b3_3 rfl) rfl) (gqf rfl rfl rfl (fun e => lti (cg rfl e) rfl rfl) ?_))))
  refine pko rfl rfl rfl rfl (mv rfl rfl (gqf rfl rfl rfl (fun e => fa rfl rfl) (gqf rfl rfl rfl (fun e => ld (cg rfl e) (cell b3_3 rfl) rfl) (gqf rfl rfl rfl (fun e => fa rfl rfl) ?_))))
  refine gqf rfl rfl rfl (fun e => ld (cg rfl e) (cell b2_3 rfl) rfl) (gqf rfl rfl rfl (fun e => lnl (cg rfl e) rfl) (gqf rfl rfl rfl (fun e => gei (cg rfl e) (cg rfl e) rfl) ?_))
  refine pko rfl rfl rfl rfl (mv rfl rfl (gqf rfl rfl rfl (fun e => fa rfl rfl) (gqf rfl rfl rfl (fun e => ld (cg rfl e) (cell b3_3 rfl) rfl) (gqf rfl rfl rfl (fun e => nei (cg rfl e) rfl rfl) ?_))))
  refine gqf rfl rfl rfl (fun e => mv (cg rfl e) rfl) (gqt2 rfl rfl rfl (fun e => fa rfl rfl) (gqt2 rfl rfl rfl (fun e => ldn (cg rfl e) rfl (row_part b3_3 (val_part o)) rfl) ?_))
  refine gqt2 rfl rfl rfl (fun e => bld (vs := []) (v := valV ⟨0, 0, []⟩) rfl (fun _ => by kernel_rfl) rfl) (gqt2 rfl rfl rfl (fun e => nest (cg rfl e) (cg rfl e) (fun w => val_eq o.val ⟨0, 0, []⟩ w) rfl) ?_)
  refine gqf rfl rfl rfl (fun e => pka (cg rfl e) (cg2 rfl e) rfl rfl) (pko rfl rfl rfl rfl ?_)
  refine o_nil ?_; refine x_seq ?_; refine c_cond rfl (fun c4 => ?_) (fun c4 => ?_)
  · refine c_seq ?_; refine c_reg ?_; refine asg rfl rfl ?_; refine o_nil ?_; refine x_seq ?_; refine c_ret ?_; refine x_seq_ret ?_
    refine ret1 (.inr rfl) rfl rfl ?_
    refine ⟨congrArg Value.bool (tb_f (fun hs => ?_)).symm, (n1.ext.trans n2.ext).trans x3⟩
    obtain ⟨h1, h2, h3, -⟩ := hs
    rcases c4 with ((c | c) | c) | ⟨c, d⟩
    · exact c h1
    · omega
    · omega
    · exact d (h3.resolve_left c)
  · have e1 : WordP o.name := Classical.byContradiction fun e => c4 (.inl (.inl (.inl e)))
    have e2 : 0 ≤ o.type := Int.not_lt.1 fun e => c4 (.inl (.inl (.inr e)))
    have e3 : o.type < f.types.length := Int.not_le.1 fun e => c4 (.inl (.inr e))
    have e4 : o.cls = 1 ∨ (o.val.form = 0 ∧ o.val.n = 0 ∧ o.val.text = []) := (Classical.em _).imp id (fun e => Classical.byContradiction fun e' => c4 (.inr ⟨e, e'⟩))
    have hiff : ObjP f.types o ↔ ClsP f.types o := ⟨fun e => e.2.2.2, fun e => ⟨e1, ⟨e2, e3⟩, e4, e⟩⟩
    have hx : f.types[o.type.toNat]? = some (f.types[o.type.toNat]'(by omega)) := List.getElem?_eq_getElem _
    have hfm : formAt f.types o.type = (f.types[o.type.toNat]'(by omega)).form := by rw [formAt, hx]; rfl
    generalize f.types[o.type.toNat]'(by omega) = x at *
    obtain ⟨b', o', cs, ha, hb', hl', hr, hR⟩ := SliceAt.el hT0 k_3 hx
    subst ha
    obtain ⟨hfit, vf, vp, rfl, -, -⟩ := hR
    have hE : Ext h h3 := (n1.ext.trans n2.ext).trans x3
    refine c_skip ?_; refine x_seq ?_; refine c_seq ?_; refine c_reg ?_
    refine fa rfl rfl (ld rfl (cell b2_3 rfl) rfl (fa rfl rfl (ld rfl (cell b3_3 rfl) rfl (ixs rfl rfl (by omega) rfl (fa rfl rfl (ld rfl (hr 0 _ rfl) rfl (asg rfl rfl ?_)))))))
    refine o_nil ?_; refine x_seq ?_
    refine c_seq ?_; refine c_seq ?_; refine c_reg ?_; refine fa rfl rfl (ld rfl (cell b3_3 rfl) rfl ?_)
    refine o_nil ?_; refine x_seq ?_; refine c_blk ?_; refine c_seq ?_; refine c_reg ?_; refine eqi rfl rfl rfl (asg rfl rfl ?_)
    refine o_nil ?_; refine x_seq ?_; refine c_cond rfl (fun c5 => ?_) (fun c5 => ?_)
    · refine c_seq ?_; refine c_reg ?_
      refine fa rfl rfl (ldn rfl rfl (row_part b3_3 (val_part o)) rfl (clE ((const_fn o.val ho _)) rfl rfl (fun h6 x6 => ?_)))
      have s6 : h3.size ≤ h6.size := x6.size
      have k_6 := k_3.ext x6
      have b2_6 := x6.get b2_3
      have b3_6 := x6.get b3_3
      refine mv rfl rfl (gqt rfl rfl rfl (fun e => fa rfl rfl) (gqt rfl rfl rfl (fun e => ld (cg rfl e) (cell b3_6 rfl) rfl) (gqt rfl rfl rfl (fun e => fa rfl rfl) (gqt rfl rfl rfl (fun e => fa (cg rfl e) rfl) ?_))))
      refine gqt rfl rfl rfl (fun e => ld (cg rfl e) (cell b3_6 rfl) rfl) (gqt rfl rfl rfl (fun e => eqi (cg rfl e) (cg rfl e) rfl) (pka rfl rfl rfl rfl (mv rfl rfl ?_)))
      refine gqt rfl rfl rfl (fun e => fa rfl rfl) (gqt rfl rfl rfl (fun e => ld (cg rfl e) (cell b3_6 rfl) rfl) (gqt rfl rfl rfl (fun e => eqi (cg rfl e) rfl rfl) (pka rfl rfl rfl rfl ?_)))
      refine asg rfl rfl ?_; refine o_nil ?_; refine x_seq ?_; refine c_ret ?_; refine x_blk_ret ?_; refine x_seq_ret ?_
      refine ret1 (.inr rfl) rfl rfl ?_
      refine ⟨vtb (Iff.trans ?_ hiff.symm), hE.trans x6⟩
      simp [ClsP, c5, and_assoc]
    · refine c_seq ?_; refine c_reg ?_; refine eqi rfl rfl rfl (asg rfl rfl ?_)
      refine o_nil ?_; refine x_seq ?_; refine c_cond rfl (fun c7 => ?_) (fun c7 => ?_)
      · refine c_seq ?_; refine c_reg ?_
        refine fa rfl rfl (ld rfl (cell b3_3 rfl) rfl (eqi rfl rfl rfl (mv rfl rfl (gqt rfl rfl rfl (fun e => mv rfl rfl) (gqt rfl rfl rfl (fun e => nei (cg rfl e) rfl rfl) ?_)))))
        refine pka rfl rfl rfl rfl (mv rfl rfl (gqt rfl rfl rfl (fun e => fa rfl rfl) (gqt rfl rfl rfl (fun e => ld (cg rfl e) (cell b3_3 rfl) rfl) (gqt rfl rfl rfl (fun e => lei rfl (cg rfl e) rfl) ?_))))
        refine gqt rfl rfl rfl (fun e => mv (cg rfl e) rfl) (gqt2 rfl rfl rfl (fun e => fa rfl rfl) (gqt2 rfl rfl rfl (fun e => ld (cg rfl e) (cell b3_3 rfl) rfl) (gqt2 rfl rfl rfl (fun e => lei (cg rfl e) rfl rfl) ?_)))
        refine gqt rfl rfl rfl (fun e => pka (cg rfl e) (cg2 rfl e) rfl rfl) (gqt rfl rfl rfl (fun e => mv (cg rfl e) rfl) (gqf2 rfl rfl rfl (fun e => fa rfl rfl) (gqf2 rfl rfl rfl (fun e => ld (cg rfl e) (cell b3_3 rfl) rfl) ?_)))
        refine gqf2 rfl rfl rfl (fun e => gti (cg rfl e) rfl rfl) (gqt rfl rfl rfl (fun e => pko (cg rfl e) rfl (cg2 rfl e) rfl) (pka rfl rfl rfl rfl (asg rfl rfl ?_)))
        refine o_nil ?_; refine x_seq ?_; refine c_ret ?_; refine x_blk_ret ?_; refine x_seq_ret ?_; refine ret1 (.inr rfl) rfl rfl ?_
        refine ⟨vtb (Iff.trans ?_ hiff.symm), hE⟩
        simp only [ClsP, c7, hfm, Int.reduceEq, false_and, or_false, false_or, true_and, ne_eq]
        omega
      · refine c_seq ?_; refine c_reg ?_; refine eqi rfl rfl rfl (asg rfl rfl ?_)
        refine o_nil ?_; refine x_seq ?_; refine c_cond rfl (fun c8 => ?_) (fun c8 => ?_)
        · refine c_seq ?_; refine c_reg ?_
          refine mv rfl rfl (nei rfl rfl rfl (mv rfl rfl (gqt rfl rfl rfl (fun e => mv rfl rfl) (gqt rfl rfl rfl (fun e => nei (cg rfl e) rfl rfl) (pka rfl rfl rfl rfl (mv rfl rfl ?_))))))
          refine gqt rfl rfl rfl (fun e => mv rfl rfl) (gqt rfl rfl rfl (fun e => nei (cg rfl e) rfl rfl) (pka rfl rfl rfl rfl (mv rfl rfl (gqt rfl rfl rfl (fun e => mv rfl rfl) ?_))))
          refine gqt rfl rfl rfl (fun e => nei (cg rfl e) rfl rfl) (pka rfl rfl rfl rfl (mv rfl rfl (gqt rfl rfl rfl (fun e => fa rfl rfl) (gqt rfl rfl rfl (fun e => ld (cg rfl e) (cell b3_3 rfl) rfl) ?_))))
          refine gqt rfl rfl rfl (fun e => lei rfl (cg rfl e) rfl) (pka rfl rfl rfl rfl (mv rfl rfl (gqt rfl rfl rfl (fun e => fa rfl rfl) (gqt rfl rfl rfl (fun e => ld (cg rfl e) (cell b3_3 rfl) rfl) ?_))))
          refine gqt rfl rfl rfl (fun e => lti (cg rfl e) rfl rfl) (pka rfl rfl rfl rfl (asg rfl rfl ?_))
          refine o_nil ?_; refine x_seq ?_; refine c_ret ?_; refine x_blk_ret ?_; refine x_seq_ret ?_; refine ret1 (.inr rfl) rfl rfl ?_
          refine ⟨vtb (Iff.trans ?_ hiff.symm), hE⟩
          simp only [ClsP, c8, hfm, Int.reduceEq, false_and, or_false, false_or, true_and, ne_eq]
          omega
        · refine c_seq ?_; refine c_reg ?_; refine eqi rfl rfl rfl (asg rfl rfl ?_)
          refine o_nil ?_; refine x_seq ?_; refine c_cond rfl (fun c9 => ?_) (fun c9 => ?_)
          · refine c_seq ?_; refine c_reg ?_
            refine mv rfl rfl (eqi rfl rfl rfl (mv rfl rfl (gqt rfl rfl rfl (fun e => fa rfl rfl) (gqt rfl rfl rfl (fun e => ld (cg rfl e) (cell b3_3 rfl) rfl) (gqt rfl rfl rfl (fun e => lei rfl (cg rfl e) rfl) ?_)))))
            refine pka rfl rfl rfl rfl (mv rfl rfl (gqt rfl rfl rfl (fun e => fa rfl rfl) (gqt rfl rfl rfl (fun e => ld (cg rfl e) (cell b3_3 rfl) rfl) (gqt rfl rfl rfl (fun e => lti (cg rfl e) rfl rfl) ?_))))
            refine pka rfl rfl rfl rfl (asg rfl rfl ?_)
            refine o_nil ?_; refine x_seq ?_; refine c_ret ?_; refine x_blk_ret ?_; refine x_seq_ret ?_; refine ret1 (.inr rfl) rfl rfl ?_
            refine ⟨vtb (Iff.trans ?_ hiff.symm), hE⟩
            simp only [ClsP, c9, hfm, Int.reduceEq, false_and, false_or, true_and, ne_eq]
            omega
          · refine c_skip ?_; refine x_blk ?_; refine x_seq ?_; refine c_seq ?_; refine c_reg ?_; refine asg rfl rfl ?_; refine o_nil ?_
            refine x_seq ?_; refine c_ret ?_; refine ret1 (.inr rfl) rfl rfl ?_
            refine ⟨congrArg Value.bool (tb_f (fun hs => ?_)).symm, hE⟩
            rcases (hiff.1 hs) with c | c | c | c
            · exact c5 c.1
            · exact c7 c.1
            · exact c8 c.1
            · exact c9 c.1
end

/-! The walks of what finds an object, and of what tells objects alike. No condition but what each theorem says. -/
section
open Go Go.Eng

def zeroOb : Ob := ⟨0, [], 0, ⟨0, 0, []⟩, 0⟩
def findO (l : List Ob) (name : Bytes) : Option Ob := l.find? (fun o => decide (o.name = name))
theorem find_hit {l : List Ob} {name : Bytes} {i : Nat} {o : Ob} (ho : l[i]? = some o) (hn : o.name = name) (hup : upTo l (fun o => ¬ o.name = name) i) : findO l name = some o := by
  have hs := split_at ho
  rw [hs, findO, List.find?_append]
  have : (l.take i).find? (fun o => decide (o.name = name)) = none := by
    rw [List.find?_eq_none]
    intro x hx
    obtain ⟨j, hj⟩ := List.mem_iff_getElem?.1 hx
    have hjl := (List.getElem?_eq_some_iff.1 hj).1
    rw [List.length_take] at hjl
    rw [List.getElem?_take, if_pos (by omega)] at hj
    simpa using hup j x (by omega) hj
  rw [this, List.find?_cons_of_pos (by simpa using hn)]; rfl
theorem find_miss {l : List Ob} {name : Bytes} (hup : upTo l (fun o => ¬ o.name = name) l.length) : findO l name = none := by
  rw [findO, List.find?_eq_none]
  intro x hx
  simpa using upTo_all.1 hup x hx
def FindR (l : List Ob) (name : Bytes) : Value := .tuple #[objV ((findO l name).getD zeroOb), .bool (findO l name).isSome]

theorem val12_fn (x y : Val) (h : Heap) : Does Tryz.prog 59 [valV x, valV y] h (fun v h' => v = .bool (tb (x = y)) ∧ Ext h h') := by
  refine fn_enter (N := 24) Tryz.func59 (by kernel_rfl) rfl rfl rfl (fun w0 => ?_)
  refine c_seq ?_; refine c_reg ?_; refine bx rfl nofun rfl (fun h1 n1 => ?_)
  have s1 : h1.size = h.size + 1 := n1.size
  have b2_1 := n1.at_
  refine bx rfl nofun rfl (fun h2 n2 => ?_)
  have s2 : h2.size = h1.size + 1 := n2.size
  have b2_2 := n2.ext.get b2_1
  have b3_2 := n2.at_
  refine asg rfl rfl ?_; refine o_nil ?_; refine x_seq ?_; refine c_seq ?_; refine c_reg ?_
  refine fa rfl rfl (ld rfl (cell b2_2 rfl) rfl (fa rfl rfl (ld rfl (cell b3_2 rfl) rfl (eqi rfl rfl rfl (mv rfl rfl (gqt rfl rfl rfl (fun e => fa rfl rfl) (gqt rfl rfl rfl (fun e => ld (cg rfl e) (cell b2_2 rfl) rfl) ?_)))))))
  refine gqt rfl rfl rfl (fun e => fa rfl rfl) (gqt rfl rfl rfl (fun e => ld (cg rfl e) (cell b3_2 rfl) rfl) (gqt rfl rfl rfl (fun e => eqi (cg rfl e) (cg rfl e) rfl) ?_))
  refine pka rfl rfl rfl rfl (mv rfl rfl (gqt rfl rfl rfl (fun e => fa rfl rfl) (gqt rfl rfl rfl (fun e => ld (cg rfl e) (cell b2_2 rfl) rfl) (gqt rfl rfl rfl (fun e => fa rfl rfl) ?_))))
  refine gqt rfl rfl rfl (fun e => ld (cg rfl e) (cell b3_2 rfl) rfl) (gqt rfl rfl rfl (fun e => eqs (cg rfl e) (cg rfl e) rfl) (pka rfl rfl rfl rfl (asg rfl rfl ?_)))
  refine o_nil ?_; refine x_seq ?_; refine c_ret ?_; refine ret1 (.inr rfl) rfl rfl ?_
  refine ⟨vtb ?_, n1.ext.trans n2.ext⟩
  cases x; cases y; simp [and_assoc]
theorem valV_eq (x : Val) : Value.agg #[i64 x.form, i64 x.n, str x.text] = valV x := rfl
theorem sameO_fn (x y : Ob) (h : Heap) : Does Tryz.prog 33 [objV x, objV y] h (fun v h' => v = .bool (tb (x = y)) ∧ Ext h h') := by
  refine fn_enter (N := 38) Tryz.func33 (by kernel_rfl) rfl rfl rfl (fun w0 => ?_)
  refine c_seq ?_; refine c_reg ?_; refine bx rfl nofun rfl (fun h1 n1 => ?_)
  have s1 : h1.size = h.size + 1 := n1.size
  have b2_1 := n1.at_
  refine bx rfl nofun rfl (fun h2 n2 => ?_)
  have s2 : h2.size = h1.size + 1 := n2.size
  have b2_2 := n2.ext.get b2_1
  have b3_2 := n2.at_
  refine asg rfl rfl ?_; refine o_nil ?_; refine x_seq ?_; refine c_seq ?_; refine c_reg ?_
  refine fa rfl rfl (ld rfl (cell b2_2 rfl) rfl (fa rfl rfl (ld rfl (cell b3_2 rfl) rfl (eqi rfl rfl rfl (mv rfl rfl (gqt rfl rfl rfl (fun e => fa rfl rfl) (gqt rfl rfl rfl (fun e => ld (cg rfl e) (cell b2_2 rfl) rfl) ?_)))))))
  refine gqt rfl rfl rfl (fun e => fa rfl rfl) (gqt rfl rfl rfl (fun e => ld (cg rfl e) (cell b3_2 rfl) rfl) (gqt rfl rfl rfl (fun e => eqs (cg rfl e) (cg rfl e) rfl) ?_))
  refine pka rfl rfl rfl rfl (mv rfl rfl (gqt rfl rfl rfl (fun e => fa rfl rfl) (gqt rfl rfl rfl (fun e => ld (cg rfl e) (cell b2_2 rfl) rfl) (gqt rfl rfl rfl (fun e => fa rfl rfl) ?_))))
  refine gqt rfl rfl rfl (fun e => ld (cg rfl e) (cell b3_2 rfl) rfl) (gqt rfl rfl rfl (fun e => eqi (cg rfl e) (cg rfl e) rfl) (pka rfl rfl rfl rfl (mv rfl rfl ?_)))
  refine gqt rfl rfl rfl (fun e => fa rfl rfl) (gqt rfl rfl rfl (fun e => ld (cg rfl e) (cell b2_2 rfl) rfl) (gqt rfl rfl rfl (fun e => fa rfl rfl) (gqt rfl rfl rfl (fun e => ld (cg rfl e) (cell b3_2 rfl) rfl) ?_)))
  refine gqt rfl rfl rfl (fun e => eqi (cg rfl e) (cg rfl e) rfl) (pka rfl rfl rfl rfl (mv rfl rfl (gqt rfl rfl rfl (fun e => fa rfl rfl) (gqt rfl rfl rfl (fun e => ldn (cg rfl e) rfl (row_part b2_2 (val_part x)) rfl) ?_))))
  refine gqt rfl rfl rfl (fun e => fa rfl rfl) (gqt rfl rfl rfl (fun e => ldn (cg rfl e) rfl (row_part b3_2 (val_part y)) rfl) (getr rfl rfl rfl (fun e kk => clE ((val12_fn x.val y.val _)) (a2 (cg rfl e) (cg rfl e)) rfl kk) (fun h3 x3 => ?_)))
  have s3 : h2.size ≤ h3.size := x3.size
  have b2_3 := x3.get b2_2
  have b3_3 := x3.get b3_2
  refine pka rfl rfl rfl rfl (asg rfl rfl ?_)
  refine o_nil ?_; refine x_seq ?_; refine c_ret ?_; refine ret1 (.inr rfl) rfl rfl ?_
  refine ⟨vtb ?_, (n1.ext.trans n2.ext).trans x3⟩
  obtain ⟨x1, x2, x3, ⟨x4, x5, x6⟩, x7⟩ := x
  obtain ⟨y1, y2, y3, ⟨y4, y5, y6⟩, y7⟩ := y
  simp only [Ob.mk.injEq, Val.mk.injEq]
  constructor
  · exact fun ⟨⟨⟨⟨a, b⟩, c⟩, d⟩, e⟩ => ⟨a, b, c, e, d⟩
  · exact fun ⟨a, b, c, e, d⟩ => ⟨⟨⟨⟨a, b⟩, c⟩, d⟩, e⟩
def usedP (f : Face) (m : Bytes) : Prop := m ∈ f.uses.map (·.name) ∨ f.name = m
theorem used_fn {h : Heap} {fv : Value} {f : Face} (hF : FaceV h.size h fv f) (name : Bytes) :
    Does Tryz.prog 81 [fv, str name] h (fun v h' => v = .bool (tb (usedP f name)) ∧ Ext h h') := by
  obtain ⟨vu, vt, vo, rfl, hn, hk, hU, hT, hO⟩ := hF
  have hU0 := hU
  obtain ⟨ao, co, rfl⟩ := hU.form
  have hol := hU.1
  have hmx : maxLen = 9223372036854775807 := by decide
  have k0 : At h.size h h := At.refl (Nat.le_refl _)
  refine fn_enter (N := 25) Tryz.func81 (by kernel_rfl) rfl rfl rfl (fun w0 => ?_)
  refine c_seq ?_; refine c_reg ?_; refine bx rfl nofun rfl (fun h1 n1 => ?_)
  have s1 : h1.size = h.size + 1 := n1.size
  have k_1 := k0.ext n1.ext
  have b2_1 := n1.at_
  refine asg rfl rfl ?_; refine o_nil ?_; refine x_seq ?_
  refine c_seq ?_; refine c_seq ?_; refine c_reg ?_; refine asg rfl rfl ?_; refine o_nil ?_; refine x_seq ?_; refine c_blk ?_
  refine c_loop (α := Nat) (fun s => [(1, str name), (2, ptr h.size 0), (5, i64 (s : Nat))]) (fun s => h1)
    (fun s => s ≤ f.uses.length ∧ upTo f.uses (fun o => ¬ o.name = name) s) (fun s => f.uses.length - s) 0 ⟨Nat.zero_le _, upTo_zero _ _⟩ ⟨rfl, rfl, rfl, trivial⟩ rfl (fun i hs => ?_)
  obtain ⟨hil, hup⟩ := hs
  refine c_seq ?_; refine c_seq ?_; refine c_reg ?_; refine mv rfl rfl (fa rfl rfl (ld rfl (cell b2_1 rfl) rfl (lnl rfl rfl (lti rfl rfl rfl ?_))))
  refine o_nil ?_; refine x_seq ?_; refine c_cond rfl (fun c2 => ?_) (fun c2 => ?_)
  · have hlt : i < f.uses.length := by have := c2; omega
    have hxi : f.uses[i]? = some f.uses[i] := List.getElem?_eq_getElem hlt
    obtain ⟨b2, o2, cs2, ha2, hb2, hl2, hr2, hR2⟩ := SliceAt.el hU0 k_1 hxi
    generalize f.uses[i] = o at *
    subst ha2
    obtain ⟨rfl, hq⟩ := hR2
    refine c_skip ?_; refine x_seq ?_
    refine c_seq ?_; refine c_blk ?_; refine c_seq ?_; refine c_reg ?_
    refine fa rfl rfl (ld rfl (cell b2_1 rfl) rfl (mv rfl rfl (ixs rfl rfl (by omega) rfl (fa rfl rfl (ld rfl (hr2 0 _ rfl) rfl (mv rfl rfl (eqs rfl rfl rfl ?_)))))))
    refine o_nil ?_; refine x_seq ?_; refine c_cond rfl (fun c3 => ?_) (fun c3 => ?_)
    · refine c_seq ?_; refine c_reg ?_; refine asg rfl rfl ?_; refine o_nil ?_; refine x_seq ?_; refine c_ret ?_; refine x_blk_ret ?_
      refine x_seq_ret ?_; refine x_loop_ret ?_; refine x_blk_ret ?_; refine x_seq_ret ?_; refine ret1 (.inr rfl) rfl rfl ?_
      exact ⟨congrArg Value.bool (tb_t (.inl (List.mem_map.2 ⟨o, List.mem_of_getElem? hxi, c3⟩))).symm, k_1.toExt⟩
    · refine c_skip ?_; refine x_blk ?_; refine x_seq ?_; refine c_reg ?_; refine mv rfl rfl (add rfl rfl (by omega) rfl (asg rfl rfl ?_))
      refine o_nil ?_
      exact x_loop (i + 1) ⟨hlt, (upTo_succ hxi).2 ⟨hup, c3⟩⟩ (by omega) ⟨rfl, rfl, rfl, trivial⟩ rfl
  · have hi : i = f.uses.length := by have := c2; omega
    subst hi
    refine c_exit ?_; refine x_seq_exit ?_; refine x_loop_exit ?_; refine x_blk_hit ?_; refine x_seq ?_; refine c_seq ?_; refine c_reg ?_
    refine fa rfl rfl (ld rfl (cell b2_1 rfl) rfl (mv rfl rfl (eqs rfl rfl rfl (asg rfl rfl ?_))))
    refine o_nil ?_; refine x_seq ?_; refine c_ret ?_; refine ret1 (.inr rfl) rfl rfl ?_
    refine ⟨vtb ⟨fun e => .inr e, fun e => e.resolve_left fun e => ?_⟩, k_1.toExt⟩
    obtain ⟨u, hu, e⟩ := List.mem_map.1 e
    exact upTo_all.1 hup u hu e
end

/-! The walk of iface's framed. No condition but what each theorem says. -/
section
open Go Go.Eng

def modK (m : Bytes) : Value := .agg #[str m, str []]
def nameK (m : Bytes) : Value := .agg #[str [], str m]
theorem modK_inj {a b : Bytes} (h : modK a = modK b) : a = b := by
  unfold modK at h
  injection h with h
  have h := congrArg Array.toList h
  simp only [List.cons.injEq, and_true] at h
  exact str_inj h
theorem nameK_inj {a b : Bytes} (h : nameK a = nameK b) : a = b := by
  unfold nameK at h
  injection h with h
  have h := congrArg Array.toList h
  simp only [List.cons.injEq, and_true, true_and] at h
  exact str_inj h
theorem key_mem {g : Bytes → Value} (hg : ∀ a b, g a = g b → a = b) {s : Bytes} {l : List Bytes} : g s ∈ l.map g ↔ s ∈ l := by
  rw [List.mem_map]
  exact ⟨fun ⟨a, ha, e⟩ => hg _ _ e ▸ ha, fun h => ⟨s, h, rfl⟩⟩
theorem nodup_snoc {α : Type} {l : List α} {a : α} (h : l.Nodup) (ha : ¬ a ∈ l) : (l ++ [a]).Nodup := by
  rw [List.nodup_append]
  exact ⟨h, by simp, fun x hx y hy e => by rw [List.mem_singleton] at hy; subst hy; subst e; exact ha hx⟩
theorem nodup_out {α : Type} {l r : List α} {a : α} (h : (l ++ [a] ++ r).Nodup) : ¬ a ∈ l := by
  rw [List.nodup_append, List.nodup_append] at h
  exact fun e => h.1.2.2 a e a (by simp) rfl
theorem take_map {α β : Type} {l : List α} {i : Nat} {x : α} (g : α → β) (h : l[i]? = some x) : (l.take (i + 1)).map g = (l.take i).map g ++ [g x] := by rw [List.take_add_one, h]; simp
theorem split_map {α β : Type} {l : List α} {i : Nat} {x : α} (g : α → β) (h : l[i]? = some x) : l.map g = (l.take i).map g ++ [g x] ++ (l.drop (i + 1)).map g := by
  rw [← take_map g h, ← List.map_append, List.take_append_drop]
theorem tkeys_take {t : List Ty} {i : Nat} {x : Ty} (hx : t[i]? = some x) : tkeys (t.take (i + 1)) = tkeys (t.take i) ++ (if x.name = [] then [] else [tkey x]) := by
  unfold tkeys
  rw [List.take_add_one, hx, List.filter_append, List.map_append]
  congr 1
  simp only [Option.toList]
  by_cases h : x.name = []
  · rw [if_pos h, List.filter_cons_of_neg (by simpa [isNamed] using h)]; rfl
  · rw [if_neg h, List.filter_cons_of_pos (by simpa [isNamed] using h)]; rfl
theorem tkeys_split (t : List Ty) (i : Nat) : tkeys t = tkeys (t.take i) ++ tkeys (t.drop i) := by
  unfold tkeys; rw [← List.map_append, ← List.filter_append, List.take_append_drop]
def TypeP1 (f : Face) (x : Ty) : Prop := (x.mod = [] ∨ modOk f x.mod) ∧ (x.form = 9 → x.mod ≠ f.name → 0 ≤ x.desc)

set_option maxHeartbeats 4000000 in
theorem framed_fn {h : Heap} {fv : Value} {f : Face} (hF : FaceV h.size h fv f) :
    Does Tryz.prog 60 [fv] h (fun v h' => v = .bool (tb (ShapedP f ∧ ImpP f)) ∧ Ext h h') := by
  have hF0 := hF
  obtain ⟨vu, vt, vo, rfl, hn, hk, hU, hT, hO⟩ := hF
  have hO0 := hO
  have hU0 := hU
  have hT0 := hT
  obtain ⟨ao, co, rfl⟩ := hO.form
  obtain ⟨au, cu, rfl⟩ := hU.form
  obtain ⟨at0, ct0, rfl⟩ := SliceAt.form hT
  have hol := hO.1
  have hul := hU.1
  have htl := hT.1
  have hmx : maxLen = 9223372036854775807 := by decide
  have h0l : ([] : Bytes).length ≤ maxLen := by decide
  have k0 : At h.size h h := At.refl (Nat.le_refl _)
  refine fn_enter (N := 156) Tryz.func60 (by kernel_rfl) rfl rfl rfl (fun w0 => ?_)
  refine c_seq ?_; refine c_reg ?_; refine bx rfl nofun rfl (fun h1 n1 => ?_)
  have s1 : h1.size = h.size + 1 := n1.size
  have k_1 := k0.ext n1.ext
  have b1_1 := n1.at_
  refine asg rfl rfl ?_; refine o_nil ?_; refine x_seq ?_
  refine c_seq ?_; refine c_seq ?_; refine c_reg ?_; refine fa rfl rfl (ld rfl (cell b1_1 rfl) rfl (clE (named_fn _ _) rfl rfl (fun h2 x2 => ?_)))
  have s2 : h1.size ≤ h2.size := x2.size
  have k_2 := k_1.ext x2
  have b1_2 := x2.get b1_1
  refine nt rfl rfl (mv rfl rfl (gqf rfl rfl rfl (fun e => fa rfl rfl) (gqf rfl rfl rfl (fun e => ld (cg rfl e) (cell b1_2 rfl) rfl) (gqf rfl rfl rfl (fun e => lnl (cg rfl e) rfl) ?_))))
  refine gqf rfl rfl rfl (fun e => gti (cg rfl e) rfl rfl) (pko rfl rfl rfl rfl (mv rfl rfl (gqf rfl rfl rfl (fun e => fa rfl rfl) (gqf rfl rfl rfl (fun e => ld (cg rfl e) (cell b1_2 rfl) rfl) ?_))))
  refine gqf rfl rfl rfl (fun e => lnl (cg rfl e) rfl) (gqf rfl rfl rfl (fun e => gti (cg rfl e) rfl rfl) (pko rfl rfl rfl rfl (mv rfl rfl (gqf rfl rfl rfl (fun e => fa rfl rfl) ?_))))
  refine gqf rfl rfl rfl (fun e => ld (cg rfl e) (cell b1_2 rfl) rfl) (gef rfl rfl rfl (fun e kk => clE ((tyGood_fn (TypesAt.keep hT0 (At.k k_2) (At.n k_2)))) (a1 (cg rfl e)) rfl kk) (fun h3 x3 => ?_))
  have s3 : h2.size ≤ h3.size := x3.size
  have k_3 := k_2.ext x3
  have b1_3 := x3.get b1_2
  refine gqf rfl rfl rfl (fun e => nt (cg rfl e) rfl) (pko rfl rfl rfl rfl ?_)
  refine o_nil ?_; refine x_seq ?_; refine c_cond rfl (fun c4 => ?_) (fun c4 => ?_)
  · refine c_seq ?_; refine c_reg ?_; refine asg rfl rfl ?_; refine o_nil ?_; refine x_seq ?_; refine c_ret ?_; refine x_seq_ret ?_
    refine ret1 (.inr rfl) rfl rfl ?_
    refine ⟨congrArg Value.bool (tb_f (fun hs => ?_)).symm, (k_3).toExt⟩
    obtain ⟨⟨⟨a1, a2, a3, a4⟩, -⟩, -⟩ := hs
    rcases c4 with ((c | c) | c) | c
    · exact c a1
    · omega
    · omega
    · exact c a4
  · have e1 : WordP f.name := Classical.byContradiction fun e => c4 (.inl (.inl (.inl e)))
    have e2 : f.uses.length ≤ 16 := by have := fun e => c4 (.inl (.inl (.inr e))); omega
    have e3 : f.objs.length ≤ 64 := by have := fun e => c4 (.inl (.inr e)); omega
    have e4 : TGood f.types := Classical.byContradiction fun e => c4 (.inr e)
    refine c_skip ?_; refine x_seq ?_; refine c_seq ?_; refine c_reg ?_; refine mkm nofun rfl (fun h5 n5 => ?_)
    have s5 : h5.size = h3.size + 1 := n5.size
    have k_5 := k_3.ext n5.ext
    have b1_5 := n5.ext.get b1_3
    have M37_5 : MapIs Tryz.prog 106 h5 h3.size _ := map_new n5
    refine fa rfl rfl (ld rfl (cell b1_5 rfl) rfl (bld (vs := [(0, str f.name), (1, str [])]) (v := modK f.name) rfl (fun _ => by kernel_rfl) rfl (ins rfl rfl (keyK hn h0l) rfl M37_5 nofun (fun h6 m6 x6 => ?_))))
    rw [seenV_upd] at m6
    have s6 : h5.size ≤ h6.size := x6.size
    have k_6 := k_5.mod x6 (fun k e => by have := e; omega)
    have b1_6 := x6.get b1_5 (fun e => by have := e; omega)
    have M37_6 := m6
    refine mv rfl rfl (asg rfl rfl ?_)
    refine o_nil ?_; refine x_seq ?_
    refine c_seq ?_; refine c_seq ?_; refine c_reg ?_; refine fa rfl rfl (ld rfl (cell b1_6 rfl) rfl (lnl rfl rfl (mv rfl rfl ?_)))
    refine o_nil ?_; refine x_seq ?_; refine c_blk ?_
    refine c_loop (α := Nat × Heap) (fun s => [(1, ptr h.size 0), (3, .map (some h3.size)), (43, .slice au f.uses.length cu), (44, i64 (f.uses.length : Nat)), (45, i64 (s.1 : Nat))]) (fun s => s.2)
      (fun s => At h.size h s.2 ∧ s.2[h.size]? = some (.cells #[str f.name, .int .u32 f.key, .slice au f.uses.length cu, .slice at0 f.types.length ct0, .slice ao f.objs.length co] 28 (0, 0)) ∧ s.1 ≤ f.uses.length ∧ MapIs Tryz.prog 106 s.2 h3.size (seenV ((f.name :: (f.uses.take s.1).map (·.name)).map modK)) ∧ (f.name :: (f.uses.take s.1).map (·.name)).Nodup ∧ upTo f.uses (fun u => WordP u.name) s.1)
      (fun s => f.uses.length - s.1) (0, h6) ⟨k_6, b1_6, Nat.zero_le _, M37_6, by simp, upTo_zero _ _⟩ ⟨rfl, rfl, rfl, rfl, rfl, trivial⟩ rfl (fun s hs => ?_)
    obtain ⟨i, ga⟩ := s
    obtain ⟨kg, g1, hil, hM, hnd, hup⟩ := hs
    simp only at kg g1 hil hM hnd hup
    have kgn := kg.n
    have g1l := lt_of_get g1
    have hMl := hM.lt
    change SC _ _ _ _ ga
    refine c_seq ?_; refine c_reg ?_; refine lti rfl rfl rfl ?_; refine o_nil ?_; refine x_seq ?_
    refine c_seq ?_; refine c_cond rfl (fun c7 => ?_) (fun c7 => ?_)
    · have hlt : i < f.uses.length := by have := c7; simp only at this; omega
      have hxi : f.uses[i]? = some f.uses[i] := List.getElem?_eq_getElem hlt
      obtain ⟨b2, o2, cs2, ha2, hb2, hl2, hr2, hR2⟩ := SliceAt.el hU0 kg hxi
      generalize f.uses[i] = u at *
      subst ha2
      obtain ⟨rfl, hq, -⟩ := hR2
      have hsl := seenV_le ((f.name :: (f.uses.take i).map (·.name)).map modK) (modK u.name)
      have htk : f.name :: (f.uses.take (i + 1)).map (·.name) = (f.name :: (f.uses.take i).map (·.name)) ++ [u.name] := by rw [take_map _ hxi]; rfl
      have hsp : f.name :: f.uses.map (·.name) = (f.name :: (f.uses.take i).map (·.name)) ++ [u.name] ++ (f.uses.drop (i + 1)).map (·.name) := by rw [split_map _ hxi]; rfl
      refine c_skip ?_; refine x_seq ?_
      refine c_seq ?_; refine c_blk ?_; refine c_seq ?_; refine c_reg ?_
      refine ixs rfl rfl (by omega) rfl (ldn rfl rfl hr2 rfl (alc nofun rfl (fun h8 n8 => ?_)))
      have s8 : h8.size = ga.size + 1 := n8.size
      have k_8 := kg.ext n8.ext
      have g1_8 := n8.ext.get g1
      have hM_8 := hM.mod n8.ext (fun e => e)
      have b5_8 := n8.at_
      refine stw rfl rfl rfl (ones rfl) b5_8 rfl nofun (fun h9 u9 => ?_)
      have s9 : h9.size = h8.size := u9.size
      have k_9 := k_8.upd u9 (by omega)
      have g1_9 := u9.ne g1_8 (by omega)
      have hM_9 := hM_8.mod u9.mod (fun e => by have := e; omega)
      have b5_9 := u9.at_
      refine o_nil ?_; refine x_seq ?_; refine c_seq ?_; refine c_reg ?_
      refine fa rfl rfl (ld rfl (cell b5_9 rfl) rfl (bld (vs := [(0, str u.name), (1, str [])]) (v := modK u.name) rfl (fun _ => by kernel_rfl) rfl (alc nofun rfl (fun h10 n10 => ?_))))
      have s10 : h10.size = h9.size + 1 := n10.size
      have k_10 := k_9.ext n10.ext
      have g1_10 := n10.ext.get g1_9
      have hM_10 := hM_9.mod n10.ext (fun e => e)
      have b5_10 := n10.ext.get b5_9
      have b6_10 := n10.at_
      refine stw rfl rfl rfl (ones rfl) b6_10 rfl nofun (fun h11 u11 => ?_)
      have s11 : h11.size = h10.size := u11.size
      have k_11 := k_10.upd u11 (by omega)
      have g1_11 := u11.ne g1_10 (by omega)
      have hM_11 := hM_10.mod u11.mod (fun e => by have := e; omega)
      have b5_11 := u11.ne b5_10 (by omega)
      have b6_11 := u11.at_
      refine o_nil ?_; refine x_seq ?_; refine c_seq ?_
      refine c_breg (fun g => Mod (· = h3.size) h11 g ∧ MapIs Tryz.prog 106 g h3.size (seenV ((f.name :: (f.uses.take i).map (·.name)).map modK))) [0, 1, 2, 3, 4, 5] 6 rfl rfl ⟨Mod.refl _ _, hM_11⟩ (by kernel_rfl) ?_
      refine mv rfl rfl (ldnI rfl rfl (fun _ hI => row_blk (hI.1.get b6_11 (by omega))) rfl (lkI (key := modK u.name) rfl rfl (keyK hq h0l) (fun _ hI => hI.2) rfl (add rfl rfl (by omega) rfl ?_)))
      refine me (key := modK u.name) rfl rfl (keyK hq h0l) hM_11 (fun _ h2 hm hx => ⟨hx, hm⟩) rfl (fun st12 h12 m12 p12 x12 => ?_)
      have s12 : h11.size ≤ h12.size := x12.size
      have k_12 := k_11.mod x12 (fun k e => by have := e; omega)
      have g1_12 := x12.get g1_11 (fun e => by have := e; omega)
      have hM_12 := m12
      have b5_12 := x12.get b5_11 (fun e => by have := e; omega)
      have b6_12 := x12.get b6_11 (fun e => by have := e; omega)
      refine ext rfl rfl rfl ?_; refine o_nil ?_; refine x_bar ?_; refine es rfl rfl rfl m12 p12 (fun _ _ _ _ => trivial) (fun h13 m13 x13 => ?_)
      have s13 : h12.size ≤ h13.size := x13.size
      have k_13 := k_12.mod x13 (fun k e => by have := e; omega)
      have g1_13 := x13.get g1_12 (fun e => by have := e; omega)
      have hM_13 := m13
      have b5_13 := x13.get b5_12 (fun e => by have := e; omega)
      have b6_13 := x13.get b6_12 (fun e => by have := e; omega)
      refine o_nil ?_; refine x_seq ?_; refine c_seq ?_; refine c_reg ?_
      refine fa rfl rfl (ld rfl (cell b5_13 rfl) rfl (clE (named_fn _ _) rfl rfl (fun h14 x14 => ?_)))
      have s14 : h13.size ≤ h14.size := x14.size
      have k_14 := k_13.ext x14
      have g1_14 := x14.get g1_13
      have hM_14 := hM_13.mod x14 (fun e => e)
      have b5_14 := x14.get b5_13
      have b6_14 := x14.get b6_13
      refine nt rfl rfl (mv rfl rfl (gqf rfl rfl rfl (fun e => mv rfl rfl) (gqf rfl rfl rfl (fun e => ldn rfl rfl (row_blk b6_14) rfl) (gqf rfl rfl rfl (fun e => lk (key := modK u.name) (cg rfl e) (cg rfl e) (keyK hq h0l) hM_14 rfl) ?_))))
      refine gqf rfl rfl rfl (fun e => gti (cg rfl e) rfl rfl) (pko rfl rfl rfl rfl ?_)
      refine o_nil ?_; refine x_seq ?_; refine c_cond rfl (fun c15 => ?_) (fun c15 => ?_)
      · refine c_seq ?_; refine c_reg ?_; refine asg rfl rfl ?_; refine o_nil ?_; refine x_seq ?_; refine c_ret ?_; refine x_blk_ret ?_
        refine x_seq_ret ?_; refine x_loop_ret ?_; refine x_blk_ret ?_; refine x_seq_ret ?_; refine ret1 (.inr rfl) rfl rfl ?_
        refine ⟨congrArg Value.bool (tb_f (fun hs => ?_)).symm, (k_14).toExt⟩
        rcases c15 with c | c
        · exact c (hs.1.2.1.2 u (List.mem_of_getElem? hxi))
        · rw [upd_at] at c
          have hin := seenV_pos.1 (show 0 < seenV ((f.name :: (f.uses.take i).map (·.name)).map modK) (modK u.name) by omega)
          have hd := hs.1.2.1.1
          rw [hsp] at hd
          exact nodup_out hd ((key_mem (fun _ _ => modK_inj)).1 hin)
      · have hW : WordP u.name := Classical.byContradiction fun e => c15 (.inl e)
        have hout : ¬ modK u.name ∈ (f.name :: (f.uses.take i).map (·.name)).map modK := fun e => c15 (.inr (by rw [upd_at, seenV_in e]; decide))
        rw [seenV_upd2 hout] at hM_14
        refine c_skip ?_; refine x_blk ?_; refine x_seq ?_; refine c_reg ?_; refine add rfl rfl (by omega) rfl (mv rfl rfl ?_)
        refine o_nil ?_
        refine x_loop (i + 1, h14) ⟨k_14, g1_14, hlt, by simp only; rw [htk, List.map_append]; exact hM_14, by simp only; rw [htk]; exact nodup_snoc hnd (fun e => hout ((key_mem (fun _ _ => modK_inj)).2 e)), (upTo_succ hxi).2 ⟨hup, hW⟩⟩ (by simp only; omega) ⟨rfl, rfl, rfl, rfl, rfl, trivial⟩ rfl
    · have hi : i = f.uses.length := by have := c7; simp only at this; omega
      subst hi
      rw [List.take_length] at hM hnd
      have hUse : UsesP f := ⟨hnd, fun u hu => upTo_all.1 hup u hu⟩
      clear hup hnd hil
      refine c_exit ?_; refine x_seq_exit ?_; refine x_loop_exit ?_; refine x_blk_hit ?_; refine x_seq ?_; refine c_seq ?_; refine c_reg ?_
      refine mkm nofun rfl (fun h16 n16 => ?_)
      have s16 : h16.size = ga.size + 1 := n16.size
      have k_16 := kg.ext n16.ext
      have g1_16 := n16.ext.get g1
      have hM_16 := hM.mod n16.ext (fun e => e)
      have M69_16 : MapIs Tryz.prog 110 h16 ga.size _ := map_new n16
      refine asg rfl rfl ?_; refine o_nil ?_; refine x_seq ?_
      refine c_seq ?_; refine c_seq ?_; refine c_reg ?_; refine fa rfl rfl (ld rfl (cell g1_16 rfl) rfl (lnl rfl rfl (mv rfl rfl ?_)))
      refine o_nil ?_; refine x_seq ?_; refine c_blk ?_
      refine c_loop (α := Nat × Heap) (fun s => [(1, ptr h.size 0), (3, .map (some h3.size)), (7, .map (some ga.size)), (71, .slice at0 f.types.length ct0), (72, i64 (f.types.length : Nat)), (73, i64 (s.1 : Nat))]) (fun s => s.2)
        (fun s => At h.size h s.2 ∧ s.2[h.size]? = some (.cells #[str f.name, .int .u32 f.key, .slice au f.uses.length cu, .slice at0 f.types.length ct0, .slice ao f.objs.length co] 28 (0, 0)) ∧ s.1 ≤ f.types.length ∧ MapIs Tryz.prog 106 s.2 h3.size (seenV ((f.name :: f.uses.map (·.name)).map modK)) ∧ MapIs Tryz.prog 110 s.2 ga.size (seenV (tkeys (f.types.take s.1))) ∧ (tkeys (f.types.take s.1)).Nodup ∧ upTo f.types (TypeP1 f) s.1)
        (fun s => f.types.length - s.1) (0, h16) ⟨k_16, g1_16, Nat.zero_le _, hM_16, M69_16, .nil, upTo_zero _ _⟩ ⟨rfl, rfl, rfl, rfl, rfl, rfl, trivial⟩ rfl (fun s hs => ?_)
      obtain ⟨j, gb⟩ := s
      obtain ⟨kg2, g2, hjl, hM3, hM7, hnd7, hup7⟩ := hs
      simp only at kg2 g2 hjl hM3 hM7 hnd7 hup7
      have kgn2 := kg2.n
      have g2l := lt_of_get g2
      have hM3l := hM3.lt
      have hM7l := hM7.lt
      change SC _ _ _ _ gb
      refine c_seq ?_; refine c_reg ?_; refine lti rfl rfl rfl ?_; refine o_nil ?_; refine x_seq ?_
      refine c_seq ?_; refine c_cond rfl (fun c17 => ?_) (fun c17 => ?_)
      · have hlt : j < f.types.length := by have := c17; simp only at this; omega
        have hxi : f.types[j]? = some f.types[j] := List.getElem?_eq_getElem hlt
        obtain ⟨b2, o2, cs2, ha2, hb2, hl2, hr2, hR2⟩ := SliceAt.el hT0 kg2 hxi
        generalize f.types[j] = x at *
        subst ha2
        obtain ⟨hfit, vf, vp, rfl, hFx, hPx⟩ := hR2
        obtain ⟨a4, c4', rfl⟩ := hFx.form
        obtain ⟨a5, c5', rfl⟩ := hPx.form
        obtain ⟨hm1, hm2, hm3, hm4, hm5, hm6, hm7, hm8⟩ := hfit
        have hsl := seenV_le (tkeys (f.types.take j)) (tkey x)
        have htk := tkeys_take hxi
        have hsp := tkeys_split f.types (j + 1)
        have hmk : seenV ((f.name :: f.uses.map (·.name)).map modK) (modK x.mod) = 0 ↔ ¬ modOk f x.mod := by
         have h1 := seenV_le ((f.name :: f.uses.map (·.name)).map modK) (modK x.mod)
         have h2 : 0 < seenV ((f.name :: f.uses.map (·.name)).map modK) (modK x.mod) ↔ modOk f x.mod := by
          rw [seenV_pos, key_mem (fun _ _ => modK_inj)]; unfold modOk; simp
         rw [← h2]; omega
        refine c_skip ?_; refine x_seq ?_
        refine c_seq ?_; refine c_blk ?_; refine c_seq ?_; refine c_reg ?_
        refine ixs rfl rfl (by omega) rfl (ldn rfl rfl hr2 rfl (alc nofun rfl (fun h18 n18 => ?_)))
        have s18 : h18.size = gb.size + 1 := n18.size
        have k_18 := kg2.ext n18.ext
        have g2_18 := n18.ext.get g2
        have hM3_18 := hM3.mod n18.ext (fun e => e)
        have hM7_18 := hM7.mod n18.ext (fun e => e)
        have b9_18 := n18.at_
        refine stw rfl rfl rfl (ones rfl) b9_18 rfl nofun (fun h19 u19 => ?_)
        have s19 : h19.size = h18.size := u19.size
        have k_19 := k_18.upd u19 (by omega)
        have g2_19 := u19.ne g2_18 (by omega)
        have hM3_19 := hM3_18.mod u19.mod (fun e => by have := e; omega)
        have hM7_19 := hM7_18.mod u19.mod (fun e => by have := e; omega)
        have b9_19 := u19.at_
        refine o_nil ?_; refine x_seq ?_
        refine c_seq ?_; refine c_seq ?_; refine c_reg ?_
        refine fa rfl rfl (ld rfl (cell b9_19 rfl) rfl (nes rfl rfl rfl (mv rfl rfl (gqt rfl rfl rfl (fun e => mv rfl rfl) (gqt rfl rfl rfl (fun e => fa rfl rfl) (gqt rfl rfl rfl (fun e => ld (cg rfl e) (cell b9_19 rfl) rfl) ?_))))))
        refine gqt rfl rfl rfl (fun e => bld (vs := [(0, str x.mod), (1, str [])]) (v := modK x.mod) (bm2 (cg rfl e) rfl) (fun _ => by kernel_rfl) rfl) (gqt rfl rfl rfl (fun e => lk (cg rfl e) (cg rfl e) (keyK hm1 h0l) hM3_19 rfl) ?_)
        refine gqt rfl rfl rfl (fun e => eqi (cg rfl e) rfl rfl) (pka rfl rfl rfl rfl (mv rfl rfl (gqf rfl rfl rfl (fun e => fa rfl rfl) (gqf rfl rfl rfl (fun e => ld (cg rfl e) (cell b9_19 rfl) rfl) ?_))))
        refine gqf rfl rfl rfl (fun e => eqi (cg rfl e) rfl rfl) (gqf rfl rfl rfl (fun e => mv (cg rfl e) rfl) (gqt2 rfl rfl rfl (fun e => fa rfl rfl) (gqt2 rfl rfl rfl (fun e => ld (cg rfl e) (cell b9_19 rfl) rfl) ?_)))
        refine gqt2 rfl rfl rfl (fun e => fa rfl rfl) (gqt2 rfl rfl rfl (fun e => ld (cg rfl e) (cell g2_19 rfl) rfl) (gqt2 rfl rfl rfl (fun e => nes (cg rfl e) (cg rfl e) rfl) ?_))
        refine gqf rfl rfl rfl (fun e => pka (cg rfl e) (cg2 rfl e) rfl rfl) (gqf rfl rfl rfl (fun e => mv (cg rfl e) rfl) (gqt2 rfl rfl rfl (fun e => fa rfl rfl) (gqt2 rfl rfl rfl (fun e => ld (cg rfl e) (cell b9_19 rfl) rfl) ?_)))
        refine gqt2 rfl rfl rfl (fun e => lti (cg rfl e) rfl rfl) (gqf rfl rfl rfl (fun e => pka (cg rfl e) (cg2 rfl e) rfl rfl) (pko rfl rfl rfl rfl ?_))
        refine o_nil ?_; refine x_seq ?_; refine c_cond rfl (fun c20 => ?_) (fun c20 => ?_)
        · refine c_seq ?_; refine c_reg ?_; refine asg rfl rfl ?_; refine o_nil ?_; refine x_seq ?_; refine c_ret ?_; refine x_seq_ret ?_
          refine x_blk_ret ?_; refine x_seq_ret ?_; refine x_loop_ret ?_; refine x_blk_ret ?_; refine x_seq_ret ?_; refine ret1 (.inr rfl) rfl rfl ?_
          refine ⟨congrArg Value.bool (tb_f (fun hs => ?_)).symm, (k_19).toExt⟩
          have hxm := List.mem_of_getElem? hxi
          rcases c20 with ⟨c, d⟩ | ⟨⟨c, d⟩, e⟩
          · exact (hmk.1 d) ((hs.1.2.2.1.1 x hxm).resolve_left c)
          · have := hs.2 x hxm c d; omega
        · have hT1 : TypeP1 f x := ⟨(Classical.em _).imp id (fun e => Classical.byContradiction fun e' => c20 (.inl ⟨e, hmk.2 e'⟩)), fun e1 e2 => Classical.byContradiction fun e3 => c20 (.inr ⟨⟨e1, e2⟩, by omega⟩)⟩
          refine c_skip ?_; refine x_seq ?_
          refine c_seq ?_; refine c_seq ?_; refine c_reg ?_; refine fa rfl rfl (ld rfl (cell b9_19 rfl) rfl (eqs rfl rfl rfl ?_))
          refine o_nil ?_; refine x_seq ?_; refine c_cond rfl (fun c21 => ?_) (fun c21 => ?_)
          · refine c_exit ?_; refine x_seq_exit ?_; refine x_blk_hit ?_; refine x_seq ?_; refine c_reg ?_
            refine add rfl rfl (by omega) rfl (mv rfl rfl ?_)
            refine o_nil ?_
            refine x_loop (j + 1, h19) ⟨k_19, g2_19, hlt, hM3_19, by simp only; rw [htk, if_pos c21, List.append_nil]; exact hM7_19, by simp only; rw [htk, if_pos c21, List.append_nil]; exact hnd7, (upTo_succ hxi).2 ⟨hup7, hT1⟩⟩ (by simp only; omega) ⟨rfl, rfl, rfl, rfl, rfl, rfl, trivial⟩ rfl
          · refine c_skip ?_; refine x_seq ?_; refine c_seq ?_; refine c_reg ?_
            refine fa rfl rfl (ld rfl (cell b9_19 rfl) rfl (fa rfl rfl (ld rfl (cell b9_19 rfl) rfl (bld (vs := [(0, str x.mod), (1, str x.name)]) (v := .agg #[str x.mod, str x.name]) rfl (fun _ => by kernel_rfl) rfl ?_))))
            refine fa rfl rfl (ld rfl (cell b9_19 rfl) rfl (eqi rfl rfl rfl (bld (vs := [(0, .agg #[str x.mod, str x.name]), (1, .bool (x.form == 9))]) (v := tkey x) rfl (fun _ => by kernel_rfl) rfl ?_)))
            refine alc nofun rfl (fun h22 n22 => ?_)
            have s22 : h22.size = h19.size + 1 := n22.size
            have k_22 := k_19.ext n22.ext
            have g2_22 := n22.ext.get g2_19
            have hM3_22 := hM3_19.mod n22.ext (fun e => e)
            have hM7_22 := hM7_19.mod n22.ext (fun e => e)
            have b9_22 := n22.ext.get b9_19
            have b10_22 := n22.at_
            refine stw rfl rfl rfl (ones rfl) b10_22 rfl nofun (fun h23 u23 => ?_)
            have s23 : h23.size = h22.size := u23.size
            have k_23 := k_22.upd u23 (by omega)
            have g2_23 := u23.ne g2_22 (by omega)
            have hM3_23 := hM3_22.mod u23.mod (fun e => by have := e; omega)
            have hM7_23 := hM7_22.mod u23.mod (fun e => by have := e; omega)
            have b9_23 := u23.ne b9_22 (by omega)
            have b10_23 := u23.at_
            refine o_nil ?_; refine x_seq ?_; refine c_seq ?_
            refine c_breg (fun g => Mod (· = ga.size) h23 g ∧ MapIs Tryz.prog 110 g ga.size (seenV (tkeys (f.types.take j)))) [0, 1, 2, 3, 4, 5] 6 rfl rfl ⟨Mod.refl _ _, hM7_23⟩ (by kernel_rfl) ?_
            refine mv rfl rfl (ldnI rfl rfl (fun _ hI => row_blk (hI.1.get b10_23 (by omega))) rfl (lkI (key := tkey x) rfl rfl (keyS hm1 hm2 _) (fun _ hI => hI.2) rfl (add rfl rfl (by omega) rfl ?_)))
            refine me (key := tkey x) rfl rfl (keyS hm1 hm2 _) hM7_23 (fun _ h2 hm hx => ⟨hx, hm⟩) rfl (fun st24 h24 m24 p24 x24 => ?_)
            have s24 : h23.size ≤ h24.size := x24.size
            have k_24 := k_23.mod x24 (fun k e => by have := e; omega)
            have g2_24 := x24.get g2_23 (fun e => by have := e; omega)
            have hM3_24 := hM3_23.mod x24 (fun e => by have := e; omega)
            have hM7_24 := m24
            have b9_24 := x24.get b9_23 (fun e => by have := e; omega)
            have b10_24 := x24.get b10_23 (fun e => by have := e; omega)
            refine ext rfl rfl rfl ?_; refine o_nil ?_; refine x_bar ?_; refine es rfl rfl rfl m24 p24 (fun _ _ _ _ => trivial) (fun h25 m25 x25 => ?_)
            have s25 : h24.size ≤ h25.size := x25.size
            have k_25 := k_24.mod x25 (fun k e => by have := e; omega)
            have g2_25 := x25.get g2_24 (fun e => by have := e; omega)
            have hM3_25 := hM3_24.mod x25 (fun e => by have := e; omega)
            have hM7_25 := m25
            have b9_25 := x25.get b9_24 (fun e => by have := e; omega)
            have b10_25 := x25.get b10_24 (fun e => by have := e; omega)
            refine o_nil ?_; refine x_seq ?_; refine c_seq ?_; refine c_reg ?_
            refine mv rfl rfl (ldn rfl rfl (row_blk b10_25) rfl (lk (key := tkey x) rfl rfl (keyS hm1 hm2 _) hM7_25 rfl (gti rfl rfl rfl ?_)))
            refine o_nil ?_; refine x_seq ?_; refine c_cond rfl (fun c26 => ?_) (fun c26 => ?_)
            · refine c_seq ?_; refine c_reg ?_; refine asg rfl rfl ?_; refine o_nil ?_; refine x_seq ?_; refine c_ret ?_; refine x_blk_ret ?_
              refine x_seq_ret ?_; refine x_loop_ret ?_; refine x_blk_ret ?_; refine x_seq_ret ?_; refine ret1 (.inr rfl) rfl rfl ?_
              refine ⟨congrArg Value.bool (tb_f (fun hs => ?_)).symm, (k_25).toExt⟩
              have c26 : upd (seenV (tkeys (f.types.take j))) (tkey x) (seenV (tkeys (f.types.take j)) (tkey x) + 1) (tkey x) > 1 := c26
              rw [upd_at] at c26
              have hin := seenV_pos.1 (show 0 < seenV (tkeys (f.types.take j)) (tkey x) by omega)
              have hd := hs.1.2.2.1.2
              rw [hsp, htk, if_neg c21] at hd
              exact nodup_out hd hin
            · have hout : ¬ tkey x ∈ tkeys (f.types.take j) := fun e => c26 (by show upd (seenV (tkeys (f.types.take j))) (tkey x) (seenV (tkeys (f.types.take j)) (tkey x) + 1) (tkey x) > 1; rw [upd_at, seenV_in e]; decide)
              rw [seenV_upd2 hout] at hM7_25
              refine c_skip ?_; refine x_blk ?_; refine x_seq ?_; refine c_reg ?_; refine add rfl rfl (by omega) rfl (mv rfl rfl ?_)
              refine o_nil ?_
              refine x_loop (j + 1, h25) ⟨k_25, g2_25, hlt, hM3_25, by simp only; rw [htk, if_neg c21]; exact hM7_25, by simp only; rw [htk, if_neg c21]; exact nodup_snoc hnd7 hout, (upTo_succ hxi).2 ⟨hup7, hT1⟩⟩ (by simp only; omega) ⟨rfl, rfl, rfl, rfl, rfl, rfl, trivial⟩ rfl
      · have hj : j = f.types.length := by have := c17; simp only at this; omega
        subst hj
        rw [List.take_length] at hM7 hnd7
        have hTy : TypesP f := ⟨fun x hx => (upTo_all.1 hup7 x hx).1, hnd7⟩
        have hIm : ImpP f := fun x hx => (upTo_all.1 hup7 x hx).2
        clear hnd7 hup7 hjl
        refine c_exit ?_; refine x_seq_exit ?_; refine x_loop_exit ?_; refine x_blk_hit ?_; refine x_seq ?_; refine c_seq ?_; refine c_reg ?_
        refine mkm nofun rfl (fun h27 n27 => ?_)
        have s27 : h27.size = gb.size + 1 := n27.size
        have k_27 := kg2.ext n27.ext
        have g2_27 := n27.ext.get g2
        have hM3_27 := hM3.mod n27.ext (fun e => e)
        have hM7_27 := hM7.mod n27.ext (fun e => e)
        have M128_27 : MapIs Tryz.prog 106 h27 gb.size _ := map_new n27
        refine asg rfl rfl ?_; refine o_nil ?_; refine x_seq ?_
        refine c_seq ?_; refine c_seq ?_; refine c_reg ?_; refine fa rfl rfl (ld rfl (cell g2_27 rfl) rfl (lnl rfl rfl (mv rfl rfl ?_)))
        refine o_nil ?_; refine x_seq ?_; refine c_blk ?_
        refine c_loop (α := Nat × Heap) (fun s => [(1, ptr h.size 0), (11, .map (some gb.size)), (130, .slice ao f.objs.length co), (131, i64 (f.objs.length : Nat)), (132, i64 (s.1 : Nat))]) (fun s => s.2)
          (fun s => At h.size h s.2 ∧ s.2[h.size]? = some (.cells #[str f.name, .int .u32 f.key, .slice au f.uses.length cu, .slice at0 f.types.length ct0, .slice ao f.objs.length co] 28 (0, 0)) ∧ s.1 ≤ f.objs.length ∧ MapIs Tryz.prog 106 s.2 gb.size (seenV (((f.objs.take s.1).map (·.name)).map nameK)) ∧ ((f.objs.take s.1).map (·.name)).Nodup ∧ upTo f.objs (ObjP f.types) s.1)
          (fun s => f.objs.length - s.1) (0, h27) ⟨k_27, g2_27, Nat.zero_le _, M128_27, .nil, upTo_zero _ _⟩ ⟨rfl, rfl, rfl, rfl, rfl, trivial⟩ rfl (fun s hs => ?_)
        obtain ⟨q, gc⟩ := s
        obtain ⟨kg3, g3, hql, hM11, hnd11, hup11⟩ := hs
        simp only at kg3 g3 hql hM11 hnd11 hup11
        have kgn3 := kg3.n
        have g3l := lt_of_get g3
        have hM11l := hM11.lt
        change SC _ _ _ _ gc
        refine c_seq ?_; refine c_reg ?_; refine lti rfl rfl rfl ?_; refine o_nil ?_; refine x_seq ?_
        refine c_seq ?_; refine c_cond rfl (fun c28 => ?_) (fun c28 => ?_)
        · have hlt : q < f.objs.length := by have := c28; simp only at this; omega
          have hxi : f.objs[q]? = some f.objs[q] := List.getElem?_eq_getElem hlt
          obtain ⟨b2, o2, cs2, ha2, hb2, hl2, hr2, hR2⟩ := SliceAt.el hO0 kg3 hxi
          generalize f.objs[q] = o at *
          subst ha2
          obtain ⟨rfl, hq1, hq2, -⟩ := hR2
          have hsl := seenV_le (((f.objs.take q).map (·.name)).map nameK) (nameK o.name)
          have htk : (f.objs.take (q + 1)).map (·.name) = (f.objs.take q).map (·.name) ++ [o.name] := take_map _ hxi
          have hsp : f.objs.map (·.name) = (f.objs.take q).map (·.name) ++ [o.name] ++ (f.objs.drop (q + 1)).map (·.name) := split_map _ hxi
          refine c_skip ?_; refine x_seq ?_
          refine c_seq ?_; refine c_blk ?_; refine c_seq ?_; refine c_reg ?_
          refine ixs rfl rfl (by omega) rfl (ldn rfl rfl hr2 rfl (alc nofun rfl (fun h29 n29 => ?_)))
          have s29 : h29.size = gc.size + 1 := n29.size
          have k_29 := kg3.ext n29.ext
          have g3_29 := n29.ext.get g3
          have hM11_29 := hM11.mod n29.ext (fun e => e)
          have b13_29 := n29.at_
          refine stw rfl rfl rfl (ones rfl) b13_29 rfl nofun (fun h30 u30 => ?_)
          have s30 : h30.size = h29.size := u30.size
          have k_30 := k_29.upd u30 (by omega)
          have g3_30 := u30.ne g3_29 (by omega)
          have hM11_30 := hM11_29.mod u30.mod (fun e => by have := e; omega)
          have b13_30 := u30.at_
          refine o_nil ?_; refine x_seq ?_; refine c_seq ?_; refine c_reg ?_
          refine fa rfl rfl (ld rfl (cell b13_30 rfl) rfl (bld (vs := [(0, str []), (1, str o.name)]) (v := nameK o.name) rfl (fun _ => by kernel_rfl) rfl (alc nofun rfl (fun h31 n31 => ?_))))
          have s31 : h31.size = h30.size + 1 := n31.size
          have k_31 := k_30.ext n31.ext
          have g3_31 := n31.ext.get g3_30
          have hM11_31 := hM11_30.mod n31.ext (fun e => e)
          have b13_31 := n31.ext.get b13_30
          have b14_31 := n31.at_
          refine stw rfl rfl rfl (ones rfl) b14_31 rfl nofun (fun h32 u32 => ?_)
          have s32 : h32.size = h31.size := u32.size
          have k_32 := k_31.upd u32 (by omega)
          have g3_32 := u32.ne g3_31 (by omega)
          have hM11_32 := hM11_31.mod u32.mod (fun e => by have := e; omega)
          have b13_32 := u32.ne b13_31 (by omega)
          have b14_32 := u32.at_
          refine o_nil ?_; refine x_seq ?_; refine c_seq ?_
          refine c_breg (fun g => Mod (· = gb.size) h32 g ∧ MapIs Tryz.prog 106 g gb.size (seenV (((f.objs.take q).map (·.name)).map nameK))) [0, 1, 2, 3, 4, 5] 6 rfl rfl ⟨Mod.refl _ _, hM11_32⟩ (by kernel_rfl) ?_
          refine mv rfl rfl (ldnI rfl rfl (fun _ hI => row_blk (hI.1.get b14_32 (by omega))) rfl (lkI (key := nameK o.name) rfl rfl (keyK h0l hq1) (fun _ hI => hI.2) rfl (add rfl rfl (by omega) rfl ?_)))
          refine me (key := nameK o.name) rfl rfl (keyK h0l hq1) hM11_32 (fun _ h2 hm hx => ⟨hx, hm⟩) rfl (fun st33 h33 m33 p33 x33 => ?_)
          have s33 : h32.size ≤ h33.size := x33.size
          have k_33 := k_32.mod x33 (fun k e => by have := e; omega)
          have g3_33 := x33.get g3_32 (fun e => by have := e; omega)
          have hM11_33 := m33
          have b13_33 := x33.get b13_32 (fun e => by have := e; omega)
          have b14_33 := x33.get b14_32 (fun e => by have := e; omega)
          refine ext rfl rfl rfl ?_; refine o_nil ?_; refine x_bar ?_; refine es rfl rfl rfl m33 p33 (fun _ _ _ _ => trivial) (fun h34 m34 x34 => ?_)
          have s34 : h33.size ≤ h34.size := x34.size
          have k_34 := k_33.mod x34 (fun k e => by have := e; omega)
          have g3_34 := x34.get g3_33 (fun e => by have := e; omega)
          have hM11_34 := m34
          have b13_34 := x34.get b13_33 (fun e => by have := e; omega)
          have b14_34 := x34.get b14_33 (fun e => by have := e; omega)
          refine o_nil ?_; refine x_seq ?_; refine c_seq ?_; refine c_reg ?_
          refine mv rfl rfl (ldn rfl rfl (row_blk b14_34) rfl (lk (key := nameK o.name) rfl rfl (keyK h0l hq1) hM11_34 rfl (gti rfl rfl rfl (mv rfl rfl (gqf rfl rfl rfl (fun e => ldn rfl rfl (row_blk g3_34) rfl) ?_)))))
          refine gqf rfl rfl rfl (fun e => ldn rfl rfl (row_blk b13_34) rfl) (gef rfl rfl rfl (fun e kk => clE ((obj_fn hF0 k_34 hq2)) (a2 (cg rfl e) (cg rfl e)) rfl kk) (fun h35 x35 => ?_))
          have s35 : h34.size ≤ h35.size := x35.size
          have k_35 := k_34.ext x35
          have g3_35 := x35.get g3_34
          have hM11_35 := hM11_34.mod x35 (fun e => e)
          have b13_35 := x35.get b13_34
          have b14_35 := x35.get b14_34
          refine gqf rfl rfl rfl (fun e => nt (cg rfl e) rfl) (pko rfl rfl rfl rfl ?_)
          refine o_nil ?_; refine x_seq ?_; refine c_cond rfl (fun c36 => ?_) (fun c36 => ?_)
          · refine c_seq ?_; refine c_reg ?_; refine asg rfl rfl ?_; refine o_nil ?_; refine x_seq ?_; refine c_ret ?_; refine x_blk_ret ?_
            refine x_seq_ret ?_; refine x_loop_ret ?_; refine x_blk_ret ?_; refine x_seq_ret ?_; refine ret1 (.inr rfl) rfl rfl ?_
            refine ⟨congrArg Value.bool (tb_f (fun hs => ?_)).symm, (k_35).toExt⟩
            rcases c36 with c | c
            · have c : upd (seenV (((f.objs.take q).map (·.name)).map nameK)) (nameK o.name) (seenV (((f.objs.take q).map (·.name)).map nameK) (nameK o.name) + 1) (nameK o.name) > 1 := c
              rw [upd_at] at c
              have hin := seenV_pos.1 (show 0 < seenV (((f.objs.take q).map (·.name)).map nameK) (nameK o.name) by omega)
              have hd := hs.1.2.2.2.1
              rw [hsp] at hd
              exact nodup_out hd ((key_mem (fun _ _ => nameK_inj)).1 hin)
            · exact c (hs.1.2.2.2.2 o (List.mem_of_getElem? hxi))
          · have hout : ¬ nameK o.name ∈ ((f.objs.take q).map (·.name)).map nameK := fun e => c36 (.inl (by show upd (seenV (((f.objs.take q).map (·.name)).map nameK)) (nameK o.name) (seenV (((f.objs.take q).map (·.name)).map nameK) (nameK o.name) + 1) (nameK o.name) > 1; rw [upd_at, seenV_in e]; decide))
            have hOb : ObjP f.types o := Classical.byContradiction fun e => c36 (.inr e)
            rw [seenV_upd2 hout] at hM11_35
            refine c_skip ?_; refine x_blk ?_; refine x_seq ?_; refine c_reg ?_; refine add rfl rfl (by omega) rfl (mv rfl rfl ?_)
            refine o_nil ?_
            refine x_loop (q + 1, h35) ⟨k_35, g3_35, hlt, by simp only; rw [htk, List.map_append]; exact hM11_35, by simp only; rw [htk]; exact nodup_snoc hnd11 (fun e => hout ((key_mem (fun _ _ => nameK_inj)).2 e)), (upTo_succ hxi).2 ⟨hup11, hOb⟩⟩ (by simp only; omega) ⟨rfl, rfl, rfl, rfl, rfl, trivial⟩ rfl
        · have hq : q = f.objs.length := by have := c28; simp only at this; omega
          subst hq
          rw [List.take_length] at hnd11
          refine c_exit ?_; refine x_seq_exit ?_; refine x_loop_exit ?_; refine x_blk_hit ?_; refine x_seq ?_; refine c_seq ?_; refine c_reg ?_
          refine asg rfl rfl ?_; refine o_nil ?_; refine x_seq ?_; refine c_ret ?_; refine ret1 (.inr rfl) rfl rfl ?_
          exact ⟨congrArg Value.bool (tb_t ⟨⟨⟨e1, e2, e3, e4⟩, hUse, hTy, hnd11, fun o ho => upTo_all.1 hup11 o ho⟩, hIm⟩).symm, (kg3).toExt⟩
end

/-! The walks of iface's Good, and of the records' numbers. No condition but what each theorem says. -/
section
open Go Go.Eng

theorem num_cons {m : Bytes} {n : Int} {x : Ty} {l : List Ty} : numP m n (x :: l) = if x.form = 9 then (0 ≤ x.desc ∧ (x.mod = m → x.desc = n)) ∧ numP m (if x.mod = m then n + 1 else n) l else numP m n l := rfl
theorem drop_at {α : Type} {l : List α} {i : Nat} {x : α} (h : l[i]? = some x) : l.drop i = x :: l.drop (i + 1) := by
  have := List.drop_eq_getElem_cons (List.getElem?_eq_some_iff.1 h).1
  rwa [(List.getElem?_eq_some_iff.1 h).2] at this

theorem numbered_fn {h : Heap} {fv : Value} {f : Face} (hF : FaceV h.size h fv f) :
    Does Tryz.prog 57 [fv] h (fun v h' => v = .bool (tb (numP f.name 0 (f.types.drop 7))) ∧ Ext h h') := by
  obtain ⟨vu, vt, vo, rfl, hn, hk, hU, hT, hO⟩ := hF
  have hT0 := hT
  obtain ⟨at0, ct0, rfl⟩ := SliceAt.form hT
  have htl := hT.1
  have hmx : maxLen = 9223372036854775807 := by decide
  have k0 : At h.size h h := At.refl (Nat.le_refl _)
  refine fn_enter (N := 44) Tryz.func57 (by kernel_rfl) rfl rfl rfl (fun w0 => ?_)
  refine c_seq ?_; refine c_reg ?_; refine bx rfl nofun rfl (fun h1 n1 => ?_)
  have s1 : h1.size = h.size + 1 := n1.size
  have k_1 := k0.ext n1.ext
  have b1_1 := n1.at_
  refine asg rfl rfl ?_; refine o_nil ?_; refine x_seq ?_; refine c_seq ?_; refine c_reg ?_; refine asg rfl rfl ?_; refine o_nil ?_; refine x_seq ?_
  refine c_seq ?_; refine c_seq ?_; refine c_reg ?_; refine asg rfl rfl ?_; refine o_nil ?_; refine x_seq ?_; refine c_blk ?_
  refine c_loop (α := Nat × Nat × Heap) (fun s => [(1, ptr h.size 0), (3, i64 (s.2.1 : Nat)), (4, i64 (s.1 : Nat))]) (fun s => s.2.2)
    (fun s => At h.size h s.2.2 ∧ s.2.2[h.size]? = some (.cells #[str f.name, .int .u32 f.key, vu, .slice at0 f.types.length ct0, vo] 28 (0, 0)) ∧ (s.1 = 7 ∨ s.1 ≤ f.types.length) ∧ s.2.1 ≤ s.1 ∧ (numP f.name s.2.1 (f.types.drop s.1) ↔ numP f.name 0 (f.types.drop 7)))
    (fun s => f.types.length - s.1) (7, 0, h1) ⟨k_1, b1_1, .inl rfl, Nat.zero_le _, Iff.rfl⟩ ⟨rfl, rfl, rfl, trivial⟩ rfl (fun s hs => ?_)
  obtain ⟨i, n, g⟩ := s
  obtain ⟨kg, g1, hil, hni, hiff⟩ := hs
  simp only at kg g1 hil hni hiff
  have kgn := kg.n
  have g1l := lt_of_get g1
  change SC _ _ _ _ g
  refine c_seq ?_; refine c_seq ?_; refine c_reg ?_; refine mv rfl rfl (fa rfl rfl (ld rfl (cell g1 rfl) rfl (lnl rfl rfl (lti rfl rfl rfl ?_))))
  refine o_nil ?_; refine x_seq ?_; refine c_cond rfl (fun c2 => ?_) (fun c2 => ?_)
  · have hlt : i < f.types.length := by have := c2; simp only at this; omega
    have hxi : f.types[i]? = some f.types[i] := List.getElem?_eq_getElem hlt
    obtain ⟨b2, o2, cs2, ha2, hb2, hl2, hr2, hR2⟩ := SliceAt.el hT0 kg hxi
    rw [drop_at hxi, num_cons] at hiff
    generalize f.types[i] = x at *
    subst ha2
    obtain ⟨hfit, vf, vp, rfl, hFx, hPx⟩ := hR2
    obtain ⟨a4, c4', rfl⟩ := hFx.form
    obtain ⟨a5, c5', rfl⟩ := hPx.form
    refine c_skip ?_; refine x_seq ?_
    refine c_seq ?_; refine c_blk ?_; refine c_seq ?_; refine c_reg ?_
    refine fa rfl rfl (ld rfl (cell g1 rfl) rfl (mv rfl rfl (ixs rfl rfl (by omega) rfl (ldn rfl rfl hr2 rfl (alc nofun rfl (fun h3 n3 => ?_))))))
    have s3 : h3.size = g.size + 1 := n3.size
    have k_3 := kg.ext n3.ext
    have g1_3 := n3.ext.get g1
    have b5_3 := n3.at_
    refine stw rfl rfl rfl (ones rfl) b5_3 rfl nofun (fun h4 u4 => ?_)
    have s4 : h4.size = h3.size := u4.size
    have k_4 := k_3.upd u4 (by omega)
    have g1_4 := u4.ne g1_3 (by omega)
    have b5_4 := u4.at_
    refine o_nil ?_; refine x_seq ?_
    refine c_seq ?_; refine c_seq ?_; refine c_reg ?_; refine fa rfl rfl (ld rfl (cell b5_4 rfl) rfl (nei rfl rfl rfl ?_))
    refine o_nil ?_; refine x_seq ?_; refine c_cond rfl (fun c5 => ?_) (fun c5 => ?_)
    · refine c_exit ?_; refine x_seq_exit ?_; refine x_blk_hit ?_; refine x_seq ?_; refine c_reg ?_
      refine mv rfl rfl (add rfl rfl (by omega) rfl (asg rfl rfl ?_))
      refine o_nil ?_
      refine x_loop (i + 1, n, h4) ⟨k_4, g1_4, .inr hlt, by simp only; omega, by simp only; rw [if_neg c5] at hiff; exact hiff⟩ (by simp only; omega) ⟨rfl, rfl, rfl, trivial⟩ rfl
    · refine c_skip ?_; refine x_seq ?_
      refine c_seq ?_; refine c_seq ?_; refine c_reg ?_
      refine fa rfl rfl (ld rfl (cell b5_4 rfl) rfl (lti rfl rfl rfl (mv rfl rfl (gqf rfl rfl rfl (fun e => fa rfl rfl) (gqf rfl rfl rfl (fun e => ld (cg rfl e) (cell b5_4 rfl) rfl) ?_)))))
      refine gqf rfl rfl rfl (fun e => fa rfl rfl) (gqf rfl rfl rfl (fun e => ld (cg rfl e) (cell g1_4 rfl) rfl) (gqf rfl rfl rfl (fun e => eqs (cg rfl e) (cg rfl e) rfl) ?_))
      refine gqf rfl rfl rfl (fun e => mv (cg rfl e) rfl) (gqt2 rfl rfl rfl (fun e => fa rfl rfl) (gqt2 rfl rfl rfl (fun e => ld (cg rfl e) (cell b5_4 rfl) rfl) (gqt2 rfl rfl rfl (fun e => mv rfl rfl) ?_)))
      refine gqt2 rfl rfl rfl (fun e => nei (cg rfl e) (cg rfl e) rfl) (gqf rfl rfl rfl (fun e => pka (cg rfl e) (cg2 rfl e) rfl rfl) (pko rfl rfl rfl rfl ?_))
      refine o_nil ?_; refine x_seq ?_; refine c_cond rfl (fun c6 => ?_) (fun c6 => ?_)
      · refine c_seq ?_; refine c_reg ?_; refine asg rfl rfl ?_; refine o_nil ?_; refine x_seq ?_; refine c_ret ?_; refine x_seq_ret ?_
        refine x_blk_ret ?_; refine x_seq_ret ?_; refine x_loop_ret ?_; refine x_blk_ret ?_; refine x_seq_ret ?_; refine ret1 (.inr rfl) rfl rfl ?_
        refine ⟨congrArg Value.bool (tb_f (fun hs => ?_)).symm, (k_4).toExt⟩
        rw [← hiff, if_pos (Classical.not_not.1 c5)] at hs
        rcases c6 with c | ⟨c, d⟩
        · omega
        · exact d (hs.1.2 c)
      · have c5' : x.form = 9 := Classical.not_not.1 c5
        have d1 : 0 ≤ x.desc := by have := fun e => c6 (.inl e); omega
        have d2 : x.mod = f.name → x.desc = n := fun e => Classical.byContradiction fun e' => c6 (.inr ⟨e, e'⟩)
        rw [if_pos c5'] at hiff
        refine c_skip ?_; refine x_seq ?_; refine c_seq ?_; refine c_reg ?_
        refine fa rfl rfl (ld rfl (cell b5_4 rfl) rfl (fa rfl rfl (ld rfl (cell g1_4 rfl) rfl (eqs rfl rfl rfl ?_))))
        refine o_nil ?_; refine x_seq ?_; refine c_cond rfl (fun c7 => ?_) (fun c7 => ?_)
        · have hnq : (((i, n, g) : Nat × Nat × Heap).2.1 : Int) ≤ 9223372036854775806 := by simp only; omega
          refine c_reg ?_; refine mv rfl rfl (add rfl rfl (by omega) rfl (asg rfl rfl ?_))
          refine o_nil ?_; refine x_blk ?_; refine x_seq ?_; refine c_reg ?_; refine mv rfl rfl (add rfl rfl (by omega) rfl (asg rfl rfl ?_))
          refine o_nil ?_
          refine x_loop (i + 1, n + 1, h4) ⟨k_4, g1_4, .inr hlt, by simp only; omega, by simp only; rw [if_pos c7] at hiff; rw [← hiff, Int.natCast_succ]; exact ⟨fun e => ⟨⟨d1, d2⟩, e⟩, fun e => e.2⟩⟩ (by simp only; omega) ⟨rfl, rfl, rfl, trivial⟩ rfl
        · refine c_skip ?_; refine x_blk ?_; refine x_seq ?_; refine c_reg ?_; refine mv rfl rfl (add rfl rfl (by omega) rfl (asg rfl rfl ?_))
          refine o_nil ?_
          refine x_loop (i + 1, n, h4) ⟨k_4, g1_4, .inr hlt, by simp only; omega, by simp only; rw [if_neg c7] at hiff; rw [← hiff]; exact ⟨fun e => ⟨⟨d1, d2⟩, e⟩, fun e => e.2⟩⟩ (by simp only; omega) ⟨rfl, rfl, rfl, trivial⟩ rfl
  · have hz : f.types.drop i = [] := List.drop_of_length_le (by have := c2; simp only at this; omega)
    rw [hz] at hiff
    refine c_exit ?_; refine x_seq_exit ?_; refine x_loop_exit ?_; refine x_blk_hit ?_; refine x_seq ?_; refine c_seq ?_; refine c_reg ?_
    refine asg rfl rfl ?_; refine o_nil ?_; refine x_seq ?_; refine c_ret ?_; refine ret1 (.inr rfl) rfl rfl ?_
    exact ⟨congrArg Value.bool (tb_t (hiff.1 trivial)).symm, (kg).toExt⟩
theorem num_drop {f : Face} (h : ShapedP f) : numP f.name 0 (f.types.drop 7) ↔ numP f.name 0 f.types := by
  have h7 := h.1.2.2.2.1.1
  have hN := h.1.2.2.2.2.1
  have step : ∀ i, i ≤ 7 → (numP f.name 0 (f.types.drop 7) ↔ numP f.name 0 (f.types.drop (7 - i))) := by
    intro i
    induction i with
    | zero => exact fun _ => Iff.rfl
    | succ i ih =>
      intro hi
      have hx : f.types[7 - (i + 1)]? = some (f.types[7 - (i + 1)]'(by omega)) := List.getElem?_eq_getElem _
      have hb : BareP (f.types[7 - (i + 1)]'(by omega)) ((7 - (i + 1) : Nat) : Int) := by
        rcases hN _ _ hx with ⟨-, hb⟩ | ⟨e, -⟩
        · exact hb
        · omega
      have hf := bare_form hb
      rw [ih (by omega), drop_at hx, num_cons, if_neg (by omega), show 7 - (i + 1) + 1 = 7 - i by omega]
  exact step 7 (Nat.le_refl _)
theorem fgood_fn {h : Heap} {fv : Value} {f : Face} (hF : FaceV h.size h fv f) :
    Does Tryz.prog 34 [fv] h (fun v h' => v = .bool (tb (FGood f)) ∧ Ext h h') := by
  have hF0 := hF
  obtain ⟨vu, vt, vo, rfl, hn, hk, hU, hT, hO⟩ := hF
  have hT0 := hT
  obtain ⟨at0, ct0, rfl⟩ := SliceAt.form hT
  have htl := hT.1
  have hmx : maxLen = 9223372036854775807 := by decide
  have k0 : At h.size h h := At.refl (Nat.le_refl _)
  refine fn_enter (N := 42) Tryz.func34 (by kernel_rfl) rfl rfl rfl (fun w0 => ?_)
  refine c_seq ?_; refine c_reg ?_; refine bx rfl nofun rfl (fun h1 n1 => ?_)
  have s1 : h1.size = h.size + 1 := n1.size
  have k_1 := k0.ext n1.ext
  have b1_1 := n1.at_
  refine asg rfl rfl ?_; refine o_nil ?_; refine x_seq ?_; refine c_seq ?_; refine c_reg ?_; refine asg rfl rfl ?_; refine o_nil ?_; refine x_seq ?_
  refine c_seq ?_; refine c_seq ?_; refine c_reg ?_; refine fa rfl rfl (ld rfl (cell b1_1 rfl) rfl (lnl rfl rfl (mv rfl rfl ?_)))
  refine o_nil ?_; refine x_seq ?_; refine c_blk ?_
  refine c_loop (α := Nat × Nat × Heap) (fun s => [(1, ptr h.size 0), (3, i64 (s.2.1 : Nat)), (7, .slice at0 f.types.length ct0), (8, i64 (f.types.length : Nat)), (9, i64 (s.1 : Nat))]) (fun s => s.2.2)
    (fun s => At h.size h s.2.2 ∧ s.2.2[h.size]? = some (.cells #[str f.name, .int .u32 f.key, vu, .slice at0 f.types.length ct0, vo] 28 (0, 0)) ∧ s.1 ≤ f.types.length ∧ s.2.1 ≤ s.1 ∧ (numP f.name s.2.1 (f.types.drop s.1) ↔ numP f.name 0 f.types))
    (fun s => f.types.length - s.1) (0, 0, h1) ⟨k_1, b1_1, Nat.zero_le _, Nat.zero_le _, Iff.rfl⟩ ⟨rfl, rfl, rfl, rfl, rfl, trivial⟩ rfl (fun s hs => ?_)
  obtain ⟨i, n, g⟩ := s
  obtain ⟨kg, g1, hil, hni, hiff⟩ := hs
  simp only at kg g1 hil hni hiff
  have kgn := kg.n
  have g1l := lt_of_get g1
  change SC _ _ _ _ g
  refine c_seq ?_; refine c_reg ?_; refine lti rfl rfl rfl ?_; refine o_nil ?_; refine x_seq ?_
  refine c_seq ?_; refine c_cond rfl (fun c2 => ?_) (fun c2 => ?_)
  · have hlt : i < f.types.length := by have := c2; simp only at this; omega
    have hxi : f.types[i]? = some f.types[i] := List.getElem?_eq_getElem hlt
    obtain ⟨b2, o2, cs2, ha2, hb2, hl2, hr2, hR2⟩ := SliceAt.el hT0 kg hxi
    rw [drop_at hxi, num_cons] at hiff
    generalize f.types[i] = x at *
    subst ha2
    obtain ⟨hfit, vf, vp, rfl, hFx, hPx⟩ := hR2
    obtain ⟨a4, c4', rfl⟩ := hFx.form
    obtain ⟨a5, c5', rfl⟩ := hPx.form
    refine c_skip ?_; refine x_seq ?_
    refine c_seq ?_; refine c_blk ?_; refine c_seq ?_; refine c_reg ?_
    refine ixs rfl rfl (by omega) rfl (ldn rfl rfl hr2 rfl (alc nofun rfl (fun h3 n3 => ?_)))
    have s3 : h3.size = g.size + 1 := n3.size
    have k_3 := kg.ext n3.ext
    have g1_3 := n3.ext.get g1
    have b5_3 := n3.at_
    refine stw rfl rfl rfl (ones rfl) b5_3 rfl nofun (fun h4 u4 => ?_)
    have s4 : h4.size = h3.size := u4.size
    have k_4 := k_3.upd u4 (by omega)
    have g1_4 := u4.ne g1_3 (by omega)
    have b5_4 := u4.at_
    refine o_nil ?_; refine x_seq ?_
    refine c_seq ?_; refine c_seq ?_; refine c_reg ?_; refine fa rfl rfl (ld rfl (cell b5_4 rfl) rfl (nei rfl rfl rfl ?_))
    refine o_nil ?_; refine x_seq ?_; refine c_cond rfl (fun c5 => ?_) (fun c5 => ?_)
    · refine c_exit ?_; refine x_seq_exit ?_; refine x_blk_hit ?_; refine x_seq ?_; refine c_reg ?_; refine add rfl rfl (by omega) rfl (mv rfl rfl ?_)
      refine o_nil ?_
      refine x_loop (i + 1, n, h4) ⟨k_4, g1_4, hlt, by simp only; omega, by simp only; rw [if_neg c5] at hiff; exact hiff⟩ (by simp only; omega) ⟨rfl, rfl, rfl, rfl, rfl, trivial⟩ rfl
    · refine c_skip ?_; refine x_seq ?_
      refine c_seq ?_; refine c_seq ?_; refine c_reg ?_
      refine fa rfl rfl (ld rfl (cell b5_4 rfl) rfl (lti rfl rfl rfl (mv rfl rfl (gqf rfl rfl rfl (fun e => fa rfl rfl) (gqf rfl rfl rfl (fun e => ld (cg rfl e) (cell b5_4 rfl) rfl) ?_)))))
      refine gqf rfl rfl rfl (fun e => fa rfl rfl) (gqf rfl rfl rfl (fun e => ld (cg rfl e) (cell g1_4 rfl) rfl) (gqf rfl rfl rfl (fun e => eqs (cg rfl e) (cg rfl e) rfl) ?_))
      refine gqf rfl rfl rfl (fun e => mv (cg rfl e) rfl) (gqt2 rfl rfl rfl (fun e => fa rfl rfl) (gqt2 rfl rfl rfl (fun e => ld (cg rfl e) (cell b5_4 rfl) rfl) (gqt2 rfl rfl rfl (fun e => mv rfl rfl) ?_)))
      refine gqt2 rfl rfl rfl (fun e => nei (cg rfl e) (cg rfl e) rfl) (gqf rfl rfl rfl (fun e => pka (cg rfl e) (cg2 rfl e) rfl rfl) (pko rfl rfl rfl rfl ?_))
      refine o_nil ?_; refine x_seq ?_; refine c_cond rfl (fun c6 => ?_) (fun c6 => ?_)
      · refine c_seq ?_; refine c_reg ?_; refine asg rfl rfl ?_; refine o_nil ?_; refine x_seq ?_; refine c_ret ?_; refine x_seq_ret ?_
        refine x_blk_ret ?_; refine x_seq_ret ?_; refine x_loop_ret ?_; refine x_blk_ret ?_; refine x_seq_ret ?_; refine ret1 (.inr rfl) rfl rfl ?_
        refine ⟨congrArg Value.bool (tb_f (fun hs => ?_)).symm, (k_4).toExt⟩
        have hs := hs.2
        rw [← hiff, if_pos (Classical.not_not.1 c5)] at hs
        rcases c6 with c | ⟨c, d⟩
        · omega
        · exact d (hs.1.2 c)
      · have c5' : x.form = 9 := Classical.not_not.1 c5
        have d1 : 0 ≤ x.desc := by have := fun e => c6 (.inl e); omega
        have d2 : x.mod = f.name → x.desc = n := fun e => Classical.byContradiction fun e' => c6 (.inr ⟨e, e'⟩)
        rw [if_pos c5'] at hiff
        refine c_skip ?_; refine x_seq ?_; refine c_seq ?_; refine c_reg ?_
        refine fa rfl rfl (ld rfl (cell b5_4 rfl) rfl (fa rfl rfl (ld rfl (cell g1_4 rfl) rfl (eqs rfl rfl rfl ?_))))
        refine o_nil ?_; refine x_seq ?_; refine c_cond rfl (fun c7 => ?_) (fun c7 => ?_)
        · have hnq : (((i, n, g) : Nat × Nat × Heap).2.1 : Int) ≤ 9223372036854775806 := by simp only; omega
          refine c_reg ?_; refine mv rfl rfl (add rfl rfl (by omega) rfl (asg rfl rfl ?_))
          refine o_nil ?_; refine x_blk ?_; refine x_seq ?_; refine c_reg ?_; refine add rfl rfl (by omega) rfl (mv rfl rfl ?_)
          refine o_nil ?_
          refine x_loop (i + 1, n + 1, h4) ⟨k_4, g1_4, hlt, by simp only; omega, by simp only; rw [if_pos c7] at hiff; rw [← hiff, Int.natCast_succ]; exact ⟨fun e => ⟨⟨d1, d2⟩, e⟩, fun e => e.2⟩⟩ (by simp only; omega) ⟨rfl, rfl, rfl, rfl, rfl, trivial⟩ rfl
        · refine c_skip ?_; refine x_blk ?_; refine x_seq ?_; refine c_reg ?_; refine add rfl rfl (by omega) rfl (mv rfl rfl ?_)
          refine o_nil ?_
          refine x_loop (i + 1, n, h4) ⟨k_4, g1_4, hlt, by simp only; omega, by simp only; rw [if_neg c7] at hiff; rw [← hiff]; exact ⟨fun e => ⟨⟨d1, d2⟩, e⟩, fun e => e.2⟩⟩ (by simp only; omega) ⟨rfl, rfl, rfl, rfl, rfl, trivial⟩ rfl
  · have hi : i = f.types.length := by have := c2; simp only at this; omega
    subst hi
    rw [List.drop_length] at hiff
    have hNum := hiff.1 trivial
    refine c_exit ?_; refine x_seq_exit ?_; refine x_loop_exit ?_; refine x_blk_hit ?_; refine x_seq ?_; refine c_seq ?_; refine c_reg ?_
    refine ldn rfl rfl (row_blk g1) rfl (clE ((framed_fn (FaceV.keep hF0 (At.k kg) (At.n kg)))) rfl rfl (fun h8 x8 => ?_))
    have s8 : g.size ≤ h8.size := x8.size
    have k_8 := kg.ext x8
    have g1_8 := x8.get g1
    refine asg rfl rfl ?_; refine o_nil ?_; refine x_seq ?_; refine c_ret ?_; refine ret1 (.inr rfl) rfl rfl ?_
    exact ⟨vtb ⟨fun e => ⟨e.1, hNum⟩, fun e => ⟨e.1, e.imp⟩⟩, (k_8).toExt⟩
end
end Go.Proofs.YtgnkfegkdjfnjaaGreat
