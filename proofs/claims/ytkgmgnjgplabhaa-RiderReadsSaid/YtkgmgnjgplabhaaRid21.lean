/- The law RiderReads. No condition but what each theorem says. -/
import Derived.Test.YtkgmgnjgplabhaaRid20
namespace Go.Proofs.Ytkgmgnjgplabhaa
open Go Go.Eng

/-- both Readers stand alike -/
def RP (h0 h : Heap) (p q : Nat) (s : List UInt8) : Prop := (p ≠ q ∧ h0.size ≤ p ∧ h0.size ≤ q) ∧ Ext h0 h ∧ ∃ at_ bad, R h p s at_ bad ∧ RQ h q s at_ bad
theorem RP.two {h0 h h1 h2 : Heap} {p q : Nat} {s : List UInt8} {at_ : Nat} {bad : Bool} (np : h0.size ≤ p) (nq : h0.size ≤ q) (hpq : p ≠ q) (y : Ext h0 h) (a : RAfter h p s at_ bad h1) (b : QAfter h1 q s at_ bad h2) : RP h0 h2 p q s :=
  ⟨⟨hpq, np, nq⟩, over (over y a.2 (fun k hk => by have : k = p := hk
                                                   omega)) b.2 (fun k hk => by have : k = q := hk
                                                                               omega), at_, bad, a.1.mod b.2 hpq, b.1⟩
theorem RP.ext {h0 h h1 : Heap} {p q : Nat} {s : List UInt8} (a : RP h0 h p q s) (x : Ext h h1) : RP h0 h1 p q s := by
  obtain ⟨d, y, at_, bad, r, b⟩ := a
  exact ⟨d, y.trans x, at_, bad, r.mod x (fun e => e), b.mod x (fun e => e)⟩

set_option maxHeartbeats 800000 in
theorem get_fn2 {h0 h : Heap} {p q : Nat} {s : List UInt8} (a : RP h0 h p q s) (x : Item) :
    Does Try.prog 18 [ptr p 0, ptr q 0, itemV x] h (fun v h' => v = .bool true ∧ RP h0 h' p q s) := by
  obtain ⟨⟨hpq, np, nq⟩, y0, at_, bad, ra, rb⟩ := a
  have hqp : ¬ q = p := fun e => hpq e.symm
  have hpl := lt_of_get ra.blk
  have hql := lt_of_get rb.blk
  refine fn_enter (N := 73) Try.func18 (by kernel_rfl) rfl rfl rfl (fun w0 => ?_)
  refine c_seq ?_; refine c_reg ?_; refine bx rfl nofun rfl (fun h1 n1 => ?_)
  have b5 := n1.at_
  have a1 := ra.mod n1.ext (fun e => e)
  have q1 := rb.mod n1.ext (fun e => e)
  have y1 := y0.trans n1.ext
  refine asg rfl rfl ?_; refine o_nil ?_; refine x_seq ?_; refine c_seq ?_; refine c_reg ?_; refine asg rfl rfl ?_; refine o_nil ?_; refine x_seq ?_
  refine c_cut (α := Heap) (fun _ => [(0, ptr p 0), (1, ptr q 0), (7, .bool true)]) (fun h' => h') (fun h' => RP h0 h' p q s) ?_ ?_
  · refine c_seq ?_; refine c_reg ?_; refine fa rfl rfl (ld rfl (cell b5 rfl) rfl ?_)
    refine o_nil ?_; refine x_seq ?_; refine c_blk ?_; refine c_seq ?_; refine c_reg ?_; refine eqi rfl rfl rfl (asg rfl rfl ?_)
    refine o_nil ?_; refine x_seq ?_; refine c_cond rfl (fun c2 => ?_) (fun c2 => ?_)
    · refine c_reg ?_
      refine mv rfl rfl (cl (vs := [ptr p 0]) rfl (RByte_fn a1) rfl (fun v3 h3 r3 => ?_))
      obtain ⟨rfl, r3⟩ := r3
      have q3 := q1.mod r3.2 hqp
      refine mv rfl rfl (cl (vs := [ptr q 0]) rfl (QByteR_fn q3) rfl (fun v4 h4 r4 => ?_))
      obtain ⟨rfl, r4⟩ := r4
      refine eqi rfl rfl rfl (asg rfl rfl ?_)
      refine o_nil ?_; refine x_blk ?_
      exact x_cut h4 (RP.two np nq hpq y1 r3 r4) ⟨rfl, rfl, congrArg (fun b => some (Value.bool b)) (decide_eq_true rfl), trivial⟩ rfl
    · refine c_seq ?_
      refine c_reg ?_; refine eqi rfl rfl rfl (asg rfl rfl ?_)
      refine o_nil ?_; refine x_seq ?_; refine c_cond rfl (fun c3 => ?_) (fun c3 => ?_)
      · refine c_reg ?_
        refine mv rfl rfl (cl (vs := [ptr p 0]) rfl (RNum_fn a1) rfl (fun v3 h3 r3 => ?_))
        obtain ⟨rfl, r3⟩ := r3
        have q3 := q1.mod r3.2 hqp
        refine mv rfl rfl (cl (vs := [ptr q 0]) rfl (QNumR_fn q3) rfl (fun v4 h4 r4 => ?_))
        obtain ⟨rfl, r4⟩ := r4
        refine eqi rfl rfl rfl (asg rfl rfl ?_)
        refine o_nil ?_; refine x_blk ?_
        exact x_cut h4 (RP.two np nq hpq y1 r3 r4) ⟨rfl, rfl, congrArg (fun b => some (Value.bool b)) (decide_eq_true rfl), trivial⟩ rfl
      · refine c_seq ?_
        refine c_reg ?_; refine eqi rfl rfl rfl (asg rfl rfl ?_)
        refine o_nil ?_; refine x_seq ?_; refine c_cond rfl (fun c4 => ?_) (fun c4 => ?_)
        · refine c_reg ?_
          refine mv rfl rfl (cl (vs := [ptr p 0]) rfl (RWord_fn a1) rfl (fun v3 h3 r3 => ?_))
          obtain ⟨rfl, r3⟩ := r3
          have q3 := q1.mod r3.2 hqp
          refine mv rfl rfl (cl (vs := [ptr q 0]) rfl (QWordR_fn q3) rfl (fun v4 h4 r4 => ?_))
          obtain ⟨rfl, r4⟩ := r4
          refine eqi rfl rfl rfl (asg rfl rfl ?_)
          refine o_nil ?_; refine x_blk ?_
          exact x_cut h4 (RP.two np nq hpq y1 r3 r4) ⟨rfl, rfl, congrArg (fun b => some (Value.bool b)) (decide_eq_true rfl), trivial⟩ rfl
        · refine c_seq ?_
          refine c_reg ?_; refine eqi rfl rfl rfl (asg rfl rfl ?_)
          refine o_nil ?_; refine x_seq ?_; refine c_cond rfl (fun c5 => ?_) (fun c5 => ?_)
          · refine c_reg ?_
            refine mv rfl rfl (cl (vs := [ptr p 0]) rfl (RText_fn a1) rfl (fun v3 h3 r3 => ?_))
            obtain ⟨rfl, r3⟩ := r3
            have q3 := q1.mod r3.2 hqp
            refine mv rfl rfl (cl (vs := [ptr q 0]) rfl (QTextR_fn q3) rfl (fun v4 h4 r4 => ?_))
            obtain ⟨rfl, r4⟩ := r4
            refine eqs rfl rfl rfl (asg rfl rfl ?_)
            refine o_nil ?_; refine x_blk ?_
            exact x_cut h4 (RP.two np nq hpq y1 r3 r4) ⟨rfl, rfl, congrArg (fun b => some (Value.bool b)) (beq_self_eq_true _), trivial⟩ rfl
          · refine c_seq ?_
            refine c_reg ?_; refine eqi rfl rfl rfl (asg rfl rfl ?_)
            refine o_nil ?_; refine x_seq ?_; refine c_cond rfl (fun c6 => ?_) (fun c6 => ?_)
            · refine c_dreg (fun h' => cellAt h' h.size 1 = some (i64 x.n)) [0, 1, 2, 4, 5, 6, 3, 7, 8, 9] rfl (cell b5 rfl) (by kernel_rfl) ?_
              refine mv rfl rfl (fa rfl rfl (ldI rfl (fun _ hI => hI) rfl (mv rfl rfl (fa rfl rfl (ldI rfl (fun _ hI => hI) rfl (clI (vs := [ptr p 0, i64 x.n]) rfl (RRaw_fn a1 x.n) (fun _ _ r => r.2.2.cell (cell b5 rfl) (fun e => by have : h.size = p := e; omega)) rfl (fun v44 h44 r44 => ?_)))))))
              obtain ⟨rfl, r44⟩ := r44
              have b44 := r44.2.get b5 (fun e => by have : h.size = p := e; omega)
              have q44 := q1.mod r44.2 hqp
              refine clI (vs := [ptr q 0, i64 x.n]) rfl (QRaw_fn q44 x.n) (fun _ _ r => r.2.2.cell (cell b44 rfl) (fun e => by have : h.size = q := e; omega)) rfl (fun v45 h45 r45 => ?_)
              obtain ⟨rfl, r45⟩ := r45
              refine eqs rfl rfl rfl (asg rfl rfl ?_)
              refine o_nil ?_; refine x_blk ?_
              exact x_cut h45 (RP.two np nq hpq y1 r44 r45) ⟨rfl, rfl, congrArg (fun b => some (Value.bool b)) (beq_self_eq_true _), trivial⟩ rfl
            · refine c_skip ?_; refine x_blk ?_
              exact x_cut h1 ⟨⟨hpq, np, nq⟩, y1, at_, bad, a1, q1⟩ ⟨rfl, rfl, rfl, trivial⟩ rfl
  · intro h2 hx
    obtain ⟨-, y2, at2, bad2, a2, q2⟩ := hx
    have hb2 := q2.blk
    refine c_seq ?_
    refine c_dreg (· = h2) [0, 1, 2, 4, 5, 6, 7, 3, 8, 9, 10, 11, 13, 12, 14, 15, 16, 17, 18, 20, 19, 21, 22, 23, 24] rfl rfl (by kernel_rfl) ?_
    refine mv rfl rfl (mv rfl rfl ?_)
    refine ct 50 rfl rfl ?_
    refine gd rfl rfl (mv rfl rfl (gd rfl rfl (mv rfl rfl (gd rfl rfl (nck rfl rfl (gd rfl rfl (fa rfl rfl (gd rfl rfl (ldI rfl (fun _ hI => by subst hI; exact cell hb2 rfl) rfl (gd rfl rfl (clI (vs := [ptr p 0]) rfl (RAt_fn a2) (fun _ _ e => e.1) rfl (fun v6 h6 r6 => ?_))))))))))))
    obtain ⟨rfl, rfl⟩ := r6
    refine gd rfl rfl (eqi rfl rfl rfl (pkt rfl rfl rfl (mv rfl rfl ?_)))
    refine ct 59 rfl rfl ?_
    refine gd rfl rfl (mv rfl rfl (gd rfl rfl (mv rfl rfl (gd rfl rfl (clI (vs := [ptr p 0]) rfl (RBad_fn a2) (fun _ _ e => e.1) rfl (fun v8 h8 r8 => ?_))))))
    obtain ⟨rfl, rfl⟩ := r8
    refine gd rfl rfl (clI (vs := [ptr q 0]) rfl (QBad_fn q2) (fun _ _ e => e.1) rfl (fun v9 h9 r9 => ?_))
    obtain ⟨rfl, rfl⟩ := r9
    refine gd rfl rfl (eqb rfl rfl rfl (pkt rfl rfl rfl (mv rfl rfl ?_)))
    refine ct 66 rfl (by simp) ?_
    refine gd rfl rfl (mv rfl rfl (gd rfl rfl (mv rfl rfl (gd rfl rfl (clI (vs := [ptr p 0]) rfl (REnd_fn a2) (fun _ _ e => e.1) rfl (fun v59 h59 r59 => ?_))))))
    obtain ⟨rfl, rfl⟩ := r59
    refine gd rfl rfl (clI (vs := [ptr q 0]) rfl (QEnd_fn q2) (fun _ _ e => e.1) rfl (fun v60 h60 r60 => ?_))
    obtain ⟨rfl, rfl⟩ := r60
    refine gd rfl rfl (eqb rfl rfl rfl (pkt rfl rfl rfl (asg rfl rfl ?_)))
    refine o_nil ?_; refine x_seq ?_; refine c_ret ?_; refine ret1 (.inr rfl) rfl rfl ?_
    exact ⟨congrArg Value.bool (beq_self_eq_true _), ⟨hpq, np, nq⟩, y2, at2, bad2, a2, q2⟩

set_option maxHeartbeats 800000 in
theorem Reads_fn (s : List UInt8) (a : Option Addr) (xs : List Item) (c : Nat) (h : Heap) (hx : ItemsAt h a xs) :
    Does Try.prog 5 [str s, .slice a xs.length c] h (fun v h' => v = .bool true ∧ Ext h h') := by
  refine fn_enter (N := 38) Try.func5 (by kernel_rfl) rfl rfl rfl (fun w0 => ?_)
  refine c_seq ?_; refine c_reg ?_; refine asg rfl rfl ?_; refine o_nil ?_; refine x_seq ?_; refine c_seq ?_; refine c_seq ?_; refine c_reg ?_
  refine mv rfl rfl (lns rfl rfl (gti rfl rfl rfl ?_))
  refine o_nil ?_; refine x_seq ?_; refine c_cond rfl (fun c1 => ?_) (fun c1 => ?_)
  · refine c_seq ?_
    refine c_reg ?_; refine cl (vs := []) rfl (wakes_fn _) rfl (fun v2 h2 r2 => ?_)
    obtain ⟨rfl, x2⟩ := r2
    refine asg rfl rfl ?_; refine o_nil ?_; refine x_seq ?_; refine c_ret ?_; refine x_seq_ret ?_; refine ret1 (.inr rfl) rfl rfl ?_
    exact ⟨rfl, x2⟩
  · refine c_skip ?_
    refine x_seq ?_; refine c_seq ?_; refine c_reg ?_; refine mv rfl rfl (cl (vs := [str s]) rfl (Read_fn s (by omega) h) rfl (fun v3 h3 r3 => ?_))
    obtain ⟨rfl, a3, x3⟩ := r3
    refine mv rfl rfl (bld (vs := [(0, str s)]) (v := .agg #[str s, i64 0, .bool false]) rfl (fun _ => by kernel_rfl) rfl (bx rfl nofun rfl (fun h4 n4 => ?_)))
    have rp4 : RP h h4 h.size h3.size s := by
      have hs := x3.size
      have hp := lt_of_get a3.blk
      exact ⟨⟨by omega, by omega, hs⟩, x3.trans n4.ext, 0, false, a3.mod n4.ext (fun e => e), ⟨n4.at_, Nat.zero_le _, by omega⟩⟩
    generalize hp : h.size = p at *
    generalize hq : h3.size = q at *
    refine asg rfl rfl (asg rfl rfl ?_)
    refine o_nil ?_; refine x_seq ?_; refine c_seq ?_; refine c_seq ?_; refine c_reg ?_; refine mv rfl rfl (eqpn rfl rfl rfl ?_)
    refine o_nil ?_; refine x_seq ?_; refine c_f rfl (by simp) ?_; refine c_skip ?_; refine x_seq ?_; refine c_seq ?_; refine c_seq ?_; refine c_reg ?_
    refine asg rfl rfl ?_; refine o_nil ?_; refine x_seq ?_; refine c_blk ?_
    refine c_loop (α := Nat × Heap) (fun y => [(0, str s), (1, .slice a xs.length c), (5, ptr p 0), (6, ptr q 0), (7, i64 (y.1 : Nat))]) (fun y => y.2)
      (fun y => y.1 ≤ 200 ∧ y.1 ≤ xs.length ∧ RP h y.2 p q s) (fun y => xs.length - y.1) (0, h4) ⟨by simp, by simp, rp4⟩ ⟨rfl, rfl, rfl, rfl, rfl, trivial⟩ rfl (fun y hy => ?_)
    obtain ⟨i, h5⟩ := y
    obtain ⟨hi2, hi, rp5⟩ := hy
    simp only at hi2 hi rp5
    refine c_seq ?_
    refine c_cut (α := Unit) (fun _ => [(0, str s), (1, .slice a xs.length c), (5, ptr p 0), (6, ptr q 0), (7, i64 (i : Nat)), (26, .bool (decide (i < xs.length ∧ i < 200)))]) (fun _ => h5) (fun _ => True) ?_ ?_
    · refine c_reg ?_; refine mv rfl rfl (mv rfl rfl (lnl rfl rfl (lti rfl rfl rfl (mv rfl rfl ?_))))
      refine cs 23 rfl (fun c3 => ?_) (fun c3 => ?_)
      · have c3' : (i : Int) < xs.length := c3
        refine gd rfl rfl (mv rfl rfl (gd rfl rfl (lti rfl rfl rfl (pkt rfl rfl rfl ?_))))
        refine o_nil ?_
        refine x_cut () trivial ⟨rfl, rfl, rfl, rfl, rfl, ?_, trivial⟩ rfl
        have : ((i : Int) < 200) ↔ (i < xs.length ∧ i < 200) := by omega
        exact congrArg some (congrArg Value.bool (decide_eq_decide.2 this))
      · have c3' : ¬ (i : Int) < xs.length := c3
        refine gs rfl rfl rfl rfl (gs rfl rfl rfl rfl (pkf rfl rfl rfl ?_))
        refine o_nil ?_
        exact x_cut () trivial ⟨rfl, rfl, rfl, rfl, rfl, by rw [decide_eq_false (show ¬ (i < xs.length ∧ i < 200) from fun e => by omega)]; rfl, trivial⟩ rfl
    intro _ _
    refine c_cond rfl (fun c4 => ?_) (fun c4 => ?_)
    · obtain ⟨hil, hi200⟩ := c4
      have hgi : xs[i]? = some xs[i] := List.getElem?_eq_getElem hil
      generalize xs[i] = x at *
      obtain ⟨hn, b, o, rfl, hbs, k0, k1, k2⟩ := hx i x hgi
      have k0 := rp5.2.1.cell k0 (fun e => e)
      have k1 := rp5.2.1.cell k1 (fun e => e)
      have k2 := rp5.2.1.cell k2 (fun e => e)
      have row : Go.Eng.rowAt h5 b (o + i * 3) [i64 x.kind, i64 x.n, str x.text] := fun j v hv => by
        match j with
        | 0 => simp at hv; subst hv; exact k0
        | 1 => simp at hv; subst hv; exact k1
        | 2 => simp at hv; subst hv; exact k2
        | j + 3 => simp at hv
      refine c_skip ?_
      refine x_seq ?_; refine c_seq ?_; refine c_blk ?_; refine c_seq ?_; refine c_reg ?_
      refine mv rfl rfl (mv rfl rfl (mv rfl rfl (mv rfl rfl (ixs rfl rfl (by omega) rfl (ldn rfl rfl row rfl (cl (vs := [ptr p 0, ptr q 0, itemV x]) rfl (get_fn2 rp5 x) rfl (fun v7 h7 r7 => ?_)))))))
      obtain ⟨rfl, rp7⟩ := r7
      refine nt rfl rfl ?_; refine o_nil ?_; refine x_seq ?_; refine c_f rfl (by simp) ?_
      refine c_skip ?_
      refine x_blk ?_; refine x_seq ?_; refine c_reg ?_; refine mv rfl rfl (add rfl rfl (by omega) rfl (asg rfl rfl ?_))
      refine o_nil ?_
      exact x_loop (i + 1, h7) ⟨by simp only; omega, hil, rp7⟩ (by simp only; omega) ⟨rfl, rfl, rfl, rfl, rfl, trivial⟩ rfl
    · refine c_exit ?_
      refine x_seq_exit ?_; refine x_loop_exit ?_; refine x_blk_hit ?_; refine x_seq ?_; refine c_seq ?_; refine c_reg ?_
      refine cl (vs := []) rfl (wakes_fn _) rfl (fun v9 h9 r9 => ?_)
      obtain ⟨rfl, x9⟩ := r9
      refine asg rfl rfl ?_; refine o_nil ?_; refine x_seq ?_; refine c_ret ?_; refine ret1 (.inr rfl) rfl rfl ?_
      exact ⟨rfl, rp5.2.1.trans x9⟩
end Go.Proofs.Ytkgmgnjgplabhaa
