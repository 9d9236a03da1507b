/- Walks of the reference's Reader: Raw, Byte, Word, Text, Bad, End. The walk of the reference's Reader's Num. The walk of the reference's Reader's Text; the law RiderReads. No condition but what each theorem says. -/
import Derived.Test.YtgnkfegkdjfnjaaGreatRwb
namespace Go.Proofs.YtgnkfegkdjfnjaaGreat.R
/-! Walks of the reference's Reader: Raw, Byte, Word, Text, Bad, End. No condition but what each theorem says. -/
section
open Go Go.Eng

theorem ib_text : ∀ (t r : List UInt8), 0 ∉ t → Lib.indexByte (t ++ 0 :: r) 0 = t.length
  | [], r, _ => by simp [Lib.indexByte]
  | c :: t, r, h => by
    have hc : (c == 0) = false := by simp at h ⊢; exact fun e => h.1 e.symm
    have ih := ib_text t r (fun e => h (List.mem_cons_of_mem _ e))
    simp only [List.cons_append, Lib.indexByte, hc, Bool.false_eq_true, if_false, ih]
    have h1 : ¬ ((t.length : Int) == -1) = true := by simp
    rw [if_neg h1]; simp
/-- the reference's Reader lies at block q -/
structure RQ (h : Heap) (q : Nat) (s : List UInt8) (at_ : Nat) (bad : Bool) : Prop where
  blk : h[q]? = some (.cells #[str s, i64 at_, .bool bad] 62 (0, 0))
  le : at_ ≤ s.length
  len : s.length ≤ 1073741824
theorem RQ.mod {S : Nat → Prop} {h h' : Heap} {q : Nat} {s : List UInt8} {at_ : Nat} {bad : Bool} (r : RQ h q s at_ bad) (x : Mod S h h') (hp : ¬ S q) : RQ h' q s at_ bad := ⟨x.get r.blk hp, r.le, r.len⟩
def QAfter (h : Heap) (q : Nat) (s : List UInt8) (at_ : Nat) (bad : Bool) (h' : Heap) : Prop := RQ h' q s at_ bad ∧ Mod (· = q) h h'

theorem QRaw_fn {h : Heap} {q : Nat} {s : List UInt8} {at_ : Nat} {bad : Bool} (r : RQ h q s at_ bad) (n : Int) :
    Does Tryz.prog 50 [ptr q 0, i64 n] h (fun v h' => v = str (taken s at_ bad n) ∧ QAfter h q s (if canTake s at_ bad n then at_ + n.toNat else at_) (if canTake s at_ bad n then false else true) h') := by
  have hb := r.blk
  have hle := r.le
  have hlen := r.len
  refine fn_enter (N := 53) Tryz.func50 (by kernel_rfl) rfl rfl rfl (fun w0 => ?_)
  refine c_seq ?_; refine c_reg ?_; refine asg rfl rfl ?_; refine o_nil ?_; refine x_seq ?_; refine c_seq ?_
  refine c_cut (α := Unit) (fun _ => [(0, ptr q 0), (1, i64 n), (26, .bool (decide (¬ canTake s at_ bad n)))]) (fun _ => h) (fun _ => True) ?_ ?_
  · refine c_dreg (· = h) [0, 1, 2, 3, 4, 5, 6, 7, 8, 9, 10, 11, 12, 13, 14, 15, 16, 17, 18, 19, 20, 21] rfl rfl (by kernel_rfl) ?_
    refine mv rfl rfl (nck rfl rfl (fa rfl rfl (ldI rfl (fun _ hI => by subst hI; exact cell hb rfl) rfl (mv rfl rfl ?_))))
    refine cs 9 rfl (fun c1 => ?_) (fun c1 => ?_)
    · refine gs rfl rfl rfl rfl (gs rfl rfl rfl rfl (pkt rfl rfl rfl (mv rfl rfl (gs rfl rfl rfl rfl (gs rfl rfl rfl rfl (gs rfl rfl rfl rfl (gs rfl rfl rfl rfl (gs rfl rfl rfl rfl ?_))))))))
      refine gs rfl rfl rfl rfl (gs rfl rfl rfl rfl (gs rfl rfl rfl rfl (gs rfl rfl rfl rfl (gs rfl rfl rfl rfl (gs rfl rfl rfl rfl (gs rfl rfl rfl rfl (pkt rfl rfl rfl ?_)))))))
      refine o_nil ?_
      exact x_cut () trivial ⟨rfl, rfl, by rw [decide_eq_true (show ¬ canTake s at_ bad n from fun e => by have := e.1; rw [c1] at this; cases this)]; rfl, trivial⟩ rfl
    · have hbad : bad = false := by simpa using c1
      refine gd rfl rfl (mv rfl rfl (gd rfl rfl (lti rfl rfl rfl (pkf rfl rfl rfl (mv rfl rfl ?_)))))
      refine cs 13 rfl (fun c3 => ?_) (fun c3 => ?_)
      · refine gs rfl rfl rfl rfl (gs rfl rfl rfl rfl (gs rfl rfl rfl rfl (gs rfl rfl rfl rfl (gs rfl rfl rfl rfl (gs rfl rfl rfl rfl (gs rfl rfl rfl rfl (gs rfl rfl rfl rfl ?_)))))))
        refine gs rfl rfl rfl rfl (gs rfl rfl rfl rfl (gs rfl rfl rfl rfl (gs rfl rfl rfl rfl (pkt rfl rfl rfl ?_))))
        refine o_nil ?_
        exact x_cut () trivial ⟨rfl, rfl, by rw [decide_eq_true (show ¬ canTake s at_ bad n from fun e => by have := e.2.1; omega)]; rfl, trivial⟩ rfl
      · refine gd rfl rfl (mv rfl rfl (gd rfl rfl (mv rfl rfl (gd rfl rfl (nck rfl rfl (gd rfl rfl (fa rfl rfl (gd rfl rfl (ldI rfl (fun _ hI => by subst hI; exact cell hb rfl) rfl (gd rfl rfl (lns rfl rfl ?_)))))))))))
        refine gd rfl rfl (mv rfl rfl (gd rfl rfl (nck rfl rfl (gd rfl rfl (fa rfl rfl (gd rfl rfl (ldI rfl (fun _ hI => by subst hI; exact cell hb rfl) rfl (gd rfl rfl (sub rfl rfl (by omega) rfl ?_)))))))))
        refine gd rfl rfl (gti rfl rfl rfl (pkf rfl rfl rfl ?_))
        refine o_nil ?_
        refine x_cut () trivial ⟨rfl, rfl, ?_, trivial⟩ rfl
        have : (n > (s.length : Int) - at_) ↔ ¬ canTake s at_ bad n := by simp only [canTake, hbad, true_and]; omega
        exact congrArg some (congrArg Value.bool (decide_eq_decide.2 this))
  intro _ _
  refine c_cond rfl (fun c5 => ?_) (fun c5 => ?_)
  · rw [if_neg c5, if_neg c5, taken, if_neg c5]
    refine c_seq ?_; refine c_reg ?_
    refine mv rfl rfl (nck rfl rfl (fa rfl rfl (st rfl rfl rfl hb rfl nofun (fun h2 u2 => ?_))))
    refine o_nil ?_; refine x_seq ?_; refine c_seq ?_; refine c_reg ?_; refine asg rfl rfl ?_; refine o_nil ?_; refine x_seq ?_; refine c_ret ?_
    refine x_seq_ret ?_; refine ret1 (.inr rfl) rfl rfl ?_
    exact ⟨rfl, ⟨u2.at_, hle, hlen⟩, u2.mod⟩
  · have c6 := Classical.not_not.1 c5
    have c7 := c6.2
    rw [if_pos c6, if_pos c6, taken, if_pos c6]
    refine c_skip ?_
    refine x_seq ?_; refine c_seq ?_; refine c_reg ?_
    refine mv rfl rfl (nck rfl rfl (fa rfl rfl (ld rfl (cell hb rfl) rfl (mv rfl rfl (add rfl rfl (by omega) rfl (nck rfl rfl (fa rfl rfl (st rfl rfl rfl hb rfl nofun (fun h7 u7 => ?_)))))))))
    have hb7 := u7.at_
    refine o_nil ?_; refine x_seq ?_; refine c_seq ?_
    refine c_dreg (· = h7) [0, 1, 2, 3, 4, 5, 6, 7, 8, 9, 10, 11, 12, 13, 14, 15] rfl rfl (by kernel_rfl) ?_
    refine mv rfl rfl (nck rfl rfl (fa rfl rfl (ldI rfl (fun _ hI => by subst hI; exact cell hb7 rfl) rfl (mv rfl rfl (nck rfl rfl (fa rfl rfl (ldI rfl (fun _ hI => by subst hI; exact cell hb7 rfl) rfl (mv rfl rfl (sub rfl rfl (by omega) rfl ?_)))))))))
    refine mv rfl rfl (nck rfl rfl (fa rfl rfl (ldI rfl (fun _ hI => by subst hI; exact cell hb7 rfl) rfl (sls rfl rfl rfl (by omega) rfl (asg rfl rfl ?_)))))
    refine o_nil ?_; refine x_seq ?_; refine c_ret ?_; refine ret1 (.inr rfl) rfl rfl ?_
    have e1 : ((at_ : Int) + n - n).toNat = at_ := by omega
    have e2 : ((at_ : Int) + n).toNat - at_ = n.toNat := by omega
    rw [e1, e2]
    refine ⟨rfl, ⟨?_, by omega, hlen⟩, u7.mod⟩
    rw [hb7, c6.1]
    have e3 : (at_ : Int) + n = ((at_ + n.toNat : Nat) : Int) := by omega
    simp [e3]

theorem QByteR_fn {h : Heap} {q : Nat} {s : List UInt8} {at_ : Nat} {bad : Bool} (r : RQ h q s at_ bad) :
    Does Tryz.prog 53 [ptr q 0] h (fun v h' => v = i64 (rByte s at_ bad) ∧ QAfter h q s (if canTake s at_ bad 1 then at_ + 1 else at_) (if canTake s at_ bad 1 then false else true) h') := by
  refine fn_enter (N := 13) Tryz.func53 (by kernel_rfl) rfl rfl rfl (fun w0 => ?_)
  refine c_seq ?_; refine c_reg ?_; refine asg rfl rfl ?_; refine o_nil ?_; refine x_seq ?_; refine c_seq ?_; refine c_reg ?_
  refine mv rfl rfl (cl (vs := [ptr q 0, i64 1]) rfl (QRaw_fn r 1) rfl (fun v1 h1 r1 => ?_))
  obtain ⟨rfl, r1⟩ := r1
  have hb1 := r1.1.blk
  refine asg rfl rfl ?_; refine o_nil ?_; refine x_seq ?_; refine c_seq ?_; refine c_seq ?_; refine c_reg ?_
  refine mv rfl rfl (nck rfl rfl (fa rfl rfl (ld rfl (cell hb1 rfl) rfl ?_)))
  refine o_nil ?_; refine x_seq ?_; refine c_cond rfl (fun c2 => ?_) (fun c2 => ?_)
  · have c3 : ¬ canTake s at_ bad 1 := fun e => by rw [if_pos e] at c2; cases c2
    refine c_seq ?_
    refine c_reg ?_; refine asg rfl rfl ?_; refine o_nil ?_; refine x_seq ?_; refine c_ret ?_; refine x_seq_ret ?_; refine ret1 (.inr rfl) rfl rfl ?_
    exact ⟨by rw [rByte, if_neg c3], r1⟩
  · have c3 : canTake s at_ bad 1 := Classical.byContradiction fun e => by rw [if_neg e] at c2; exact c2 rfl
    obtain ⟨c, hc, ht⟩ := taken1 c3
    refine c_skip ?_
    refine x_seq ?_; refine c_seq ?_; refine c_reg ?_; refine mv rfl rfl (idx rfl rfl (by omega) (by rw [ht]; rfl) rfl (cvi rfl rfl (asg rfl rfl ?_)))
    refine o_nil ?_; refine x_seq ?_; refine c_ret ?_; refine ret1 (.inr rfl) rfl rfl ?_
    exact ⟨by rw [rByte, if_pos c3, hc, byte_wrap]; rfl, r1⟩

theorem QBad_fn {h : Heap} {q : Nat} {s : List UInt8} {at_ : Nat} {bad : Bool} (r : RQ h q s at_ bad) : Does Tryz.prog 27 [ptr q 0] h (fun v h' => h' = h ∧ v = .bool bad) := by
  have hb := r.blk
  refine fn_enter (N := 7) Tryz.func27 (by kernel_rfl) rfl rfl rfl (fun w0 => ?_)
  refine c_seq ?_; refine c_reg ?_; refine asg rfl rfl ?_; refine o_nil ?_; refine x_seq ?_; refine c_seq ?_; refine c_reg ?_
  refine mv rfl rfl (nck rfl rfl (fa rfl rfl (ld rfl (cell hb rfl) rfl (asg rfl rfl ?_))))
  refine o_nil ?_; refine x_seq ?_; refine c_ret ?_; refine ret1 (.inr rfl) rfl rfl ?_
  exact ⟨rfl, rfl⟩

theorem QEnd_fn {h : Heap} {q : Nat} {s : List UInt8} {at_ : Nat} {bad : Bool} (r : RQ h q s at_ bad) : Does Tryz.prog 30 [ptr q 0] h (fun v h' => h' = h ∧ v = .bool (decide (bad = false ∧ at_ = s.length))) := by
  have hb := r.blk
  refine fn_enter (N := 20) Tryz.func30 (by kernel_rfl) rfl rfl rfl (fun w0 => ?_)
  refine c_seq ?_; refine c_reg ?_; refine asg rfl rfl ?_; refine o_nil ?_; refine x_seq ?_; refine c_seq ?_
  refine c_dreg (· = h) [0, 1, 2, 3, 4, 5, 6, 7, 8, 9, 10, 11, 12, 13, 14, 15, 16, 17] rfl rfl (by kernel_rfl) ?_
  refine mv rfl rfl (nck rfl rfl (fa rfl rfl (ldI rfl (fun _ hI => by subst hI; exact cell hb rfl) rfl (nt rfl rfl (mv rfl rfl ?_)))))
  refine cs 8 rfl (fun c1 => ?_) (fun c1 => ?_)
  · refine gd rfl rfl (mv rfl rfl (gd rfl rfl (nck rfl rfl (gd rfl rfl (fa rfl rfl (gd rfl rfl (ldI rfl (fun _ hI => by subst hI; exact cell hb rfl) rfl (gd rfl rfl (mv rfl rfl (gd rfl rfl (nck rfl rfl ?_)))))))))))
    refine gd rfl rfl (fa rfl rfl (gd rfl rfl (ldI rfl (fun _ hI => by subst hI; exact cell hb rfl) rfl (gd rfl rfl (lns rfl rfl (gd rfl rfl (eqi rfl rfl rfl (pkt rfl rfl rfl (asg rfl rfl ?_)))))))))
    refine o_nil ?_; refine x_seq ?_; refine c_ret ?_; refine ret1 (.inr rfl) rfl rfl ?_
    refine ⟨rfl, ?_⟩
    have : bad = false := by simpa using c1
    subst this
    simp only [true_and]
    exact congrArg Value.bool (by rw [Bool.eq_iff_iff]; simp; omega)
  · refine gs rfl rfl rfl rfl (gs rfl rfl rfl rfl (gs rfl rfl rfl rfl (gs rfl rfl rfl rfl (gs rfl rfl rfl rfl (gs rfl rfl rfl rfl (gs rfl rfl rfl rfl (gs rfl rfl rfl rfl ?_)))))))
    refine gs rfl rfl rfl rfl (gs rfl rfl rfl rfl (pkf rfl rfl rfl (asg rfl rfl ?_)))
    refine o_nil ?_; refine x_seq ?_; refine c_ret ?_; refine ret1 (.inr rfl) rfl rfl ?_
    exact ⟨rfl, vbf (fun e => c1 (by rw [e.1]; simp))⟩

/-- the word of the last i of four bytes -/
def wordr (l : List UInt8) (i : Nat) : Int := match l with
  | [a, b, c, d] => if i = 0 then 0 else if i = 1 then (d.toNat : Int) else if i = 2 then (d.toNat : Int) * 256 + c.toNat else if i = 3 then ((d.toNat : Int) * 256 + c.toNat) * 256 + b.toNat else (((d.toNat : Int) * 256 + c.toNat) * 256 + b.toNat) * 256 + a.toNat
  | _ => 0
theorem QWordR_fn {h : Heap} {q : Nat} {s : List UInt8} {at_ : Nat} {bad : Bool} (r : RQ h q s at_ bad) :
    Does Tryz.prog 25 [ptr q 0] h (fun v h' => v = .int .u32 (rWord s at_ bad) ∧ QAfter h q s (if canTake s at_ bad 4 then at_ + 4 else at_) (if canTake s at_ bad 4 then false else true) h') := by
  refine fn_enter (N := 24) Tryz.func25 (by kernel_rfl) rfl rfl rfl (fun w0 => ?_)
  refine c_seq ?_; refine c_reg ?_; refine asg rfl rfl ?_; refine o_nil ?_; refine x_seq ?_; refine c_seq ?_; refine c_reg ?_
  refine mv rfl rfl (cl (vs := [ptr q 0, i64 4]) rfl (QRaw_fn r 4) rfl (fun v1 h1 r1 => ?_))
  obtain ⟨rfl, r1⟩ := r1
  have hb1 := r1.1.blk
  refine asg rfl rfl ?_; refine o_nil ?_; refine x_seq ?_; refine c_seq ?_; refine c_seq ?_; refine c_reg ?_
  refine mv rfl rfl (nck rfl rfl (fa rfl rfl (ld rfl (cell hb1 rfl) rfl ?_)))
  refine o_nil ?_; refine x_seq ?_; refine c_cond rfl (fun c2 => ?_) (fun c2 => ?_)
  · have c3 : ¬ canTake s at_ bad 4 := fun e => by rw [if_pos e] at c2; cases c2
    refine c_seq ?_
    refine c_reg ?_; refine asg rfl rfl ?_; refine o_nil ?_; refine x_seq ?_; refine c_ret ?_; refine x_seq_ret ?_; refine ret1 (.inr rfl) rfl rfl ?_
    exact ⟨by rw [rWord, if_neg c3], r1⟩
  · have c3 : canTake s at_ bad 4 := Classical.byContradiction fun e => by rw [if_neg e] at c2; exact c2 rfl
    obtain ⟨a, b, c, d, ht⟩ := taken4 c3
    have ha := a.toNat_lt
    have hb := b.toNat_lt
    have hc := c.toNat_lt
    have hd := d.toNat_lt
    rw [ht]
    refine c_skip ?_
    refine x_seq ?_; refine c_seq ?_; refine c_reg ?_; refine asg rfl rfl ?_; refine o_nil ?_; refine x_seq ?_; refine c_seq ?_; refine c_seq ?_
    refine c_reg ?_; refine asg rfl rfl ?_; refine o_nil ?_; refine x_seq ?_; refine c_blk ?_
    refine c_loop (α := Nat) (fun i => [(0, ptr q 0), (3, str [a, b, c, d]), (4, .int .u32 (wordr [a, b, c, d] i)), (5, i64 (3 - (i : Nat)))]) (fun _ => h1) (fun i => i ≤ 4) (fun i => 4 - i) 0 (by omega) ⟨rfl, rfl, rfl, rfl, trivial⟩ rfl (fun i hi => ?_)
    refine c_seq ?_; refine c_seq ?_; refine c_reg ?_; refine mv rfl rfl (gei rfl rfl rfl ?_)
    refine o_nil ?_; refine x_seq ?_; refine c_cond rfl (fun c3 => ?_) (fun c3 => ?_)
    · have hi4 : i < 4 := by omega
      refine c_skip ?_
      refine x_seq ?_; refine c_seq ?_; refine c_blk ?_; refine c_reg ?_
      have hg : ∃ y : UInt8, [a, b, c, d][(3 - (i : Int)).toNat]? = some y ∧ IntKind.u32.wrap (IntKind.u32.wrap (wordr [a, b, c, d] i * 256) + IntKind.u32.wrap (y.toNat : Int)) = wordr [a, b, c, d] (i + 1) := by
        clear hi c3
        match i, hi4 with
        | 0, _ => exact ⟨d, rfl, by simp [wordr, IntKind.wrap_u32]; omega⟩
        | 1, _ => exact ⟨c, rfl, by simp [wordr, IntKind.wrap_u32]; omega⟩
        | 2, _ => exact ⟨b, rfl, by simp [wordr, IntKind.wrap_u32]; omega⟩
        | 3, _ => exact ⟨a, rfl, by simp [wordr, IntKind.wrap_u32]; omega⟩
      obtain ⟨y, hg, hy⟩ := hg
      refine mv rfl rfl (mulw rfl rfl rfl (mv rfl rfl (mv rfl rfl (idx rfl rfl (by omega) hg rfl (cvi rfl rfl (addw rfl rfl rfl (rv 22 rfl (vi hy) (asg rfl rfl ?_))))))))
      refine o_nil ?_; refine x_blk ?_; refine x_seq ?_; refine c_reg ?_; refine mv rfl rfl (sub rfl rfl (by omega) rfl (rv 15 rfl (vi (show (3 - (i : Int) - 1) = 3 - ((i + 1 : Nat) : Int) from by omega)) (asg rfl rfl ?_)))
      refine o_nil ?_
      exact x_loop (i + 1) hi4 (by omega) ⟨rfl, rfl, rfl, rfl, trivial⟩ rfl
    · have hi4 : i = 4 := by omega
      subst hi4
      refine c_exit ?_
      refine x_seq_exit ?_; refine x_loop_exit ?_; refine x_blk_hit ?_; refine x_seq ?_; refine c_seq ?_; refine c_reg ?_
      refine mv rfl rfl (asg rfl rfl ?_)
      refine o_nil ?_; refine x_seq ?_; refine c_ret ?_; refine ret1 (.inr rfl) rfl rfl ?_
      refine ⟨?_, r1⟩
      rw [rWord, if_pos ‹canTake s at_ bad 4›, ht]
      exact vi (by simp [wordr, wordv]; omega)
end

/-! The walk of the reference's Reader's Num. No condition but what the theorem says. -/
section
open Go Go.Eng

theorem mod_more {S : Nat → Prop} {h h1 h2 : Heap} {q : Nat} (a : Mod (· = q) h h1) (b : Mod S h1 h2) (hS : ∀ k, S k → k = q ∨ h1.size ≤ k) : Mod (· = q) h h2 :=
  ⟨Nat.le_trans a.size b.size, fun k hk hn => (b.same k (Nat.lt_of_lt_of_le hk a.size) (fun e => (hS k e).elim hn (fun e => by have := a.size; omega))).trans (a.same k hk hn)⟩

set_option maxHeartbeats 1600000 in
theorem QNumR_fn {h : Heap} {q : Nat} {s : List UInt8} {at_ : Nat} {bad : Bool} (r : RQ h q s at_ bad) :
    Does Tryz.prog 51 [ptr q 0] h (fun v h' => v = i64 (((rNum s at_ bad).map (·.1)).getD 0) ∧ QAfter h q s (((rNum s at_ bad).map (fun x => at_ + x.2)).getD at_) (rNum s at_ bad).isNone h') := by
  have hb := r.blk
  have hle := r.le
  have hlen := r.len
  refine fn_enter (N := 72) Tryz.func51 (by kernel_rfl) rfl rfl rfl (fun w0 => ?_)
  refine c_seq ?_; refine c_reg ?_; refine asg rfl rfl ?_; refine o_nil ?_; refine x_seq ?_; refine c_seq ?_; refine c_reg ?_
  refine mv rfl rfl (nck rfl rfl (fa rfl rfl (ld rfl (cell hb rfl) rfl (asg rfl rfl ?_))))
  refine o_nil ?_; refine x_seq ?_; refine c_seq ?_; refine c_reg ?_; refine asg rfl rfl (asg rfl rfl ?_)
  refine o_nil ?_; refine x_seq ?_; refine c_seq ?_; refine c_reg ?_; refine asg rfl rfl ?_; refine o_nil ?_; refine x_seq ?_
  refine c_cut (α := Heap) (fun _ => [(0, ptr q 0), (3, i64 (at_ : Nat))]) (fun h' => h') (fun h' => rNum s at_ bad = none ∧ ∃ p2 b2, QAfter h q s p2 b2 h') ?_ ?_
  · refine c_blk ?_
    refine c_loop (α := Nat × Int × Int × Nat × Bool × Heap) (fun y => [(0, ptr q 0), (3, i64 (at_ : Nat)), (4, i64 y.2.1), (5, i64 (y.1 : Nat)), (6, i64 y.2.2.1)]) (fun y => y.2.2.2.2.2)
      (fun y => QAfter h q s y.2.2.2.1 y.2.2.2.2.1 y.2.2.2.2.2 ∧ y.1 ≤ 5 ∧ ((y.1 = 5 ∨ y.2.2.2.2.1 = true) ∧ rNum s at_ bad = none ∨
        y.2.2.2.2.1 = false ∧ y.2.2.2.1 = at_ + y.1 ∧ ∃ acc : Nat, y.2.1 = (acc : Int) ∧ acc < 2 ^ (7 * y.1) ∧ y.2.2.1 = ((2 ^ (7 * y.1) : Nat) : Int) ∧ rn (5 - y.1) y.1 acc (s.drop (at_ + y.1)) = rNum s at_ bad))
      (fun y => 5 - y.1) (0, 0, 1, at_, bad, h) ⟨⟨r, Mod.refl _ _⟩, by simp, ?_⟩ ⟨rfl, rfl, rfl, rfl, rfl, trivial⟩ rfl (fun y hy => ?_)
    · cases bad with
      | true => exact .inl ⟨.inr rfl, by rw [rNum, if_pos rfl]⟩
      | false => exact .inr ⟨rfl, rfl, 0, rfl, by simp, by simp, by rw [rNum, if_neg (by simp)]; rfl⟩
    obtain ⟨k, n, sc, pos, bd, h1⟩ := y
    obtain ⟨⟨rq, md⟩, hk5, hmode⟩ := hy
    simp only at rq md hk5 hmode
    have hb1 := rq.blk
    refine c_seq ?_
    refine c_cut (α := Unit) (fun _ => [(0, ptr q 0), (3, i64 (at_ : Nat)), (4, i64 n), (5, i64 (k : Nat)), (6, i64 sc), (21, .bool (decide (k < 5 ∧ bd = false)))]) (fun _ => h1) (fun _ => True) ?_ ?_
    · refine c_reg ?_; refine mv rfl rfl (lti rfl rfl rfl (mv rfl rfl ?_))
      refine cs 15 rfl (fun c1 => ?_) (fun c1 => ?_)
      · have c1' : (k : Int) < 5 := c1
        refine gd rfl rfl (mv rfl rfl (gd rfl rfl (nck rfl rfl (gd rfl rfl (fa rfl rfl (gd rfl rfl (ld rfl (cell hb1 rfl) rfl (gd rfl rfl (nt rfl rfl (pkt rfl rfl rfl ?_))))))))))
        refine o_nil ?_
        refine x_cut () trivial ⟨rfl, rfl, rfl, rfl, rfl, ?_, trivial⟩ rfl
        refine congrArg some (congrArg Value.bool ?_)
        rw [Bool.eq_iff_iff]; simp; omega
      · have c1' : ¬ (k : Int) < 5 := c1
        refine gs rfl rfl rfl rfl (gs rfl rfl rfl rfl (gs rfl rfl rfl rfl (gs rfl rfl rfl rfl (gs rfl rfl rfl rfl (pkf rfl rfl rfl ?_)))))
        refine o_nil ?_
        exact x_cut () trivial ⟨rfl, rfl, rfl, rfl, rfl, by rw [decide_eq_false (show ¬ (k < 5 ∧ bd = false) from fun e => by omega)]; rfl, trivial⟩ rfl
    intro _ _
    refine c_cond rfl (fun c1 => ?_) (fun c1 => ?_)
    · obtain ⟨hk, rfl⟩ := c1
      obtain ⟨-, rfl, acc, rfl, hacc, rfl, hrn⟩ : false = false ∧ pos = at_ + k ∧ ∃ acc : Nat, n = (acc : Int) ∧ acc < 2 ^ (7 * k) ∧ sc = ((2 ^ (7 * k) : Nat) : Int) ∧ rn (5 - k) k acc (s.drop (at_ + k)) = rNum s at_ bad := by
        rcases hmode with ⟨h1 | h1, -⟩ | h2
        · omega
        · cases h1
        · exact h2
      have hle1 := rq.le
      have p35 : 2 ^ (7 * (k + 1)) ≤ 2 ^ 35 := Nat.pow_le_pow_right (by omega) (by omega)
      have p7 : 2 ^ (7 * (k + 1)) = 128 * 2 ^ (7 * k) := by rw [Nat.mul_add, Nat.pow_add]; omega
      refine c_skip ?_; refine x_seq ?_; refine c_blk ?_; refine c_seq ?_; refine c_reg ?_
      refine mv rfl rfl (cl (vs := [ptr q 0]) rfl (QByteR_fn rq) rfl (fun v2 h2 r2 => ?_))
      obtain ⟨rfl, r2⟩ := r2
      have md2 := mod_more md r2.2 (fun _ e => .inl e)
      refine asg rfl rfl ?_; refine o_nil ?_; refine x_seq ?_; refine c_seq ?_; refine c_reg ?_
      refine mv rfl rfl (add rfl rfl (by omega) rfl (asg rfl rfl ?_))
      refine o_nil ?_; refine x_seq ?_; refine c_seq ?_; refine c_reg ?_
      by_cases ht : canTake s (at_ + k) false 1
      · rw [if_pos ht, if_pos ht] at r2
        have hb2 := r2.1.blk
        have htl := ht.2.2
        have hlt : at_ + k < s.length := by omega
        have hgk : s[at_ + k]? = some s[at_ + k] := List.getElem?_eq_getElem hlt
        have hdrop : s.drop (at_ + k) = s[at_ + k] :: s.drop (at_ + k + 1) := List.drop_eq_getElem_cons hlt
        rw [hdrop, show 5 - k = (4 - k) + 1 by omega, rn] at hrn
        rw [rByte, if_pos ht, hgk]
        simp only [Option.getD_some]
        generalize s[at_ + k] = c at *
        have hc256 := c.toNat_lt
        have hal := acc_lt hacc c.toNat
        have hm : ((c.toNat : Int).tmod 128) = ((c.toNat % 128 : Nat) : Int) := by rw [Int.tmod_eq_emod_of_nonneg (by omega)]; omega
        have hmul : ((c.toNat % 128 : Nat) : Int) * ((2 ^ (7 * k) : Nat) : Int) = ((c.toNat % 128 * 2 ^ (7 * k) : Nat) : Int) := by push_cast; rfl
        refine mv rfl rfl (mv rfl rfl (rem rfl rfl (by decide) rfl (rv 28 rfl (vi hm) (mv rfl rfl (mul rfl rfl (by rw [hmul]; omega) rfl (rv 30 rfl (vi hmul) (add rfl rfl (by omega) rfl (rv 31 rfl (vi (show (acc : Int) + ((c.toNat % 128 * 2 ^ (7 * k) : Nat) : Int) = ((acc + c.toNat % 128 * 2 ^ (7 * k) : Nat) : Int) from by omega)) (asg rfl rfl ?_)))))))))
        generalize acc + c.toNat % 128 * 2 ^ (7 * k) = acc2 at *
        refine o_nil ?_; refine x_seq ?_; refine c_seq ?_; refine c_reg ?_; refine mv rfl rfl (mul rfl rfl (by omega) rfl (rv 33 rfl (vi (show ((2 ^ (7 * k) : Nat) : Int) * 128 = ((2 ^ (7 * (k + 1)) : Nat) : Int) from by omega)) (asg rfl rfl ?_)))
        refine o_nil ?_; refine x_seq ?_; refine c_seq ?_; refine c_reg ?_; refine mv rfl rfl (lti rfl rfl rfl ?_)
        refine o_nil ?_; refine x_seq ?_; refine c_cond rfl (fun c2 => ?_) (fun c2 => ?_)
        · rw [if_neg (by omega)] at hrn
          simp only at hrn
          have hn : ∃ n : Int, n = (if 64 ≤ c.toNat then ((acc2 : Nat) : Int) - ((2 ^ (7 * (k + 1)) : Nat) : Int) else ((acc2 : Nat) : Int)) := ⟨_, rfl⟩
          obtain ⟨n, hn⟩ := hn
          rw [← hn] at hrn
          have hnb : -34359738368 ≤ n ∧ n ≤ 34359738368 := by rw [hn]; split <;> omega
          refine c_cut (α := Unit) (fun _ => [(0, ptr q 0), (3, i64 (at_ : Nat)), (4, i64 n), (5, i64 ((k + 1 : Nat) : Int)), (6, i64 ((2 ^ (7 * (k + 1)) : Nat) : Int))]) (fun _ => h2) (fun _ => True) ?_ ?_
          · refine c_seq ?_; refine c_reg ?_; refine mv rfl rfl (gei rfl rfl rfl ?_)
            refine o_nil ?_; refine x_seq ?_; refine c_cond rfl (fun c3 => ?_) (fun c3 => ?_)
            · refine c_reg ?_
              refine mv rfl rfl (mv rfl rfl (sub rfl rfl (by omega) rfl (asg rfl rfl ?_)))
              refine o_nil ?_
              exact x_cut () trivial ⟨rfl, rfl, by rw [hn, if_pos (by omega)]; rfl, rfl, rfl, trivial⟩ rfl
            · refine c_skip ?_
              exact x_cut () trivial ⟨rfl, rfl, by rw [hn, if_neg (by omega)]; rfl, rfl, rfl, trivial⟩ rfl
          intro _ _
          refine c_seq ?_; refine c_reg ?_
          refine bld (vs := []) (v := .agg #[.slice none 0 0, .bool false]) rfl (fun _ => by kernel_rfl) rfl (bx rfl nofun rfl (fun h4 n4 => ?_))
          have q4 : Q h4 h2.size (.slice none 0 0) [] false := ⟨n4.at_, Owns.nil _ _ _, by simp [ownB, Value.ownBlock]⟩
          have hb4 := n4.ext.get hb2
          refine asg rfl rfl ?_; refine o_nil ?_; refine x_seq ?_; refine c_seq ?_; refine c_reg ?_
          refine mv rfl rfl (mv rfl rfl (cl (vs := [ptr h2.size 0, i64 n]) rfl (QNum_fn q4 (by simp) n) rfl (fun v5 h5 r5 => ?_)))
          obtain ⟨rfl, vq5, q5, s5⟩ := r5
          have hqs := lt_of_get hb2
          have hb5 := s5.mod.get hb4 (fun e => e.elim (fun e => by omega) (fun e => by simp [ownB, Value.ownBlock] at e))
          have md5 : Mod (· = q) h2 h5 := by
            refine ⟨Nat.le_trans n4.ext.size s5.mod.size, fun j hj hne => (s5.mod.same j (by have := n4.ext.size; omega) (fun e => e.elim (fun e => by omega) (fun e => by simp [ownB, Value.ownBlock] at e))).trans (n4.ext.same j hj (fun e => e))⟩
          have rq5 : RQ h5 q s (at_ + k + 1) false := ⟨hb5, by omega, hlen⟩
          refine o_nil ?_; refine x_seq ?_; refine c_seq ?_; refine c_seq ?_; refine c_reg ?_
          refine mv rfl rfl (nck rfl rfl (fa rfl rfl (ld rfl (cell hb5 rfl) rfl (nt rfl rfl (mv rfl rfl ?_)))))
          refine ct 51 rfl (by simp) ?_
          refine gd rfl rfl (mv rfl rfl (gd rfl rfl (cl (vs := [i64 n, i64 32]) rfl (rfits_fn n h5) rfl (fun v7 h7 r7 => ?_))))
          obtain ⟨rfl, rfl⟩ := r7
          refine pkt rfl rfl rfl (mv rfl rfl ?_)
          refine cs 55 rfl (fun c8 => ?_) (fun c8 => ?_)
          · have c8' : fit32 n := c8
            rw [if_pos c8', if_pos c8', List.nil_append] at q5
            obtain ⟨av, cv, hv⟩ := q5.own.form
            have hbq := q5.blk
            refine gd rfl rfl (mv rfl rfl (gd rfl rfl (nck rfl rfl (gd rfl rfl (fa rfl rfl (gd rfl rfl (ld rfl (cell hbq rfl) rfl (gd rfl rfl (lnl (n := (compact n).length) (c := cv) (a0 := av) (congrArg some hv) rfl (gd rfl rfl (mv rfl rfl ?_)))))))))))
            refine gd rfl rfl (eqi rfl rfl rfl (pkt rfl rfl rfl ?_))
            refine o_nil ?_; refine x_seq ?_; refine c_cond rfl (fun c9 => ?_) (fun c9 => ?_)
            · have c9' : ((compact n).length : Int) = (k + 1 : Nat) := c9
              rw [if_pos ⟨c8', by omega⟩] at hrn
              refine c_seq ?_
              refine c_reg ?_; refine mv rfl rfl (asg rfl rfl ?_)
              refine o_nil ?_; refine x_seq ?_; refine c_ret ?_; refine x_seq_ret ?_; refine x_blk_ret ?_; refine x_loop_ret ?_; refine x_blk_ret ?_
              refine x_cut_ret ?_; refine ret1 (.inr rfl) rfl rfl ?_
              rw [← hrn]
              exact ⟨rfl, rq5, mod_more md2 md5 (fun _ e => .inl e)⟩
            · have c9' : ¬ ((compact n).length : Int) = (k + 1 : Nat) := c9
              rw [if_neg (fun e => c9' (by omega))] at hrn
              refine c_skip ?_
              refine x_seq ?_; refine c_reg ?_; refine asg rfl rfl ?_; refine o_nil ?_; refine x_blk ?_
              exact x_loop (5, n, ((2 ^ (7 * (k + 1)) : Nat) : Int), at_ + k + 1, false, h7) ⟨⟨rq5, mod_more md2 md5 (fun _ e => .inl e)⟩, by simp, .inl ⟨.inl rfl, hrn.symm⟩⟩ (by simp only; omega) ⟨rfl, rfl, rfl, rfl, rfl, trivial⟩ rfl
          · rw [if_neg (fun e => c8 e.1)] at hrn
            refine gs rfl rfl rfl rfl (gs rfl rfl rfl rfl (gs rfl rfl rfl rfl (gs rfl rfl rfl rfl (gs rfl rfl rfl rfl (gs rfl rfl rfl rfl (gs rfl rfl rfl rfl (pkf rfl rfl rfl ?_)))))))
            refine o_nil ?_; refine x_seq ?_; refine c_f rfl (by simp) ?_; refine c_skip ?_; refine x_seq ?_; refine c_reg ?_; refine asg rfl rfl ?_
            refine o_nil ?_; refine x_blk ?_
            exact x_loop (5, n, ((2 ^ (7 * (k + 1)) : Nat) : Int), at_ + k + 1, false, h7) ⟨⟨rq5, mod_more md2 md5 (fun _ e => .inl e)⟩, by simp, .inl ⟨.inl rfl, hrn.symm⟩⟩ (by simp only; omega) ⟨rfl, rfl, rfl, rfl, rfl, trivial⟩ rfl
        · rw [if_pos (by omega)] at hrn
          refine c_skip ?_; refine x_blk ?_
          refine x_loop (k + 1, ((acc2 : Nat) : Int), ((2 ^ (7 * (k + 1)) : Nat) : Int), at_ + k + 1, false, h2) ⟨⟨r2.1, md2⟩, by simp only; omega, .inr ⟨rfl, by simp only; omega, acc2, rfl, hal, rfl, ?_⟩⟩ (by simp only; omega) ⟨rfl, rfl, rfl, rfl, rfl, trivial⟩ rfl
          simp only
          rw [← hrn]; congr 1; omega
      · rw [if_neg ht, if_neg ht] at r2
        have hb2 := r2.1.blk
        have hdrop : s.drop (at_ + k) = [] := by
          apply List.drop_of_length_le
          have : ¬ (false = false ∧ (0 : Int) ≤ 1 ∧ (1 : Int) ≤ (s.length : Int) - ((at_ + k : Nat) : Int)) := ht
          simp only [true_and] at this; omega
        rw [hdrop, show 5 - k = (4 - k) + 1 by omega, rn] at hrn
        rw [rByte, if_neg ht]
        refine mv rfl rfl (mv rfl rfl (rem rfl rfl (by decide) rfl (rv 28 rfl (vi (show (0 : Int).tmod 128 = 0 from by decide)) (mv rfl rfl (mul rfl rfl (by rw [Int.zero_mul]; omega) rfl (rv 30 rfl (vi (Int.zero_mul _)) (add rfl rfl (by omega) rfl (asg rfl rfl ?_))))))))
        refine o_nil ?_; refine x_seq ?_; refine c_seq ?_; refine c_reg ?_; refine mv rfl rfl (mul rfl rfl (by omega) rfl (asg rfl rfl ?_))
        refine o_nil ?_; refine x_seq ?_; refine c_seq ?_; refine c_reg ?_; refine mv rfl rfl (lti rfl rfl rfl ?_)
        refine o_nil ?_; refine x_seq ?_; refine c_t rfl (by omega) ?_
        refine c_seq ?_; refine c_seq ?_; refine c_reg ?_; refine mv rfl rfl (gei rfl rfl rfl ?_)
        refine o_nil ?_; refine x_seq ?_; refine c_f rfl (by omega) ?_
        refine c_skip ?_
        refine x_seq ?_; refine c_seq ?_; refine c_reg ?_
        refine bld (vs := []) (v := .agg #[.slice none 0 0, .bool false]) rfl (fun _ => by kernel_rfl) rfl (bx rfl nofun rfl (fun h4 n4 => ?_))
        have q4 : Q h4 h2.size (.slice none 0 0) [] false := ⟨n4.at_, Owns.nil _ _ _, by simp [ownB, Value.ownBlock]⟩
        have hb4 := n4.ext.get hb2
        refine asg rfl rfl ?_; refine o_nil ?_; refine x_seq ?_; refine c_seq ?_; refine c_reg ?_
        refine mv rfl rfl (mv rfl rfl (cl (vs := [ptr h2.size 0, i64 ((acc : Int) + 0)]) rfl (QNum_fn q4 (by simp) _) rfl (fun v5 h5 r5 => ?_)))
        obtain ⟨rfl, vq5, q5, s5⟩ := r5
        have hqs := lt_of_get hb2
        have hb5 := s5.mod.get hb4 (fun e => e.elim (fun e => by omega) (fun e => by simp [ownB, Value.ownBlock] at e))
        have md5 : Mod (· = q) h2 h5 := by
          refine ⟨Nat.le_trans n4.ext.size s5.mod.size, fun j hj hne => (s5.mod.same j (by have := n4.ext.size; omega) (fun e => e.elim (fun e => by omega) (fun e => by simp [ownB, Value.ownBlock] at e))).trans (n4.ext.same j hj (fun e => e))⟩
        have rq5 : RQ h5 q s (at_ + k) true := ⟨hb5, hle1, hlen⟩
        refine o_nil ?_; refine x_seq ?_; refine c_seq ?_; refine c_seq ?_; refine c_reg ?_
        refine mv rfl rfl (nck rfl rfl (fa rfl rfl (ld rfl (cell hb5 rfl) rfl (nt rfl rfl (mv rfl rfl ?_)))))
        refine cf 51 rfl (by simp) ?_
        refine gs rfl rfl rfl rfl (gs rfl rfl rfl rfl (pkf rfl rfl rfl (mv rfl rfl (gs rfl rfl rfl rfl (gs rfl rfl rfl rfl (gs rfl rfl rfl rfl (gs rfl rfl rfl rfl (gs rfl rfl rfl rfl ?_))))))))
        refine gs rfl rfl rfl rfl (gs rfl rfl rfl rfl (pkf rfl rfl rfl ?_))
        refine o_nil ?_; refine x_seq ?_; refine c_f rfl (by simp) ?_; refine c_skip ?_; refine x_seq ?_; refine c_reg ?_; refine asg rfl rfl ?_
        refine o_nil ?_; refine x_blk ?_
        exact x_loop (5, (acc : Int) + 0, ((2 ^ (7 * k) : Nat) : Int) * 128, at_ + k, true, h5) ⟨⟨rq5, mod_more md2 md5 (fun _ e => .inl e)⟩, by simp, .inl ⟨.inl rfl, hrn.symm⟩⟩ (by simp only; omega) ⟨rfl, rfl, rfl, rfl, rfl, trivial⟩ rfl
    · have hnone : rNum s at_ bad = none := by
        rcases hmode with ⟨-, h2⟩ | ⟨h1, -, acc, -, -, -, hrn⟩
        · exact h2
        · have : k = 5 := by
            rcases Nat.lt_or_ge k 5 with h | h
            · exact absurd ⟨h, h1⟩ c1
            · omega
          subst this
          rw [← hrn]; rfl
      refine c_exit ?_
      refine x_seq_exit ?_; refine x_loop_exit ?_; refine x_blk_hit ?_
      exact x_cut h1 ⟨hnone, pos, bd, rq, md⟩ ⟨rfl, rfl, trivial⟩ rfl
  · intro h1 hx
    obtain ⟨hnone, p2, b2, rq, md⟩ := hx
    have hb1 := rq.blk
    rw [hnone]
    refine c_seq ?_; refine c_reg ?_
    refine mv rfl rfl (mv rfl rfl (mv rfl rfl (nck rfl rfl (fa rfl rfl (st rfl rfl rfl hb1 rfl nofun (fun h16 u16 => ?_))))))
    have hb16 := u16.at_
    refine nck rfl rfl (fa rfl rfl (st rfl rfl rfl hb16 rfl nofun (fun h17 u17 => ?_)))
    refine o_nil ?_; refine x_seq ?_; refine c_seq ?_; refine c_reg ?_; refine asg rfl rfl ?_; refine o_nil ?_; refine x_seq ?_; refine c_ret ?_
    refine ret1 (.inr rfl) rfl rfl ?_
    exact ⟨rfl, ⟨u17.at_, hle, hlen⟩, mod_more (mod_more md u16.mod (fun _ e => .inl e)) u17.mod (fun _ e => .inl e)⟩
end

/-! The walk of the reference's Reader's Text; the law RiderReads. No condition but what each theorem says. -/
section
open Go Go.Eng

theorem ib_get : ∀ (l : List UInt8), 0 ≤ Lib.indexByte l 0 → l[(Lib.indexByte l 0).toNat]? = some 0
  | [], h => by simp [Lib.indexByte] at h
  | c :: l, h => by
    have hg := Lib.indexByte_ge l 0
    have ih := ib_get l
    unfold Lib.indexByte at h ⊢
    by_cases hc : c = 0
    · subst hc; simp
    · have h1 : (c == 0) = false := by simpa using hc
      simp only [h1, Bool.false_eq_true, if_false] at h ⊢
      by_cases h2 : Lib.indexByte l 0 = -1
      · rw [h2] at h; simp at h
      · have h3 : ¬ (Lib.indexByte l 0 == -1) = true := by simpa using h2
        rw [if_neg h3] at h ⊢
        have h4 := ih (by omega)
        rw [show (Lib.indexByte l 0 + 1).toNat = (Lib.indexByte l 0).toNat + 1 by omega]
        simpa using h4
theorem ib_found {l : List UInt8} {n : Nat} (h : 0 ∉ l.take n) (hn : l[n]? = some 0) : Lib.indexByte l 0 = n := by
  obtain ⟨hlt, he⟩ := List.getElem?_eq_some_iff.1 hn
  have : l = l.take n ++ 0 :: l.drop (n + 1) := by
    have h1 := List.drop_eq_getElem_cons hlt
    rw [he] at h1
    rw [← h1]; simp
  have h2 := ib_text (l.take n) (l.drop (n + 1)) h
  rw [← this] at h2
  rw [h2, List.length_take]; omega

theorem QTextR_fn {h : Heap} {q : Nat} {s : List UInt8} {at_ : Nat} {bad : Bool} (r : RQ h q s at_ bad) :
    Does Tryz.prog 24 [ptr q 0] h (fun v h' => v = str (if canText s at_ bad then (s.drop at_).take (textEnd s at_).toNat else []) ∧
      QAfter h q s (if canText s at_ bad then at_ + (textEnd s at_).toNat + 1 else at_) (if canText s at_ bad then false else true) h') := by
  have hb := r.blk
  have hle := r.le
  have hlen := r.len
  refine fn_enter (N := 68) Tryz.func24 (by kernel_rfl) rfl rfl rfl (fun w0 => ?_)
  refine c_seq ?_; refine c_reg ?_; refine asg rfl rfl ?_; refine o_nil ?_; refine x_seq ?_
  refine c_cut (α := Unit) (fun _ => [(0, ptr q 0)]) (fun _ => h) (fun _ => ¬ canText s at_ bad) ?_ ?_
  · refine c_seq ?_; refine c_reg ?_
    refine mv rfl rfl (nck rfl rfl (fa rfl rfl (ld rfl (cell hb rfl) rfl (nt rfl rfl ?_))))
    refine o_nil ?_; refine x_seq ?_; refine c_cond rfl (fun c1 => ?_) (fun c1 => ?_)
    · have hbad : bad = false := by simpa using c1
      subst hbad
      refine c_seq ?_
      refine c_reg ?_; refine asg rfl rfl ?_; refine o_nil ?_; refine x_seq ?_; refine c_blk ?_
      refine c_loop (α := Nat) (fun n => [(0, ptr q 0), (3, i64 (n : Nat))]) (fun _ => h) (fun n => n ≤ 65 ∧ at_ + n ≤ s.length ∧ 0 ∉ (s.drop at_).take n) (fun n => 65 - n) 0 ⟨by simp, by omega, by simp⟩ ⟨rfl, rfl, trivial⟩ rfl (fun n hn => ?_)
      obtain ⟨hn65, hnl, hno⟩ := hn
      refine c_seq ?_
      refine c_cut (α := Unit) (fun _ => [(0, ptr q 0), (3, i64 (n : Nat)), (24, .bool (decide (n ≤ 64 ∧ at_ + n < s.length)))]) (fun _ => h) (fun _ => True) ?_ ?_
      · refine c_dreg (· = h) [0, 1, 2, 3, 4, 5, 6, 7, 8, 9, 10, 11, 12, 13, 14, 15] rfl rfl (by kernel_rfl) ?_
        refine mv rfl rfl (lei rfl rfl rfl (mv rfl rfl ?_))
        refine cs 11 rfl (fun c2 => ?_) (fun c2 => ?_)
        · have c2' : (n : Int) ≤ 64 := c2
          refine gd rfl rfl (mv rfl rfl (gd rfl rfl (nck rfl rfl (gd rfl rfl (fa rfl rfl (gd rfl rfl (ldI rfl (fun _ hI => by subst hI; exact cell hb rfl) rfl (gd rfl rfl (mv rfl rfl (gd rfl rfl (add rfl rfl (by omega) rfl ?_)))))))))))
          refine gd rfl rfl (mv rfl rfl (gd rfl rfl (nck rfl rfl (gd rfl rfl (fa rfl rfl (gd rfl rfl (ldI rfl (fun _ hI => by subst hI; exact cell hb rfl) rfl (gd rfl rfl (lns rfl rfl (gd rfl rfl (lti rfl rfl rfl ?_)))))))))))
          refine pkt rfl rfl rfl ?_; refine o_nil ?_
          refine x_cut () trivial ⟨rfl, rfl, ?_, trivial⟩ rfl
          have : ((at_ : Int) + (n : Int) < s.length) ↔ (n ≤ 64 ∧ at_ + n < s.length) := by omega
          exact congrArg some (congrArg Value.bool (decide_eq_decide.2 this))
        · have c2' : ¬ (n : Int) ≤ 64 := c2
          refine gs rfl rfl rfl rfl (gs rfl rfl rfl rfl (gs rfl rfl rfl rfl (gs rfl rfl rfl rfl (gs rfl rfl rfl rfl (gs rfl rfl rfl rfl (gs rfl rfl rfl rfl (gs rfl rfl rfl rfl ?_)))))))
          refine gs rfl rfl rfl rfl (gs rfl rfl rfl rfl (gs rfl rfl rfl rfl (gs rfl rfl rfl rfl (pkf rfl rfl rfl ?_))))
          refine o_nil ?_
          exact x_cut () trivial ⟨rfl, rfl, by rw [decide_eq_false (show ¬ (n ≤ 64 ∧ at_ + n < s.length) from fun e => by omega)]; rfl, trivial⟩ rfl
      intro _ _
      refine c_cond rfl (fun c3 => ?_) (fun c3 => ?_)
      · obtain ⟨hn64, hlt⟩ := c3
        have hg : s[at_ + n]? = some s[at_ + n] := List.getElem?_eq_getElem hlt
        have hg2 : (s.drop at_)[n]? = some s[at_ + n] := by rw [List.getElem?_drop]; exact hg
        generalize s[at_ + n] = c at *
        refine c_skip ?_
        refine x_seq ?_; refine c_seq ?_; refine c_blk ?_; refine c_seq ?_
        refine c_dreg (· = h) [0, 1, 2, 3, 4, 5, 6, 7, 8, 9, 10, 11] rfl rfl (by kernel_rfl) ?_
        refine mv rfl rfl (nck rfl rfl (fa rfl rfl (ldI rfl (fun _ hI => by subst hI; exact cell hb rfl) rfl (mv rfl rfl (nck rfl rfl (fa rfl rfl (ldI rfl (fun _ hI => by subst hI; exact cell hb rfl) rfl (mv rfl rfl (add rfl rfl (by omega) rfl ?_)))))))))
        refine idx rfl rfl (by omega) (by rw [show ((at_ : Int) + (n : Int)).toNat = at_ + n by omega]; exact hg) rfl (eqi rfl rfl rfl ?_)
        refine o_nil ?_; refine x_seq ?_; refine c_cond rfl (fun c4 => ?_) (fun c4 => ?_)
        · have h0 : c = 0 := by apply UInt8.toNat_inj.1; have : ((c.toNat : Int)) = 0 := c4; simp; omega
          subst h0
          have hte : textEnd s at_ = n := ib_found hno hg2
          have hc : canText s at_ false := ⟨rfl, by omega, by omega⟩
          refine c_seq ?_
          refine c_reg ?_
          refine mv rfl rfl (nck rfl rfl (fa rfl rfl (ld rfl (cell hb rfl) rfl (mv rfl rfl (add rfl rfl (by omega) rfl (add rfl rfl (by omega) rfl (nck rfl rfl (fa rfl rfl ?_))))))))
          refine st rfl rfl rfl hb rfl nofun (fun h5 u5 => ?_)
          have hb5 := u5.at_
          refine o_nil ?_; refine x_seq ?_; refine c_seq ?_
          refine c_dreg (· = h5) [0, 1, 2, 3, 4, 5, 6, 7, 8, 9, 10, 11, 12, 13, 14, 15, 16, 17] rfl rfl (by kernel_rfl) ?_
          refine mv rfl rfl (nck rfl rfl (fa rfl rfl (ldI rfl (fun _ hI => by subst hI; exact cell hb5 rfl) rfl (mv rfl rfl (nck rfl rfl (fa rfl rfl (ldI rfl (fun _ hI => by subst hI; exact cell hb5 rfl) rfl (mv rfl rfl (sub rfl rfl (by omega) rfl ?_)))))))))
          refine sub rfl rfl (by omega) rfl (mv rfl rfl (nck rfl rfl (fa rfl rfl (ldI rfl (fun _ hI => by subst hI; exact cell hb5 rfl) rfl (sub rfl rfl (by omega) rfl (sls rfl rfl rfl (by omega) rfl ?_))))))
          refine asg rfl rfl ?_; refine o_nil ?_; refine x_seq ?_; refine c_ret ?_; refine x_blk_ret ?_; refine x_seq_ret ?_; refine x_loop_ret ?_
          refine x_blk_ret ?_; refine x_cut_ret ?_; refine ret1 (.inr rfl) rfl rfl ?_
          rw [if_pos hc, if_pos hc, if_pos hc, hte]
          have e1 : ((at_ : Int) + ((n : Int) + 1) - n - 1).toNat = at_ := by omega
          have e2 : ((at_ : Int) + ((n : Int) + 1) - 1).toNat - at_ = n := by omega
          rw [e1, e2]
          refine ⟨by rfl, ⟨?_, by simp; omega, hlen⟩, u5.mod⟩
          rw [hb5]
          have e3 : (at_ : Int) + ((n : Int) + 1) = ((at_ + n + 1 : Nat) : Int) := by omega
          simp [e3]
        · have h0 : c ≠ 0 := fun e => c4 (by rw [e]; rfl)
          refine c_skip ?_
          refine x_blk ?_; refine x_seq ?_; refine c_reg ?_; refine mv rfl rfl (add rfl rfl (by omega) rfl (asg rfl rfl ?_))
          refine o_nil ?_
          refine x_loop (n + 1) ⟨by omega, by omega, ?_⟩ (by omega) ⟨rfl, rfl, trivial⟩ rfl
          rw [List.take_add_one, hg2]
          simp only [Option.toList_some, List.mem_append, List.mem_singleton, not_or]
          exact ⟨hno, fun e => h0 e.symm⟩
      · refine c_exit ?_
        refine x_seq_exit ?_; refine x_loop_exit ?_; refine x_blk_hit ?_
        refine x_cut () (fun hc => ?_) ⟨rfl, trivial⟩ rfl
        have h1 := hc.2.1
        have h2 := hc.2.2
        have h3 := textEnd_lt s at_ hle h1
        have h4 : (s.drop at_)[(textEnd s at_).toNat]? = some 0 := ib_get _ h1
        apply hno
        refine List.mem_of_getElem? (i := (textEnd s at_).toNat) ?_
        rw [List.getElem?_take, if_pos (by omega)]
        exact h4
    · have hbad : bad = true := by simpa using c1
      refine c_skip ?_
      exact x_cut () (fun hc => by have := hc.1; rw [hbad] at this; cases this) ⟨rfl, trivial⟩ rfl
  · intro _ hc
    rw [if_neg hc, if_neg hc, if_neg hc]
    refine c_seq ?_; refine c_reg ?_; refine mv rfl rfl (nck rfl rfl (fa rfl rfl (st rfl rfl rfl hb rfl nofun (fun h8 u8 => ?_))))
    refine o_nil ?_; refine x_seq ?_; refine c_seq ?_; refine c_reg ?_; refine asg rfl rfl ?_; refine o_nil ?_; refine x_seq ?_; refine c_ret ?_
    refine ret1 (.inr rfl) rfl rfl ?_
    exact ⟨rfl, ⟨u8.at_, hle, hlen⟩, u8.mod⟩
end
end Go.Proofs.YtgnkfegkdjfnjaaGreat.R
