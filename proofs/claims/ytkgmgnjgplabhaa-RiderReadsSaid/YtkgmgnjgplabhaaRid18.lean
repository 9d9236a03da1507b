/- Walks of the reference's Reader: Raw, Byte, Word, Text, Bad, End. No condition but what each theorem says. -/
import Derived.Test.YtkgmgnjgplabhaaRid17
namespace Go.Proofs.Ytkgmgnjgplabhaa
open Go Go.Eng

/-- the reference's Reader lies at block q -/
structure RQ (h : Heap) (q : Nat) (s : List UInt8) (at_ : Nat) (bad : Bool) : Prop where
  blk : h[q]? = some (.cells #[str s, i64 at_, .bool bad] 46 (0, 0))
  le : at_ ≤ s.length
  len : s.length ≤ 1073741824
theorem RQ.mod {S : Nat → Prop} {h h' : Heap} {q : Nat} {s : List UInt8} {at_ : Nat} {bad : Bool} (r : RQ h q s at_ bad) (x : Mod S h h') (hp : ¬ S q) : RQ h' q s at_ bad := ⟨x.get r.blk hp, r.le, r.len⟩
def QAfter (h : Heap) (q : Nat) (s : List UInt8) (at_ : Nat) (bad : Bool) (h' : Heap) : Prop := RQ h' q s at_ bad ∧ Mod (· = q) h h'

theorem QRaw_fn {h : Heap} {q : Nat} {s : List UInt8} {at_ : Nat} {bad : Bool} (r : RQ h q s at_ bad) (n : Int) :
    Does Try.prog 39 [ptr q 0, i64 n] h (fun v h' => v = str (taken s at_ bad n) ∧ QAfter h q s (if canTake s at_ bad n then at_ + n.toNat else at_) (if canTake s at_ bad n then false else true) h') := by
  have hb := r.blk
  have hle := r.le
  have hlen := r.len
  refine fn_enter (N := 53) Try.func39 (by kernel_rfl) rfl rfl rfl (fun w0 => ?_)
  refine c_seq ?_; refine c_reg ?_; refine asg rfl rfl ?_; refine o_nil ?_; refine x_seq ?_; refine c_seq ?_
  refine c_cut (α := Unit) (fun _ => [(0, ptr q 0), (1, i64 n), (26, .bool (decide (¬ canTake s at_ bad n)))]) (fun _ => h) (fun _ => True) ?_ ?_
  · refine c_dreg (· = h) [0, 1, 2, 3, 4, 5, 6, 7, 8, 9, 10, 11, 12, 13, 14, 15, 16, 17, 18, 19, 20, 21] rfl rfl (by kernel_rfl) ?_
    refine mv rfl rfl (nck rfl rfl (fa rfl rfl (ldI rfl (fun _ hI => by subst hI; exact cell hb rfl) rfl (mv rfl rfl ?_))))
    refine cs 9 rfl (fun c1 => ?_) (fun c1 => ?_)
    · refine gs rfl rfl rfl rfl (gs rfl rfl rfl rfl (pkt rfl rfl rfl (mv rfl rfl (gs rfl rfl rfl rfl (gs rfl rfl rfl rfl (gs rfl rfl rfl rfl (gs rfl rfl rfl rfl (gs rfl rfl rfl rfl ?_))))))))
      refine gs rfl rfl rfl rfl (gs rfl rfl rfl rfl (gs rfl rfl rfl rfl (gs rfl rfl rfl rfl (gs rfl rfl rfl rfl (gs rfl rfl rfl rfl (gs rfl rfl rfl rfl (pkt rfl rfl rfl ?_)))))))
      refine o_nil ?_
      exact x_cut () trivial ⟨rfl, rfl, by rw [decide_eq_true (show ¬ canTake s at_ bad n from fun e => by have := e.1; rw [c1] at this; cases this)]; rfl, trivial⟩ rfl
    · have hbad : bad = false := by simpa using c1
      refine gd rfl rfl (mv rfl rfl (gd rfl rfl (lti rfl rfl rfl (pkf rfl rfl rfl (mv rfl rfl ?_)))))
      refine cs 13 rfl (fun c3 => ?_) (fun c3 => ?_)
      · refine gs rfl rfl rfl rfl (gs rfl rfl rfl rfl (gs rfl rfl rfl rfl (gs rfl rfl rfl rfl (gs rfl rfl rfl rfl (gs rfl rfl rfl rfl (gs rfl rfl rfl rfl (gs rfl rfl rfl rfl ?_)))))))
        refine gs rfl rfl rfl rfl (gs rfl rfl rfl rfl (gs rfl rfl rfl rfl (gs rfl rfl rfl rfl (pkt rfl rfl rfl ?_))))
        refine o_nil ?_
        exact x_cut () trivial ⟨rfl, rfl, by rw [decide_eq_true (show ¬ canTake s at_ bad n from fun e => by have := e.2.1; omega)]; rfl, trivial⟩ rfl
      · refine gd rfl rfl (mv rfl rfl (gd rfl rfl (mv rfl rfl (gd rfl rfl (nck rfl rfl (gd rfl rfl (fa rfl rfl (gd rfl rfl (ldI rfl (fun _ hI => by subst hI; exact cell hb rfl) rfl (gd rfl rfl (lns rfl rfl ?_)))))))))))
        refine gd rfl rfl (mv rfl rfl (gd rfl rfl (nck rfl rfl (gd rfl rfl (fa rfl rfl (gd rfl rfl (ldI rfl (fun _ hI => by subst hI; exact cell hb rfl) rfl (gd rfl rfl (sub rfl rfl (by omega) rfl ?_)))))))))
        refine gd rfl rfl (gti rfl rfl rfl (pkf rfl rfl rfl ?_))
        refine o_nil ?_
        refine x_cut () trivial ⟨rfl, rfl, ?_, trivial⟩ rfl
        have : (n > (s.length : Int) - at_) ↔ ¬ canTake s at_ bad n := by simp only [canTake, hbad, true_and]; omega
        exact congrArg some (congrArg Value.bool (decide_eq_decide.2 this))
  intro _ _
  refine c_cond rfl (fun c5 => ?_) (fun c5 => ?_)
  · rw [if_neg c5, if_neg c5, taken, if_neg c5]
    refine c_seq ?_; refine c_reg ?_
    refine mv rfl rfl (nck rfl rfl (fa rfl rfl (st rfl rfl rfl hb rfl nofun (fun h2 u2 => ?_))))
    refine o_nil ?_; refine x_seq ?_; refine c_seq ?_; refine c_reg ?_; refine asg rfl rfl ?_; refine o_nil ?_; refine x_seq ?_; refine c_ret ?_
    refine x_seq_ret ?_; refine ret1 (.inr rfl) rfl rfl ?_
    exact ⟨rfl, ⟨u2.at_, hle, hlen⟩, u2.mod⟩
  · have c6 := Classical.not_not.1 c5
    have c7 := c6.2
    rw [if_pos c6, if_pos c6, taken, if_pos c6]
    refine c_skip ?_
    refine x_seq ?_; refine c_seq ?_; refine c_reg ?_
    refine mv rfl rfl (nck rfl rfl (fa rfl rfl (ld rfl (cell hb rfl) rfl (mv rfl rfl (add rfl rfl (by omega) rfl (nck rfl rfl (fa rfl rfl (st rfl rfl rfl hb rfl nofun (fun h7 u7 => ?_)))))))))
    have hb7 := u7.at_
    refine o_nil ?_; refine x_seq ?_; refine c_seq ?_
    refine c_dreg (· = h7) [0, 1, 2, 3, 4, 5, 6, 7, 8, 9, 10, 11, 12, 13, 14, 15] rfl rfl (by kernel_rfl) ?_
    refine mv rfl rfl (nck rfl rfl (fa rfl rfl (ldI rfl (fun _ hI => by subst hI; exact cell hb7 rfl) rfl (mv rfl rfl (nck rfl rfl (fa rfl rfl (ldI rfl (fun _ hI => by subst hI; exact cell hb7 rfl) rfl (mv rfl rfl (sub rfl rfl (by omega) rfl ?_)))))))))
    refine mv rfl rfl (nck rfl rfl (fa rfl rfl (ldI rfl (fun _ hI => by subst hI; exact cell hb7 rfl) rfl (sls rfl rfl rfl (by omega) rfl (asg rfl rfl ?_)))))
    refine o_nil ?_; refine x_seq ?_; refine c_ret ?_; refine ret1 (.inr rfl) rfl rfl ?_
    have e1 : ((at_ : Int) + n - n).toNat = at_ := by omega
    have e2 : ((at_ : Int) + n).toNat - at_ = n.toNat := by omega
    rw [e1, e2]
    refine ⟨rfl, ⟨?_, by omega, hlen⟩, u7.mod⟩
    rw [hb7, c6.1]
    have e3 : (at_ : Int) + n = ((at_ + n.toNat : Nat) : Int) := by omega
    simp [e3]

theorem QByteR_fn {h : Heap} {q : Nat} {s : List UInt8} {at_ : Nat} {bad : Bool} (r : RQ h q s at_ bad) :
    Does Try.prog 35 [ptr q 0] h (fun v h' => v = i64 (rByte s at_ bad) ∧ QAfter h q s (if canTake s at_ bad 1 then at_ + 1 else at_) (if canTake s at_ bad 1 then false else true) h') := by
  refine fn_enter (N := 13) Try.func35 (by kernel_rfl) rfl rfl rfl (fun w0 => ?_)
  refine c_seq ?_; refine c_reg ?_; refine asg rfl rfl ?_; refine o_nil ?_; refine x_seq ?_; refine c_seq ?_; refine c_reg ?_
  refine mv rfl rfl (cl (vs := [ptr q 0, i64 1]) rfl (QRaw_fn r 1) rfl (fun v1 h1 r1 => ?_))
  obtain ⟨rfl, r1⟩ := r1
  have hb1 := r1.1.blk
  refine asg rfl rfl ?_; refine o_nil ?_; refine x_seq ?_; refine c_seq ?_; refine c_seq ?_; refine c_reg ?_
  refine mv rfl rfl (nck rfl rfl (fa rfl rfl (ld rfl (cell hb1 rfl) rfl ?_)))
  refine o_nil ?_; refine x_seq ?_; refine c_cond rfl (fun c2 => ?_) (fun c2 => ?_)
  · have c3 : ¬ canTake s at_ bad 1 := fun e => by rw [if_pos e] at c2; cases c2
    refine c_seq ?_
    refine c_reg ?_; refine asg rfl rfl ?_; refine o_nil ?_; refine x_seq ?_; refine c_ret ?_; refine x_seq_ret ?_; refine ret1 (.inr rfl) rfl rfl ?_
    exact ⟨by rw [rByte, if_neg c3], r1⟩
  · have c3 : canTake s at_ bad 1 := Classical.byContradiction fun e => by rw [if_neg e] at c2; exact c2 rfl
    obtain ⟨c, hc, ht⟩ := taken1 c3
    refine c_skip ?_
    refine x_seq ?_; refine c_seq ?_; refine c_reg ?_; refine mv rfl rfl (idx rfl rfl (by omega) (by rw [ht]; rfl) rfl (cvi rfl rfl (asg rfl rfl ?_)))
    refine o_nil ?_; refine x_seq ?_; refine c_ret ?_; refine ret1 (.inr rfl) rfl rfl ?_
    exact ⟨by rw [rByte, if_pos c3, hc, byte_wrap]; rfl, r1⟩

theorem QBad_fn {h : Heap} {q : Nat} {s : List UInt8} {at_ : Nat} {bad : Bool} (r : RQ h q s at_ bad) : Does Try.prog 40 [ptr q 0] h (fun v h' => h' = h ∧ v = .bool bad) := by
  have hb := r.blk
  refine fn_enter (N := 7) Try.func40 (by kernel_rfl) rfl rfl rfl (fun w0 => ?_)
  refine c_seq ?_; refine c_reg ?_; refine asg rfl rfl ?_; refine o_nil ?_; refine x_seq ?_; refine c_seq ?_; refine c_reg ?_
  refine mv rfl rfl (nck rfl rfl (fa rfl rfl (ld rfl (cell hb rfl) rfl (asg rfl rfl ?_))))
  refine o_nil ?_; refine x_seq ?_; refine c_ret ?_; refine ret1 (.inr rfl) rfl rfl ?_
  exact ⟨rfl, rfl⟩

theorem QEnd_fn {h : Heap} {q : Nat} {s : List UInt8} {at_ : Nat} {bad : Bool} (r : RQ h q s at_ bad) : Does Try.prog 41 [ptr q 0] h (fun v h' => h' = h ∧ v = .bool (decide (bad = false ∧ at_ = s.length))) := by
  have hb := r.blk
  refine fn_enter (N := 20) Try.func41 (by kernel_rfl) rfl rfl rfl (fun w0 => ?_)
  refine c_seq ?_; refine c_reg ?_; refine asg rfl rfl ?_; refine o_nil ?_; refine x_seq ?_; refine c_seq ?_
  refine c_dreg (· = h) [0, 1, 2, 3, 4, 5, 6, 7, 8, 9, 10, 11, 12, 13, 14, 15, 16, 17] rfl rfl (by kernel_rfl) ?_
  refine mv rfl rfl (nck rfl rfl (fa rfl rfl (ldI rfl (fun _ hI => by subst hI; exact cell hb rfl) rfl (nt rfl rfl (mv rfl rfl ?_)))))
  refine cs 8 rfl (fun c1 => ?_) (fun c1 => ?_)
  · refine gd rfl rfl (mv rfl rfl (gd rfl rfl (nck rfl rfl (gd rfl rfl (fa rfl rfl (gd rfl rfl (ldI rfl (fun _ hI => by subst hI; exact cell hb rfl) rfl (gd rfl rfl (mv rfl rfl (gd rfl rfl (nck rfl rfl ?_)))))))))))
    refine gd rfl rfl (fa rfl rfl (gd rfl rfl (ldI rfl (fun _ hI => by subst hI; exact cell hb rfl) rfl (gd rfl rfl (lns rfl rfl (gd rfl rfl (eqi rfl rfl rfl (pkt rfl rfl rfl (asg rfl rfl ?_)))))))))
    refine o_nil ?_; refine x_seq ?_; refine c_ret ?_; refine ret1 (.inr rfl) rfl rfl ?_
    refine ⟨rfl, ?_⟩
    have : bad = false := by simpa using c1
    subst this
    simp only [true_and]
    exact congrArg Value.bool (by rw [Bool.eq_iff_iff]; simp; omega)
  · refine gs rfl rfl rfl rfl (gs rfl rfl rfl rfl (gs rfl rfl rfl rfl (gs rfl rfl rfl rfl (gs rfl rfl rfl rfl (gs rfl rfl rfl rfl (gs rfl rfl rfl rfl (gs rfl rfl rfl rfl ?_)))))))
    refine gs rfl rfl rfl rfl (gs rfl rfl rfl rfl (pkf rfl rfl rfl (asg rfl rfl ?_)))
    refine o_nil ?_; refine x_seq ?_; refine c_ret ?_; refine ret1 (.inr rfl) rfl rfl ?_
    exact ⟨rfl, vbf (fun e => c1 (by rw [e.1]; simp))⟩

/-- the word of the last i of four bytes -/
def wordr (l : List UInt8) (i : Nat) : Int := match l with
  | [a, b, c, d] => if i = 0 then 0 else if i = 1 then (d.toNat : Int) else if i = 2 then (d.toNat : Int) * 256 + c.toNat else if i = 3 then ((d.toNat : Int) * 256 + c.toNat) * 256 + b.toNat else (((d.toNat : Int) * 256 + c.toNat) * 256 + b.toNat) * 256 + a.toNat
  | _ => 0
theorem QWordR_fn {h : Heap} {q : Nat} {s : List UInt8} {at_ : Nat} {bad : Bool} (r : RQ h q s at_ bad) :
    Does Try.prog 37 [ptr q 0] h (fun v h' => v = .int .u32 (rWord s at_ bad) ∧ QAfter h q s (if canTake s at_ bad 4 then at_ + 4 else at_) (if canTake s at_ bad 4 then false else true) h') := by
  refine fn_enter (N := 24) Try.func37 (by kernel_rfl) rfl rfl rfl (fun w0 => ?_)
  refine c_seq ?_; refine c_reg ?_; refine asg rfl rfl ?_; refine o_nil ?_; refine x_seq ?_; refine c_seq ?_; refine c_reg ?_
  refine mv rfl rfl (cl (vs := [ptr q 0, i64 4]) rfl (QRaw_fn r 4) rfl (fun v1 h1 r1 => ?_))
  obtain ⟨rfl, r1⟩ := r1
  have hb1 := r1.1.blk
  refine asg rfl rfl ?_; refine o_nil ?_; refine x_seq ?_; refine c_seq ?_; refine c_seq ?_; refine c_reg ?_
  refine mv rfl rfl (nck rfl rfl (fa rfl rfl (ld rfl (cell hb1 rfl) rfl ?_)))
  refine o_nil ?_; refine x_seq ?_; refine c_cond rfl (fun c2 => ?_) (fun c2 => ?_)
  · have c3 : ¬ canTake s at_ bad 4 := fun e => by rw [if_pos e] at c2; cases c2
    refine c_seq ?_
    refine c_reg ?_; refine asg rfl rfl ?_; refine o_nil ?_; refine x_seq ?_; refine c_ret ?_; refine x_seq_ret ?_; refine ret1 (.inr rfl) rfl rfl ?_
    exact ⟨by rw [rWord, if_neg c3], r1⟩
  · have c3 : canTake s at_ bad 4 := Classical.byContradiction fun e => by rw [if_neg e] at c2; exact c2 rfl
    obtain ⟨a, b, c, d, ht⟩ := taken4 c3
    have ha := a.toNat_lt
    have hb := b.toNat_lt
    have hc := c.toNat_lt
    have hd := d.toNat_lt
    rw [ht]
    refine c_skip ?_
    refine x_seq ?_; refine c_seq ?_; refine c_reg ?_; refine asg rfl rfl ?_; refine o_nil ?_; refine x_seq ?_; refine c_seq ?_; refine c_seq ?_
    refine c_reg ?_; refine asg rfl rfl ?_; refine o_nil ?_; refine x_seq ?_; refine c_blk ?_
    refine c_loop (α := Nat) (fun i => [(0, ptr q 0), (3, str [a, b, c, d]), (4, .int .u32 (wordr [a, b, c, d] i)), (5, i64 (3 - (i : Nat)))]) (fun _ => h1) (fun i => i ≤ 4) (fun i => 4 - i) 0 (by omega) ⟨rfl, rfl, rfl, rfl, trivial⟩ rfl (fun i hi => ?_)
    refine c_seq ?_; refine c_seq ?_; refine c_reg ?_; refine mv rfl rfl (gei rfl rfl rfl ?_)
    refine o_nil ?_; refine x_seq ?_; refine c_cond rfl (fun c3 => ?_) (fun c3 => ?_)
    · have hi4 : i < 4 := by omega
      refine c_skip ?_
      refine x_seq ?_; refine c_seq ?_; refine c_blk ?_; refine c_reg ?_
      have hg : ∃ y : UInt8, [a, b, c, d][(3 - (i : Int)).toNat]? = some y ∧ IntKind.u32.wrap (IntKind.u32.wrap (wordr [a, b, c, d] i * 256) + IntKind.u32.wrap (y.toNat : Int)) = wordr [a, b, c, d] (i + 1) := by
        clear hi c3
        match i, hi4 with
        | 0, _ => exact ⟨d, rfl, by simp [wordr, IntKind.wrap_u32]; omega⟩
        | 1, _ => exact ⟨c, rfl, by simp [wordr, IntKind.wrap_u32]; omega⟩
        | 2, _ => exact ⟨b, rfl, by simp [wordr, IntKind.wrap_u32]; omega⟩
        | 3, _ => exact ⟨a, rfl, by simp [wordr, IntKind.wrap_u32]; omega⟩
      obtain ⟨y, hg, hy⟩ := hg
      refine mv rfl rfl (mulw rfl rfl rfl (mv rfl rfl (mv rfl rfl (idx rfl rfl (by omega) hg rfl (cvi rfl rfl (addw rfl rfl rfl (rv 22 rfl (vi hy) (asg rfl rfl ?_))))))))
      refine o_nil ?_; refine x_blk ?_; refine x_seq ?_; refine c_reg ?_; refine mv rfl rfl (sub rfl rfl (by omega) rfl (rv 15 rfl (vi (show (3 - (i : Int) - 1) = 3 - ((i + 1 : Nat) : Int) from by omega)) (asg rfl rfl ?_)))
      refine o_nil ?_
      exact x_loop (i + 1) hi4 (by omega) ⟨rfl, rfl, rfl, rfl, trivial⟩ rfl
    · have hi4 : i = 4 := by omega
      subst hi4
      refine c_exit ?_
      refine x_seq_exit ?_; refine x_loop_exit ?_; refine x_blk_hit ?_; refine x_seq ?_; refine c_seq ?_; refine c_reg ?_
      refine mv rfl rfl (asg rfl rfl ?_)
      refine o_nil ?_; refine x_seq ?_; refine c_ret ?_; refine ret1 (.inr rfl) rfl rfl ?_
      refine ⟨?_, r1⟩
      rw [rWord, if_pos ‹canTake s at_ bad 4›, ht]
      exact vi (by simp [wordr, wordv]; omega)
end Go.Proofs.Ytkgmgnjgplabhaa
