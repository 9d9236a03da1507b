/- Walks of the reference's Writer and of the reference's bits that it asks. No condition but what each theorem says. -/
import Derived.Test.YtkgmgnjgplabhaaRid14
namespace Go.Proofs.Ytkgmgnjgplabhaa
open Go Go.Eng

theorem tmod_lit (x m : Int) : x.tmod m = if 0 ≤ x then x % m else -((-x) % m) := by
  split
  · rename_i h; exact Int.tmod_eq_emod_of_nonneg h
  · rename_i h
    have : x.tmod m = -((-x).tmod m) := by rw [Int.neg_tmod, Int.neg_neg]
    rw [this, Int.tmod_eq_emod_of_nonneg (by omega)]
theorem t256 (x : Int) : (x.tmod 256 + 256).tmod 256 = x % 256 := by
  rw [tmod_lit x, tmod_lit]; split <;> split <;> omega
theorem t128 (x : Int) : (x.tmod 128 + 128).tmod 128 = x % 128 := by
  rw [tmod_lit x, tmod_lit]; split <;> split <;> omega
theorem w_u32 {x : Int} (h : 0 ≤ x ∧ x < 4294967296) : IntKind.u32.wrap x = x := by rw [IntKind.wrap_u32]; omega
theorem w_u64 {x : Int} (h : 0 ≤ x ∧ x < 18446744073709551616) : IntKind.u64.wrap x = x := by simp [IntKind.wrap, IntKind.bits, IntKind.signed]; omega
theorem pow_cast (n : Nat) : ((2 ^ n : Nat) : Int) = (2 : Int) ^ n := by simp
theorem pow_lt (n : Nat) (h : n ≤ 32) : (1 : Int) ≤ (2 : Int) ^ n ∧ (2 : Int) ^ n ≤ 4294967296 := by
  have h1 := Nat.one_le_two_pow (n := n)
  have h2 := Nat.pow_le_pow_right (n := 2) (by omega) h
  have h3 : (2 : Nat) ^ 32 = 4294967296 := by decide
  rw [← pow_cast]; omega

theorem pow_fn (n : Nat) (hn : n ≤ 32) (h : Heap) : Does Try.prog 47 [.int .u32 (n : Nat)] h (fun v h' => h' = h ∧ v = .int .u64 (2 ^ n)) := by
  refine fn_enter (N := 13) Try.func47 (by kernel_rfl) rfl rfl rfl (fun w0 => ?_)
  refine c_seq ?_; refine c_reg ?_; refine asg rfl rfl ?_; refine o_nil ?_; refine x_seq ?_; refine c_seq ?_; refine c_reg ?_; refine asg rfl rfl ?_
  refine o_nil ?_; refine x_seq ?_; refine c_seq ?_; refine c_seq ?_; refine c_reg ?_; refine asg rfl rfl ?_; refine o_nil ?_; refine x_seq ?_
  refine c_blk ?_
  refine c_loop (α := Nat) (fun i => [(0, .int .u32 (n : Nat)), (3, .int .u64 (2 ^ i)), (4, .int .u32 (i : Nat))]) (fun _ => h) (fun i => i ≤ n) (fun i => n - i) 0 (by omega) ⟨rfl, rfl, rfl, trivial⟩ rfl (fun i hi => ?_)
  refine c_seq ?_; refine c_seq ?_; refine c_reg ?_; refine mv rfl rfl (mv rfl rfl (lti rfl rfl rfl ?_))
  refine o_nil ?_; refine x_seq ?_; refine c_cond rfl (fun c1 => ?_) (fun c1 => ?_)
  · have hin : i < n := by omega
    have hp := pow_lt (i + 1) (by omega)
    have he : (2 : Int) ^ (i + 1) = 2 ^ i * 2 := Int.pow_succ ..
    refine c_skip ?_
    refine x_seq ?_; refine c_seq ?_; refine c_blk ?_; refine c_reg ?_; refine mv rfl rfl (mulw rfl rfl rfl (rv 11 rfl (vi (show IntKind.u64.wrap (2 ^ i * 2) = 2 ^ (i + 1) from by rw [← he]; exact w_u64 (by omega))) (asg rfl rfl ?_)))
    refine o_nil ?_; refine x_blk ?_; refine x_seq ?_; refine c_reg ?_; refine mv rfl rfl (addw rfl rfl rfl (rv 9 rfl (vi (show IntKind.u32.wrap ((i : Int) + 1) = ((i + 1 : Nat) : Int) from by rw [w_u32 (by omega)]; omega)) (asg rfl rfl ?_)))
    refine o_nil ?_
    exact x_loop (i + 1) hin (by omega) ⟨rfl, rfl, rfl, trivial⟩ rfl
  · have hin : i = n := by omega
    subst hin
    refine c_exit ?_
    refine x_seq_exit ?_; refine x_loop_exit ?_; refine x_blk_hit ?_; refine x_seq ?_; refine c_seq ?_; refine c_reg ?_
    refine mv rfl rfl (asg rfl rfl ?_)
    refine o_nil ?_; refine x_seq ?_; refine c_ret ?_; refine ret1 (.inr rfl) rfl rfl ?_
    exact ⟨rfl, rfl⟩

theorem may_fn (lo n : Int) (hl : 0 ≤ lo ∧ lo ≤ 31) (hn : 1 ≤ n ∧ n ≤ 32 - lo) (h : Heap) : Does Try.prog 48 [i64 lo, i64 n] h (fun v h' => h' = h ∧ v = .bool true) := by
  refine fn_enter (N := 21) Try.func48 (by kernel_rfl) rfl rfl rfl (fun w0 => ?_)
  refine c_seq ?_; refine c_reg ?_; refine asg rfl rfl ?_; refine o_nil ?_; refine x_seq ?_; refine c_seq ?_; refine c_reg ?_
  refine mv rfl rfl (gei rfl rfl rfl (mv rfl rfl ?_))
  refine ct 7 rfl hl.1 ?_
  refine gd rfl rfl (mv rfl rfl (gd rfl rfl (gei rfl rfl rfl (pkt rfl rfl rfl (mv rfl rfl ?_)))))
  refine ct 11 rfl hn.1 ?_
  refine gd rfl rfl (mv rfl rfl (gd rfl rfl (lei rfl rfl rfl (pkt rfl rfl rfl (mv rfl rfl ?_)))))
  refine ct 15 rfl hl.2 ?_
  refine gd rfl rfl (mv rfl rfl (gd rfl rfl (mv rfl rfl (gd rfl rfl (sub rfl rfl (by omega) rfl (gd rfl rfl (lei rfl rfl rfl (pkt rfl rfl rfl (asg rfl rfl ?_)))))))))
  refine o_nil ?_; refine x_seq ?_; refine c_ret ?_; refine ret1 (.inr rfl) rfl rfl ?_
  exact ⟨rfl, (vbt hn.2).symm⟩

theorem Get_fn (x : Int) (hx : 0 ≤ x ∧ x < 4294967296) (l : Nat) (hl : l ≤ 24) (h : Heap) : Does Try.prog 45 [.int .u32 x, i64 (l : Nat), i64 8] h (fun v h' => h' = h ∧ v = .int .u32 (x / 2 ^ l % 256)) := by
  have hp := pow_lt l (by omega)
  have e8 : (2 : Int) ^ 8 = 256 := by decide
  refine fn_enter (N := 22) Try.func45 (by kernel_rfl) rfl rfl rfl (fun w0 => ?_)
  refine c_seq ?_; refine c_reg ?_; refine asg rfl rfl ?_; refine o_nil ?_; refine x_seq ?_; refine c_seq ?_; refine c_seq ?_; refine c_reg ?_
  refine mv rfl rfl (mv rfl rfl (cl (vs := [i64 l, i64 8]) rfl (may_fn l 8 (by omega) (by omega) h) rfl (fun v1 h1 r1 => ?_)))
  obtain ⟨rfl, rfl⟩ := r1
  refine nt rfl rfl ?_; refine o_nil ?_; refine x_seq ?_; refine c_f rfl (by simp) ?_
  refine c_skip ?_
  refine x_seq ?_; refine c_seq ?_; refine c_dreg (· = h1) [0, 1, 2, 3, 6, 7, 4, 5, 8, 9, 10, 11] rfl rfl (by kernel_rfl) ?_
  refine mv rfl rfl (cvi rfl rfl (rv 12 rfl (vi (w_u64 (by omega))) (mv rfl rfl (cvi rfl rfl (rv 14 rfl (vi (w_u32 (by omega))) (mv rfl rfl (cvi rfl rfl (rv 18 rfl (vi (show IntKind.u32.wrap 8 = ((8 : Nat) : Int) from by decide)) ?_))))))))
  refine clI (vs := [.int .u32 (l : Nat)]) rfl (pow_fn l (by omega) h1) (fun _ _ e => e.1) rfl (fun v3 h3 r3 => ?_)
  obtain ⟨rfl, rfl⟩ := r3
  have hdiv : 0 ≤ x / 2 ^ l ∧ x / 2 ^ l ≤ x := ⟨Int.ediv_nonneg hx.1 (by omega), Int.ediv_le_self _ hx.1⟩
  refine quo rfl rfl (by omega) rfl (rv 16 rfl (vi (show IntKind.u64.wrap (x.tdiv (2 ^ l)) = x / 2 ^ l from by rw [Int.tdiv_eq_ediv_of_nonneg hx.1]; exact w_u64 (by omega))) (clI (vs := [.int .u32 ((8 : Nat) : Int)]) rfl (pow_fn 8 (by omega) h3) (fun _ _ e => e.1) rfl (fun v4 h4 r4 => ?_)))
  obtain ⟨rfl, rfl⟩ := r4
  refine rem rfl rfl (by omega) rfl (rv 20 rfl (vi (show (x / 2 ^ l).tmod (2 ^ 8) = x / 2 ^ l % 256 from by rw [Int.tmod_eq_emod_of_nonneg hdiv.1, e8])) (cvi rfl rfl (rv 21 rfl (vi (w_u32 (by omega))) (asg rfl rfl ?_))))
  refine o_nil ?_; refine x_seq ?_; refine c_ret ?_; refine ret1 (.inr rfl) rfl rfl ?_
  exact ⟨rfl, rfl⟩

theorem rfits_fn (n : Int) (h : Heap) : Does Try.prog 44 [i64 n, i64 32] h (fun v h' => h' = h ∧ v = .bool (decide (fit32 n))) := by
  refine fn_enter (N := 26) Try.func44 (by kernel_rfl) rfl rfl rfl (fun w0 => ?_)
  refine c_seq ?_; refine c_reg ?_; refine asg rfl rfl ?_; refine o_nil ?_; refine x_seq ?_; refine c_seq ?_; refine c_seq ?_; refine c_reg ?_
  refine mv rfl rfl (lti rfl rfl rfl (mv rfl rfl ?_))
  refine cf 8 rfl (by omega) ?_
  refine gd rfl rfl (mv rfl rfl (gd rfl rfl (gti rfl rfl rfl (pkf rfl rfl rfl ?_))))
  refine o_nil ?_; refine x_seq ?_; refine c_f rfl (by omega) ?_
  refine c_skip ?_
  refine x_seq ?_; refine c_seq ?_; refine c_reg ?_
  refine mv rfl rfl (cvi rfl rfl (rv 13 rfl (vi (show IntKind.u32.wrap 32 = ((32 : Nat) : Int) from by decide)) (cl (vs := [.int .u32 ((32 : Nat) : Int)]) rfl (pow_fn 32 (by omega) h) rfl (fun v3 h3 r3 => ?_))))
  obtain ⟨rfl, rfl⟩ := r3
  refine cvi rfl rfl (quo rfl rfl (by decide) rfl (rv 16 rfl (vi (show IntKind.i64.wrap ((IntKind.i64.wrap (2 ^ 32)).tdiv 2) = 2147483648 from by decide)) (asg rfl rfl ?_)))
  refine o_nil ?_; refine x_seq ?_; refine c_seq ?_; refine c_reg ?_; refine mv rfl rfl (mv rfl rfl (ng rfl rfl (rv 19 rfl (vi (show IntKind.i64.wrap (-2147483648) = -2147483648 from by decide)) (gei rfl rfl rfl (mv rfl rfl ?_)))))
  refine cs 21 rfl (fun c4 => ?_) (fun c4 => ?_)
  · refine gd rfl rfl (mv rfl rfl (gd rfl rfl (mv rfl rfl (gd rfl rfl (lti rfl rfl rfl (pkt rfl rfl rfl (asg rfl rfl ?_)))))))
    refine o_nil ?_; refine x_seq ?_; refine c_ret ?_; refine ret1 (.inr rfl) rfl rfl ?_
    have : (n < 2147483648) ↔ fit32 n := by unfold fit32; omega
    exact ⟨rfl, congrArg Value.bool (decide_eq_decide.2 this)⟩
  · refine gs rfl rfl rfl rfl (gs rfl rfl rfl rfl (gs rfl rfl rfl rfl (pkf rfl rfl rfl (asg rfl rfl ?_))))
    refine o_nil ?_; refine x_seq ?_; refine c_ret ?_; refine ret1 (.inr rfl) rfl rfl ?_
    exact ⟨rfl, vbf (fun e => by have := e.1; omega)⟩
end Go.Proofs.Ytkgmgnjgplabhaa
