/- Walks of the rider's small functions: which numbers fit, a compact number's groups, what is put. No condition but what each theorem says. -/
import Derived.Test.YtkgmgnjgplabhaaTab
namespace Go.Proofs.Ytkgmgnjgplabhaa
open Go Go.Eng

theorem wsh (s : Int) (hs : s = 1 ∨ s = -1) (k : Int) (hk : 0 ≤ k ∧ k ≤ 62) : IntKind.i64.wrap (s * 2 ^ (min k.toNat IntKind.i64.bits)) = s * 2 ^ k.toNat := by
  have h64 : IntKind.i64.bits = 64 := rfl
  have e : min k.toNat IntKind.i64.bits = k.toNat := by rw [h64]; omega
  rw [e]
  have hp : (1 : Int) ≤ 2 ^ k.toNat := by have := Nat.one_le_two_pow (n := k.toNat); exact_mod_cast this
  have hq : (2 : Int) ^ k.toNat ≤ 2 ^ 62 := by
    have := Nat.pow_le_pow_right (n := 2) (by omega) (show k.toNat ≤ 62 by omega); exact_mod_cast this
  apply w64
  rcases hs with rfl | rfl <;> omega

theorem fits_fn (n k : Int) (hk : 1 ≤ k ∧ k ≤ 32) (h : Heap) : Does Try.prog 27 [i64 n, i64 k] h (fun v h' => h' = h ∧ v = .bool (decide (-(2 ^ (k - 1).toNat) ≤ n ∧ n < 2 ^ (k - 1).toNat))) := by
  have e1 := wsh 1 (.inl rfl) (k - 1) (by omega)
  have e2 := wsh (-1) (.inr rfl) (k - 1) (by omega)
  refine fn_enter (N := 25) Try.func27 (by kernel_rfl) rfl rfl rfl (fun w0 => ?_)
  refine c_seq ?_; refine c_reg ?_; refine asg rfl rfl ?_; refine o_nil ?_; refine x_seq ?_; refine c_seq ?_; refine c_reg ?_
  refine mv rfl rfl (gei rfl rfl rfl (mv rfl rfl ?_))
  refine ct 7 rfl (by omega) ?_
  refine gd rfl rfl (mv rfl rfl (gd rfl rfl (lei rfl rfl rfl (pkt rfl rfl rfl (mv rfl rfl ?_)))))
  refine ct 11 rfl (by omega) ?_
  refine gd rfl rfl (mv rfl rfl (gd rfl rfl (sub rfl rfl (by omega) rfl (gd rfl rfl (shl rfl rfl (by omega) rfl (gd rfl rfl (mv rfl rfl (gd rfl rfl (lei rfl rfl rfl ?_)))))))))
  refine pkt rfl rfl rfl (mv rfl rfl ?_)
  refine cs 18 rfl (fun c3 => ?_) (fun c3 => ?_)
  · refine gd rfl rfl (mv rfl rfl (gd rfl rfl (mv rfl rfl (gd rfl rfl (sub rfl rfl (by omega) rfl (gd rfl rfl (shl rfl rfl (by omega) rfl (gd rfl rfl (lti rfl rfl rfl ?_)))))))))
    refine pkt rfl rfl rfl (asg rfl rfl ?_)
    refine o_nil ?_; refine x_seq ?_; refine c_ret ?_; refine ret1 (.inr rfl) rfl rfl ?_
    refine ⟨rfl, ?_⟩
    rw [e1, e2] at *
    exact vb (by omega)
  · refine gs rfl rfl rfl rfl (gs rfl rfl rfl rfl (gs rfl rfl rfl rfl (gs rfl rfl rfl rfl (gs rfl rfl rfl rfl (pkf rfl rfl rfl (asg rfl rfl ?_))))))
    refine o_nil ?_; refine x_seq ?_; refine c_ret ?_; refine ret1 (.inr rfl) rfl rfl ?_
    refine ⟨rfl, ?_⟩
    rw [e2] at c3
    exact vbf (by omega)
end Go.Proofs.Ytkgmgnjgplabhaa
