/- Plain laws of a compact number's groups: how many there are, which have the high bit, and that they are read back. No condition but what each theorem says. -/
import Derived.Test.YtkgmgnjgplabhaaRid9
namespace Go.Proofs.Ytkgmgnjgplabhaa
open Go Go.Eng

/-- the numbers of j + 1 groups -/
def rng (j : Nat) (n : Int) : Prop := -(64 * 128 ^ j) ≤ n ∧ n < 64 * 128 ^ j
theorem rng_succ (j : Nat) (n : Int) : rng (j + 1) n ↔ rng j (n / 128) := by
  unfold rng
  rw [Int.pow_succ]
  generalize (128 : Int) ^ j = x
  omega
theorem cg_small {n : Int} (h : -64 ≤ n ∧ n < 64) (f : Nat) : cg f n = [b8 (n % 128)] := by
  cases f with
  | zero => rfl
  | succ f => rw [cg, if_pos h]
theorem cg_big {n : Int} (h : ¬ (-64 ≤ n ∧ n < 64)) (f : Nat) : cg (f + 1) n = b8 (n % 128 + 128) :: cg f (n / 128) := by rw [cg, if_neg h]
theorem cg_pos (f : Nat) (n : Int) : 1 ≤ (cg f n).length := by
  cases f with
  | zero => simp [cg]
  | succ f => unfold cg; split <;> simp
theorem cg_le : ∀ (j f : Nat) (n : Int), rng j n → (cg f n).length ≤ j + 1
  | 0, f, n, h => by rw [cg_small (by unfold rng at h; omega)]; simp
  | j + 1, 0, n, h => by simp [cg]
  | j + 1, f + 1, n, h => by
    by_cases hs : -64 ≤ n ∧ n < 64
    · rw [cg_small hs]; simp
    · rw [cg_big hs]
      have := cg_le j f (n / 128) ((rng_succ j n).1 h)
      simp only [List.length_cons]; omega
theorem cg_ge : ∀ (j f : Nat) (n : Int), ¬ rng j n → j < f → j + 2 ≤ (cg f n).length
  | 0, f + 1, n, h, hf => by
    rw [cg_big (by unfold rng at h; omega)]
    have := cg_pos f (n / 128)
    simp only [List.length_cons]; omega
  | j + 1, f + 1, n, h, hf => by
    have hs : ¬ (-64 ≤ n ∧ n < 64) := by
      intro e
      apply h
      have : (1 : Int) ≤ 128 ^ (j + 1) := by
        have := Nat.one_le_pow (j + 1) 128 (by omega); exact_mod_cast this
      unfold rng; omega
    rw [cg_big hs]
    have := cg_ge j f (n / 128) (fun e => h ((rng_succ j n).2 e)) (by omega)
    simp only [List.length_cons]; omega
theorem b8_val {x : Int} (h : 0 ≤ x ∧ x < 256) : ((b8 x).toNat : Int) = x := by rw [b8_nat]; omega
theorem cg_high : ∀ (f : Nat) (n : Int) (i : Nat) (c : UInt8), (cg f n)[i]? = some c → (128 ≤ c.toNat ↔ i + 1 < (cg f n).length)
  | 0, n, i, c, h => by
    cases i with
    | zero =>
      simp [cg] at h; subst h
      have := b8_val (x := n % 128) (by omega)
      simp [cg]; omega
    | succ i => simp [cg] at h
  | f + 1, n, i, c, h => by
    by_cases hs : -64 ≤ n ∧ n < 64
    · rw [cg_small hs] at h ⊢
      cases i with
      | zero =>
        simp at h; subst h
        have := b8_val (x := n % 128) (by omega)
        simp; omega
      | succ i => simp at h
    · rw [cg_big hs] at h ⊢
      cases i with
      | zero =>
        simp at h; subst h
        have := b8_val (x := n % 128 + 128) (by omega)
        have := cg_pos f (n / 128)
        simp; omega
      | succ i =>
        simp only [List.getElem?_cons_succ] at h
        have := cg_high f (n / 128) i c h
        simp only [List.length_cons]; omega
theorem fit_rng {n : Int} (h : fit32 n) : rng 4 n := by unfold fit32 at h; unfold rng; omega

theorem read_cg : ∀ (f k acc : Nat) (m n : Int) (t : List UInt8), rng f m → fit32 n → n = acc + m * ((2 ^ (7 * k) : Nat) : Int) → (compact n).length = k + (cg f m).length → k + (cg f m).length ≤ 5 →
    rn (5 - k) k acc (cg f m ++ t) = some (n, k + (cg f m).length)
  | f, k, acc, m, n, t, hr, hf, hn, hl, h5 => by
    have hp := cg_pos f m
    have p7 : 2 ^ (7 * (k + 1)) = 128 * 2 ^ (7 * k) := by rw [Nat.mul_add, Nat.pow_add]; omega
    by_cases hs : -64 ≤ m ∧ m < 64
    · rw [cg_small hs] at hl h5 ⊢
      have hv := b8_val (x := m % 128) (by omega)
      simp only [List.length_singleton] at hl h5
      rw [show 5 - k = (4 - k) + 1 by omega]
      simp only [List.singleton_append, List.length_singleton, rn]
      rw [if_neg (by omega)]
      have hx : (if 64 ≤ (b8 (m % 128)).toNat then ((acc + (b8 (m % 128)).toNat % 128 * 2 ^ (7 * k) : Nat) : Int) - ((2 ^ (7 * (k + 1)) : Nat) : Int) else ((acc + (b8 (m % 128)).toNat % 128 * 2 ^ (7 * k) : Nat) : Int)) = n := by
        rw [p7, hn]
        generalize 2 ^ (7 * k) = x
        generalize (b8 (m % 128)).toNat = y at *
        have hy : y % 128 = y := by omega
        rw [hy]
        by_cases h64 : 64 ≤ y
        · rw [if_pos h64]
          have hm : m = (y : Int) - 128 := by omega
          subst hm
          rw [Int.sub_mul]; push_cast; omega
        · rw [if_neg h64]
          have hm : m = (y : Int) := by omega
          subst hm
          push_cast; omega
      rw [hx]
      rw [if_pos ⟨hf, hl⟩]
    · cases f with
      | zero => exact absurd (by unfold rng at hr; omega) hs
      | succ f =>
        rw [cg_big hs] at hl h5 ⊢
        have hv := b8_val (x := m % 128 + 128) (by omega)
        have hp := cg_pos f (m / 128)
        simp only [List.length_cons] at hl h5
        rw [show 5 - k = (4 - k) + 1 by omega]
        simp only [List.cons_append, List.length_cons, rn]
        rw [if_pos (by omega)]
        have := read_cg f (k + 1) (acc + (b8 (m % 128 + 128)).toNat % 128 * 2 ^ (7 * k)) (m / 128) n t ((rng_succ f m).1 hr) hf ?_ (by omega) (by omega)
        · rw [show 4 - k = 5 - (k + 1) by omega, this]
          simp only [Option.some.injEq, Prod.mk.injEq, true_and]; omega
        · rw [hn, p7]
          generalize 2 ^ (7 * k) = x
          generalize (b8 (m % 128 + 128)).toNat = y at *
          have hm : m = ((y % 128 : Nat) : Int) + m / 128 * 128 := by omega
          generalize m / 128 = q at *
          generalize y % 128 = z at *
          subst hm
          push_cast
          rw [Int.add_mul, Int.mul_assoc]; omega
theorem numR_compact {n : Int} (h : fit32 n) (t : List UInt8) : numR (compact n ++ t) = some (n, (compact n).length) := by
  have hl := cg_le 4 10 n (fit_rng h)
  have hr : rng 10 n := by unfold fit32 at h; unfold rng; omega
  have := read_cg 10 0 0 n n t hr h (by simp) (by unfold compact; omega) (by omega)
  unfold numR compact
  simpa using this
end Go.Proofs.Ytkgmgnjgplabhaa
