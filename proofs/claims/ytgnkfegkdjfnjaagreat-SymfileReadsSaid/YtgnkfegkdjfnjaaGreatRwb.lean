/- Plain laws of a compact number's groups: how many there are, which have the high bit, and that they are read back. Walks of the reference's Writer and of the reference's bits that it asks. Walks of the reference's Writer. No condition but what each theorem says. -/
import Derived.Test.YtgnkfegkdjfnjaaGreatRwr
namespace Go.Proofs.YtgnkfegkdjfnjaaGreat.R
/-! Plain laws of a compact number's groups: how many there are, which have the high bit, and that they are read back. No condition but what each theorem says. -/
section
open Go Go.Eng

/-- the numbers of j + 1 groups -/
def rng (j : Nat) (n : Int) : Prop := -(64 * 128 ^ j) ≤ n ∧ n < 64 * 128 ^ j
theorem rng_succ (j : Nat) (n : Int) : rng (j + 1) n ↔ rng j (n / 128) := by
  unfold rng
  rw [Int.pow_succ]
  generalize (128 : Int) ^ j = x
  omega
theorem cg_small {n : Int} (h : -64 ≤ n ∧ n < 64) (f : Nat) : cg f n = [b8 (n % 128)] := by
  cases f with
  | zero => rfl
  | succ f => rw [cg, if_pos h]
theorem cg_big {n : Int} (h : ¬ (-64 ≤ n ∧ n < 64)) (f : Nat) : cg (f + 1) n = b8 (n % 128 + 128) :: cg f (n / 128) := by rw [cg, if_neg h]
theorem cg_pos (f : Nat) (n : Int) : 1 ≤ (cg f n).length := by
  cases f with
  | zero => simp [cg]
  | succ f => unfold cg; split <;> simp
theorem cg_le : ∀ (j f : Nat) (n : Int), rng j n → (cg f n).length ≤ j + 1
  | 0, f, n, h => by rw [cg_small (by unfold rng at h; omega)]; simp
  | j + 1, 0, n, h => by simp [cg]
  | j + 1, f + 1, n, h => by
    by_cases hs : -64 ≤ n ∧ n < 64
    · rw [cg_small hs]; simp
    · rw [cg_big hs]
      have := cg_le j f (n / 128) ((rng_succ j n).1 h)
      simp only [List.length_cons]; omega
theorem cg_ge : ∀ (j f : Nat) (n : Int), ¬ rng j n → j < f → j + 2 ≤ (cg f n).length
  | 0, f + 1, n, h, hf => by
    rw [cg_big (by unfold rng at h; omega)]
    have := cg_pos f (n / 128)
    simp only [List.length_cons]; omega
  | j + 1, f + 1, n, h, hf => by
    have hs : ¬ (-64 ≤ n ∧ n < 64) := by
      intro e
      apply h
      have : (1 : Int) ≤ 128 ^ (j + 1) := by
        have := Nat.one_le_pow (j + 1) 128 (by omega); exact_mod_cast this
      unfold rng; omega
    rw [cg_big hs]
    have := cg_ge j f (n / 128) (fun e => h ((rng_succ j n).2 e)) (by omega)
    simp only [List.length_cons]; omega
theorem b8_val {x : Int} (h : 0 ≤ x ∧ x < 256) : ((b8 x).toNat : Int) = x := by rw [b8_nat]; omega
theorem cg_high : ∀ (f : Nat) (n : Int) (i : Nat) (c : UInt8), (cg f n)[i]? = some c → (128 ≤ c.toNat ↔ i + 1 < (cg f n).length)
  | 0, n, i, c, h => by
    cases i with
    | zero =>
      simp [cg] at h; subst h
      have := b8_val (x := n % 128) (by omega)
      simp [cg]; omega
    | succ i => simp [cg] at h
  | f + 1, n, i, c, h => by
    by_cases hs : -64 ≤ n ∧ n < 64
    · rw [cg_small hs] at h ⊢
      cases i with
      | zero =>
        simp at h; subst h
        have := b8_val (x := n % 128) (by omega)
        simp; omega
      | succ i => simp at h
    · rw [cg_big hs] at h ⊢
      cases i with
      | zero =>
        simp at h; subst h
        have := b8_val (x := n % 128 + 128) (by omega)
        have := cg_pos f (n / 128)
        simp; omega
      | succ i =>
        simp only [List.getElem?_cons_succ] at h
        have := cg_high f (n / 128) i c h
        simp only [List.length_cons]; omega
theorem fit_rng {n : Int} (h : fit32 n) : rng 4 n := by unfold fit32 at h; unfold rng; omega

theorem read_cg : ∀ (f k acc : Nat) (m n : Int) (t : List UInt8), rng f m → fit32 n → n = acc + m * ((2 ^ (7 * k) : Nat) : Int) → (compact n).length = k + (cg f m).length → k + (cg f m).length ≤ 5 →
    rn (5 - k) k acc (cg f m ++ t) = some (n, k + (cg f m).length)
  | f, k, acc, m, n, t, hr, hf, hn, hl, h5 => by
    have hp := cg_pos f m
    have p7 : 2 ^ (7 * (k + 1)) = 128 * 2 ^ (7 * k) := by rw [Nat.mul_add, Nat.pow_add]; omega
    by_cases hs : -64 ≤ m ∧ m < 64
    · rw [cg_small hs] at hl h5 ⊢
      have hv := b8_val (x := m % 128) (by omega)
      simp only [List.length_singleton] at hl h5
      rw [show 5 - k = (4 - k) + 1 by omega]
      simp only [List.singleton_append, List.length_singleton, rn]
      rw [if_neg (by omega)]
      have hx : (if 64 ≤ (b8 (m % 128)).toNat then ((acc + (b8 (m % 128)).toNat % 128 * 2 ^ (7 * k) : Nat) : Int) - ((2 ^ (7 * (k + 1)) : Nat) : Int) else ((acc + (b8 (m % 128)).toNat % 128 * 2 ^ (7 * k) : Nat) : Int)) = n := by
        rw [p7, hn]
        generalize 2 ^ (7 * k) = x
        generalize (b8 (m % 128)).toNat = y at *
        have hy : y % 128 = y := by omega
        rw [hy]
        by_cases h64 : 64 ≤ y
        · rw [if_pos h64]
          have hm : m = (y : Int) - 128 := by omega
          subst hm
          rw [Int.sub_mul]; push_cast; omega
        · rw [if_neg h64]
          have hm : m = (y : Int) := by omega
          subst hm
          push_cast; omega
      rw [hx]
      rw [if_pos ⟨hf, hl⟩]
    · cases f with
      | zero => exact absurd (by unfold rng at hr; omega) hs
      | succ f =>
        rw [cg_big hs] at hl h5 ⊢
        have hv := b8_val (x := m % 128 + 128) (by omega)
        have hp := cg_pos f (m / 128)
        simp only [List.length_cons] at hl h5
        rw [show 5 - k = (4 - k) + 1 by omega]
        simp only [List.cons_append, List.length_cons, rn]
        rw [if_pos (by omega)]
        have := read_cg f (k + 1) (acc + (b8 (m % 128 + 128)).toNat % 128 * 2 ^ (7 * k)) (m / 128) n t ((rng_succ f m).1 hr) hf ?_ (by omega) (by omega)
        · rw [show 4 - k = 5 - (k + 1) by omega, this]
          simp only [Option.some.injEq, Prod.mk.injEq, true_and]; omega
        · rw [hn, p7]
          generalize 2 ^ (7 * k) = x
          generalize (b8 (m % 128 + 128)).toNat = y at *
          have hm : m = ((y % 128 : Nat) : Int) + m / 128 * 128 := by omega
          generalize m / 128 = q at *
          generalize y % 128 = z at *
          subst hm
          push_cast
          rw [Int.add_mul, Int.mul_assoc]; omega
theorem numR_compact {n : Int} (h : fit32 n) (t : List UInt8) : numR (compact n ++ t) = some (n, (compact n).length) := by
  have hl := cg_le 4 10 n (fit_rng h)
  have hr : rng 10 n := by unfold fit32 at h; unfold rng; omega
  have := read_cg 10 0 0 n n t hr h (by simp) (by unfold compact; omega) (by omega)
  unfold numR compact
  simpa using this
end

/-! Walks of the reference's Writer and of the reference's bits that it asks. No condition but what each theorem says. -/
section
open Go Go.Eng

theorem tmod_lit (x m : Int) : x.tmod m = if 0 ≤ x then x % m else -((-x) % m) := by
  split
  · rename_i h; exact Int.tmod_eq_emod_of_nonneg h
  · rename_i h
    have : x.tmod m = -((-x).tmod m) := by rw [Int.neg_tmod, Int.neg_neg]
    rw [this, Int.tmod_eq_emod_of_nonneg (by omega)]
theorem t256 (x : Int) : (x.tmod 256 + 256).tmod 256 = x % 256 := by
  rw [tmod_lit x, tmod_lit]; split <;> split <;> omega
theorem t128 (x : Int) : (x.tmod 128 + 128).tmod 128 = x % 128 := by
  rw [tmod_lit x, tmod_lit]; split <;> split <;> omega
theorem w_u32 {x : Int} (h : 0 ≤ x ∧ x < 4294967296) : IntKind.u32.wrap x = x := by rw [IntKind.wrap_u32]; omega
theorem w_u64 {x : Int} (h : 0 ≤ x ∧ x < 18446744073709551616) : IntKind.u64.wrap x = x := by simp [IntKind.wrap, IntKind.bits, IntKind.signed]; omega
theorem pow_cast (n : Nat) : ((2 ^ n : Nat) : Int) = (2 : Int) ^ n := by simp
theorem pow_lt (n : Nat) (h : n ≤ 32) : (1 : Int) ≤ (2 : Int) ^ n ∧ (2 : Int) ^ n ≤ 4294967296 := by
  have h1 := Nat.one_le_two_pow (n := n)
  have h2 := Nat.pow_le_pow_right (n := 2) (by omega) h
  have h3 : (2 : Nat) ^ 32 = 4294967296 := by decide
  rw [← pow_cast]; omega

theorem pow_fn (n : Nat) (hn : n ≤ 32) (h : Heap) : Does Tryz.prog 77 [.int .u32 (n : Nat)] h (fun v h' => h' = h ∧ v = .int .u64 (2 ^ n)) := by
  refine fn_enter (N := 13) Tryz.func77 (by kernel_rfl) rfl rfl rfl (fun w0 => ?_)
  refine c_seq ?_; refine c_reg ?_; refine asg rfl rfl ?_; refine o_nil ?_; refine x_seq ?_; refine c_seq ?_; refine c_reg ?_; refine asg rfl rfl ?_
  refine o_nil ?_; refine x_seq ?_; refine c_seq ?_; refine c_seq ?_; refine c_reg ?_; refine asg rfl rfl ?_; refine o_nil ?_; refine x_seq ?_
  refine c_blk ?_
  refine c_loop (α := Nat) (fun i => [(0, .int .u32 (n : Nat)), (3, .int .u64 (2 ^ i)), (4, .int .u32 (i : Nat))]) (fun _ => h) (fun i => i ≤ n) (fun i => n - i) 0 (by omega) ⟨rfl, rfl, rfl, trivial⟩ rfl (fun i hi => ?_)
  refine c_seq ?_; refine c_seq ?_; refine c_reg ?_; refine mv rfl rfl (mv rfl rfl (lti rfl rfl rfl ?_))
  refine o_nil ?_; refine x_seq ?_; refine c_cond rfl (fun c1 => ?_) (fun c1 => ?_)
  · have hin : i < n := by omega
    have hp := pow_lt (i + 1) (by omega)
    have he : (2 : Int) ^ (i + 1) = 2 ^ i * 2 := Int.pow_succ ..
    refine c_skip ?_
    refine x_seq ?_; refine c_seq ?_; refine c_blk ?_; refine c_reg ?_; refine mv rfl rfl (mulw rfl rfl rfl (rv 11 rfl (vi (show IntKind.u64.wrap (2 ^ i * 2) = 2 ^ (i + 1) from by rw [← he]; exact w_u64 (by omega))) (asg rfl rfl ?_)))
    refine o_nil ?_; refine x_blk ?_; refine x_seq ?_; refine c_reg ?_; refine mv rfl rfl (addw rfl rfl rfl (rv 9 rfl (vi (show IntKind.u32.wrap ((i : Int) + 1) = ((i + 1 : Nat) : Int) from by rw [w_u32 (by omega)]; omega)) (asg rfl rfl ?_)))
    refine o_nil ?_
    exact x_loop (i + 1) hin (by omega) ⟨rfl, rfl, rfl, trivial⟩ rfl
  · have hin : i = n := by omega
    subst hin
    refine c_exit ?_
    refine x_seq_exit ?_; refine x_loop_exit ?_; refine x_blk_hit ?_; refine x_seq ?_; refine c_seq ?_; refine c_reg ?_
    refine mv rfl rfl (asg rfl rfl ?_)
    refine o_nil ?_; refine x_seq ?_; refine c_ret ?_; refine ret1 (.inr rfl) rfl rfl ?_
    exact ⟨rfl, rfl⟩

theorem rfits_fn (n : Int) (h : Heap) : Does Tryz.prog 67 [i64 n, i64 32] h (fun v h' => h' = h ∧ v = .bool (decide (fit32 n))) := by
  refine fn_enter (N := 26) Tryz.func67 (by kernel_rfl) rfl rfl rfl (fun w0 => ?_)
  refine c_seq ?_; refine c_reg ?_; refine asg rfl rfl ?_; refine o_nil ?_; refine x_seq ?_; refine c_seq ?_; refine c_seq ?_; refine c_reg ?_
  refine mv rfl rfl (lti rfl rfl rfl (mv rfl rfl ?_))
  refine cf 8 rfl (by omega) ?_
  refine gd rfl rfl (mv rfl rfl (gd rfl rfl (gti rfl rfl rfl (pkf rfl rfl rfl ?_))))
  refine o_nil ?_; refine x_seq ?_; refine c_f rfl (by omega) ?_
  refine c_skip ?_
  refine x_seq ?_; refine c_seq ?_; refine c_reg ?_
  refine mv rfl rfl (cvi rfl rfl (rv 13 rfl (vi (show IntKind.u32.wrap 32 = ((32 : Nat) : Int) from by decide)) (cl (vs := [.int .u32 ((32 : Nat) : Int)]) rfl (pow_fn 32 (by omega) h) rfl (fun v3 h3 r3 => ?_))))
  obtain ⟨rfl, rfl⟩ := r3
  refine cvi rfl rfl (quo rfl rfl (by decide) rfl (rv 16 rfl (vi (show IntKind.i64.wrap ((IntKind.i64.wrap (2 ^ 32)).tdiv 2) = 2147483648 from by decide)) (asg rfl rfl ?_)))
  refine o_nil ?_; refine x_seq ?_; refine c_seq ?_; refine c_reg ?_; refine mv rfl rfl (mv rfl rfl (ng rfl rfl (rv 19 rfl (vi (show IntKind.i64.wrap (-2147483648) = -2147483648 from by decide)) (gei rfl rfl rfl (mv rfl rfl ?_)))))
  refine cs 21 rfl (fun c4 => ?_) (fun c4 => ?_)
  · refine gd rfl rfl (mv rfl rfl (gd rfl rfl (mv rfl rfl (gd rfl rfl (lti rfl rfl rfl (pkt rfl rfl rfl (asg rfl rfl ?_)))))))
    refine o_nil ?_; refine x_seq ?_; refine c_ret ?_; refine ret1 (.inr rfl) rfl rfl ?_
    have : (n < 2147483648) ↔ fit32 n := by unfold fit32; omega
    exact ⟨rfl, congrArg Value.bool (decide_eq_decide.2 this)⟩
  · refine gs rfl rfl rfl rfl (gs rfl rfl rfl rfl (gs rfl rfl rfl rfl (pkf rfl rfl rfl (asg rfl rfl ?_))))
    refine o_nil ?_; refine x_seq ?_; refine c_ret ?_; refine ret1 (.inr rfl) rfl rfl ?_
    exact ⟨rfl, vbf (fun e => by have := e.1; omega)⟩
end

/-! Walks of the reference's Writer. No condition but what each theorem says. -/
section
open Go Go.Eng

/-- the reference's Writer lies at block q -/
structure Q (h : Heap) (q : Nat) (vb : Value) (all : List UInt8) (sp : Bool) : Prop where
  blk : h[q]? = some (.cells #[vb, .bool sp] 102 (0, 0))
  own : Owns h 5 1 vb all.length (bcells all)
  ne : ¬ ownB vb q
theorem Q.mod {S : Nat → Prop} {h h' : Heap} {q : Nat} {vb : Value} {all : List UInt8} {sp : Bool} (w : Q h q vb all sp) (x : Mod S h h') (hp : ¬ S q) (hv : ∀ k, ownB vb k → ¬ S k) : Q h' q vb all sp :=
  ⟨x.get w.blk hp, w.own.mod x hv, w.ne⟩

/-- an append's end: the slice is laid back -/
theorem Q.laid {h h1 h2 h3 : Heap} {q : Nat} {vb v2 : Value} {all l : List UInt8} {sp : Bool} (w : Q h q vb all sp) (x1 : Ext h h1) (o2 : Owns h2 5 1 v2 (all.length + l.length) (bcells all ++ bcells l)) (m2 : Mod (ownB vb) h1 h2)
    (f2 : ∀ k, ownB v2 k → ownB vb k ∨ h1.size ≤ k) (u3 : Upd h2 q (.cells #[v2, .bool sp] 102 (0, 0)) h3) : Q h3 q v2 (all ++ l) sp ∧ WS h q vb h3 v2 := by
  have hq := lt_of_get w.blk
  have hs := x1.size
  have hne : ¬ ownB v2 q := fun e => (f2 q e).elim w.ne (fun e => by omega)
  have e : bcells all ++ bcells l = bcells (all ++ l) := by simp [bcells]
  rw [e, ← List.length_append] at o2
  refine ⟨⟨u3.at_, o2.mod u3.mod (fun k hk e => hne (e ▸ hk)), hne⟩, ⟨⟨by rw [u3.size]; exact Nat.le_trans hs m2.size, fun k hk hn => ?_⟩, fun k hk => (f2 k hk).imp id (fun e => Nat.le_trans hs e)⟩⟩
  rw [u3.mod.same k (by have := m2.size; omega) (fun e => hn (.inl e)), m2.same k (by omega) (fun e => hn (.inr e))]
  exact x1.same k hk (fun e => e)
theorem Q.spoilt {h h3 : Heap} {q : Nat} {vb : Value} {all : List UInt8} {sp : Bool} (w : Q h q vb all sp) (u3 : Upd h q (.cells #[vb, .bool true] 102 (0, 0)) h3) : Q h3 q vb all true ∧ WS h q vb h3 vb := by
  refine ⟨⟨u3.at_, w.own.mod u3.mod (fun k hk e => w.ne (e ▸ hk)), w.ne⟩, ⟨u3.mod.mono (fun k _ e => .inl e), fun k hk => .inl hk⟩⟩

theorem QByte_fn {h : Heap} {q : Nat} {vb : Value} {all : List UInt8} {sp : Bool} (w : Q h q vb all sp) (hl : all.length ≤ 100000000) (b : Int) :
    Does Tryz.prog 76 [ptr q 0, i64 b] h (fun v h' => v = .tuple #[] ∧ ∃ vb', Q h' q vb' (all ++ [b8 b]) sp ∧ WS h q vb h' vb') := by
  have hb := w.blk
  have ht := t256 b
  have hr : -256 < b.tmod 256 ∧ b.tmod 256 < 256 := by rw [tmod_lit]; split <;> omega
  refine fn_enter (N := 18) Tryz.func76 (by kernel_rfl) rfl rfl rfl (fun w0 => ?_)
  refine c_reg ?_
  refine mv rfl rfl (mv rfl rfl (nck rfl rfl (fa rfl rfl (ld rfl (cell hb rfl) rfl (mv rfl rfl (rem rfl rfl (by decide) rfl (add rfl rfl (by omega) rfl (rem rfl rfl (by decide) rfl ?_))))))))
  refine cvi rfl rfl (rv 13 rfl (vi (show IntKind.u8.wrap ((b.tmod 256 + 256).tmod 256) = ((b8 b).toNat : Int) from by rw [ht, b8_nat, IntKind.wrap_u8]; omega)) (bsl (vs := [(0, .int .u8 ((b8 b).toNat : Int))]) (cs := #[.int .u8 ((b8 b).toNat : Int)]) (E := 5) rfl (fun _ => by kernel_rfl) nofun rfl (fun h1 n1 => ?_)))
  have o1 := w.own.mod n1.ext (fun _ _ e => e)
  refine app (news := bcells [b8 b]) U_sl rfl rfl o1 (Src.slice rfl (row_blk n1.at_)) rfl (bcells_one _) (by unfold maxLen; omega) (by omega) nofun rfl (fun v2 h2 o2 m2 f2 => ?_)
  have hb2 := m2.get (n1.ext.get hb) w.ne
  refine nck rfl rfl (fa rfl rfl (st rfl rfl o2.one hb2 rfl nofun (fun h3 u3 => ?_)))
  refine o_nil ?_; refine ret0 (.inl rfl) rfl ?_
  exact ⟨rfl, v2, w.laid n1.ext o2 m2 f2 u3⟩

theorem WS.comp {h h1 h2 : Heap} {q : Nat} {vb v1 : Value} {R : Value → Prop} (a : WS h q vb h1 v1) (b : ∃ v2, R v2 ∧ WS h1 q v1 h2 v2) : ∃ v2, R v2 ∧ WS h q vb h2 v2 :=
  b.imp fun _ ⟨r, s⟩ => ⟨r, a.trans s⟩

set_option maxHeartbeats 800000 in
theorem QNum_fn {h : Heap} {q : Nat} {vb : Value} {all : List UInt8} {sp : Bool} (w : Q h q vb all sp) (hl : all.length ≤ 90000000) (n : Int) :
    Does Tryz.prog 66 [ptr q 0, i64 n] h (fun v h' => v = .tuple #[] ∧ ∃ vb', Q h' q vb' (if fit32 n then all ++ compact n else all) (if fit32 n then sp else true) ∧ WS h q vb h' vb') := by
  have hb := w.blk
  refine fn_enter (N := 35) Tryz.func66 (by kernel_rfl) rfl rfl rfl (fun w0 => ?_)
  refine c_seq ?_; refine c_seq ?_; refine c_reg ?_; refine mv rfl rfl (cl (vs := [i64 n, i64 32]) rfl (rfits_fn n h) rfl (fun v1 h1 r1 => ?_))
  obtain ⟨rfl, rfl⟩ := r1
  refine nt rfl rfl ?_; refine o_nil ?_; refine x_seq ?_; refine c_cond rfl (fun c2 => ?_) (fun c2 => ?_)
  · refine c_seq ?_
    refine c_reg ?_; refine mv rfl rfl (nck rfl rfl (fa rfl rfl (st rfl rfl rfl hb rfl nofun (fun h3 u3 => ?_))))
    refine o_nil ?_; refine x_seq ?_; refine c_ret ?_; refine x_seq_ret ?_; refine ret0 (.inr rfl) rfl ?_
    rw [if_neg c2, if_neg c2]
    exact ⟨rfl, vb, w.spoilt u3⟩
  · have hf : fit32 n := Classical.not_not.1 c2
    rw [if_pos hf, if_pos hf]
    have hf' := hf
    unfold fit32 at hf'
    refine c_skip ?_
    refine x_seq ?_; refine c_seq ?_; refine c_blk ?_
    refine c_loop (α := Nat × Int × List UInt8 × Value × Heap) (fun y => [(0, ptr q 0), (1, i64 y.2.1)]) (fun y => y.2.2.2.2)
      (fun y => (-4294967296 ≤ y.2.1 ∧ y.2.1 ≤ 4294967296) ∧ rng y.1 y.2.1 ∧ y.2.2.1 ++ cg y.1 y.2.1 = compact n ∧ y.2.2.1.length + y.1 = 10 ∧ Q y.2.2.2.2 q y.2.2.2.1 (all ++ y.2.2.1) sp ∧ WS h1 q vb y.2.2.2.2 y.2.2.2.1)
      (fun y => y.1) (10, n, [], vb, h1) ⟨by simp only; omega, by unfold rng; simp only; omega, rfl, rfl, by simpa using w, WS.refl _ _ _⟩ ⟨rfl, rfl, trivial⟩ rfl (fun y hy => ?_)
    obtain ⟨f, m, ys, v, h2⟩ := y
    obtain ⟨hm, hrng, hcg, hlen, w2, s2⟩ := hy
    simp only at hm hrng hcg hlen w2 s2
    have hl2 : (all ++ ys).length ≤ 90000010 := by simp; omega
    refine c_seq ?_
    refine c_cut (α := Unit) (fun _ => [(0, ptr q 0), (1, i64 m), (15, .bool (decide (¬ (-64 ≤ m ∧ m < 64))))]) (fun _ => h2) (fun _ => True) ?_ ?_
    · refine c_reg ?_; refine mv rfl rfl (lti rfl rfl rfl (mv rfl rfl ?_))
      refine cs 12 rfl (fun c4 => ?_) (fun c4 => ?_)
      · refine gs rfl rfl rfl rfl (gs rfl rfl rfl rfl (pkt rfl rfl rfl ?_))
        refine o_nil ?_
        exact x_cut () trivial ⟨rfl, rfl, by rw [decide_eq_true (show ¬ (-64 ≤ m ∧ m < 64) from fun e => absurd (show m < -64 from c4) (by omega))]; rfl, trivial⟩ rfl
      · have c5 : ¬ m < -64 := c4
        refine gd rfl rfl (mv rfl rfl (gd rfl rfl (gti rfl rfl rfl (pkf rfl rfl rfl ?_))))
        refine o_nil ?_
        refine x_cut () trivial ⟨rfl, rfl, ?_, trivial⟩ rfl
        have : (m > 63) ↔ ¬ (-64 ≤ m ∧ m < 64) := by omega
        exact congrArg some (congrArg Value.bool (decide_eq_decide.2 this))
    intro _ _
    have hr : -128 < m.tmod 128 ∧ m.tmod 128 < 128 := by rw [tmod_lit]; split <;> omega
    have ht := t128 m
    refine c_cond rfl (fun c6 => ?_) (fun c6 => ?_)
    · obtain ⟨f, rfl⟩ : ∃ g, f = g + 1 := by
        cases f with
        | zero => exact absurd (by unfold rng at hrng; omega) c6
        | succ g => exact ⟨g, rfl⟩
      rw [cg_big c6] at hcg
      refine c_skip ?_
      refine x_seq ?_; refine c_blk ?_; refine c_seq ?_; refine c_reg ?_
      refine mv rfl rfl (mv rfl rfl (rem rfl rfl (by decide) rfl (add rfl rfl (by omega) rfl (rem rfl rfl (by decide) rfl (rv 20 rfl (vi ht) (add rfl rfl (by omega) rfl (cl (vs := [ptr q 0, i64 (m % 128 + 128)]) rfl (QByte_fn w2 (by omega) _) rfl (fun v7 h7 r7 => ?_))))))))
      obtain ⟨rfl, v8, w8, s8⟩ := r7
      rw [List.append_assoc] at w8
      refine o_nil ?_; refine x_seq ?_; refine c_reg ?_
      refine mv rfl rfl (mv rfl rfl (rem rfl rfl (by decide) rfl (add rfl rfl (by omega) rfl (rem rfl rfl (by decide) rfl (rv 27 rfl (vi ht) (sub rfl rfl (by omega) rfl (quo rfl rfl (by decide) rfl ?_)))))))
      refine rv 29 rfl (vi (show IntKind.i64.wrap ((m - m % 128).tdiv 128) = m / 128 from ?_)) ?_
      · rw [Int.tdiv_eq_ediv_of_dvd (by omega), w64 (by omega)]; omega
      refine asg rfl rfl ?_; refine o_nil ?_; refine x_blk ?_
      exact x_loop (f, m / 128, ys ++ [b8 (m % 128 + 128)], v8, h7) ⟨by simp only; omega, (rng_succ f m).1 hrng, by simp only; rw [← hcg]; simp, by simp only [List.length_append, List.length_singleton]; omega, w8, s2.trans s8⟩ (by simp only; omega) ⟨rfl, rfl, trivial⟩ rfl
    · have c7 : -64 ≤ m ∧ m < 64 := Classical.not_not.1 c6
      rw [cg_small c7] at hcg
      refine c_exit ?_
      refine x_seq_exit ?_; refine x_loop_exit ?_; refine x_blk_hit ?_; refine x_seq ?_; refine c_reg ?_
      refine mv rfl rfl (mv rfl rfl (add rfl rfl (by omega) rfl (rem rfl rfl (by decide) rfl (rv 33 rfl (vi (show (m + 128).tmod 128 = m % 128 from by rw [tmod_lit]; split <;> omega)) (cl (vs := [ptr q 0, i64 (m % 128)]) rfl (QByte_fn w2 (by omega) _) rfl (fun v8 h8 r8 => ?_))))))
      obtain ⟨rfl, r8⟩ := r8
      rw [List.append_assoc, hcg] at r8
      refine o_nil ?_; refine ret0 (.inl rfl) rfl ?_
      exact ⟨rfl, s2.comp r8⟩

end
end Go.Proofs.YtgnkfegkdjfnjaaGreat.R
