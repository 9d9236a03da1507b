/- Walks of the rider's Writer: a compact number's groups, Num. No condition but what each theorem says. -/
import Derived.Test.YtkgmgnjgplabhaaRid4
namespace Go.Proofs.Ytkgmgnjgplabhaa
open Go Go.Eng

theorem or128 (x : Int) : bits2 .or .u8 (IntKind.u8.wrap x) 128 = x % 128 + 128 := by
  have key : ∀ m : Fin 256, bits2 .or .u8 (m.val : Int) 128 = (m.val : Int) % 128 + 128 := by decide +kernel
  have h1 := Int.emod_nonneg x (show (256 : Int) ≠ 0 by decide)
  have h2 := Int.emod_lt_of_pos x (show (0 : Int) < 256 by decide)
  have := key ⟨(x % 256).toNat, by omega⟩
  rw [IntKind.wrap_u8]
  simp only [Int.toNat_of_nonneg h1] at this
  rw [this]; omega
theorem and127 (x : Int) : bits2 .and .u8 (IntKind.u8.wrap x) 127 = x % 128 := by
  have key : ∀ m : Fin 256, bits2 .and .u8 (m.val : Int) 127 = (m.val : Int) % 128 := by decide +kernel
  have h1 := Int.emod_nonneg x (show (256 : Int) ≠ 0 by decide)
  have h2 := Int.emod_lt_of_pos x (show (0 : Int) < 256 by decide)
  have := key ⟨(x % 256).toNat, by omega⟩
  rw [IntKind.wrap_u8]
  simp only [Int.toNat_of_nonneg h1] at this
  rw [this]; omega
theorem shr7 (x : Int) : x.fdiv (2 ^ min (7 : Int).toNat IntKind.i64.bits) = x / 128 := by
  have : (2 : Int) ^ min (7 : Int).toNat IntKind.i64.bits = 128 := by decide
  rw [this, Int.fdiv_eq_ediv]; simp

/-- a compact number's groups -/
def cg : Nat → Int → List UInt8
  | 0, n => [b8 (n % 128)]
  | f + 1, n => if -64 ≤ n ∧ n < 64 then [b8 (n % 128)] else b8 (n % 128 + 128) :: cg f (n / 128)
def compact (n : Int) : List UInt8 := cg 10 n
theorem cg_len : ∀ (f : Nat) (n : Int), (cg f n).length ≤ f + 1
  | 0, n => by simp [cg]
  | f + 1, n => by
    unfold cg
    split
    · simp
    · have := cg_len f (n / 128); simp; omega

set_option maxHeartbeats 400000 in
theorem compact_fn (n : Int) (hn : -9223372036854775808 ≤ n ∧ n ≤ 9223372036854775807) (h : Heap) :
    Does Try.prog 30 [i64 n] h (fun v h' => v = str (compact n) ∧ Ext h h') := by
  refine fn_enter (N := 22) Try.func30 (by kernel_rfl) rfl rfl rfl (fun w0 => ?_)
  refine c_seq ?_; refine c_reg ?_; refine asg rfl rfl ?_; refine o_nil ?_; refine x_seq ?_; refine c_seq ?_; refine c_reg ?_; refine asg rfl rfl ?_
  refine o_nil ?_; refine x_seq ?_; refine c_seq ?_; refine c_blk ?_
  refine c_loop (α := Nat × Int × List UInt8 × Value × Heap) (fun y => [(0, i64 y.2.1), (3, y.2.2.2.1)]) (fun y => y.2.2.2.2)
    (fun y => -(64 * 128 ^ y.1) ≤ y.2.1 ∧ y.2.1 < 64 * 128 ^ y.1 ∧ y.2.2.1 ++ cg y.1 y.2.1 = compact n ∧ y.2.2.1.length + y.1 = 10 ∧ Owns y.2.2.2.2 5 1 y.2.2.2.1 y.2.2.1.length (bcells y.2.2.1) ∧ Ext h y.2.2.2.2 ∧ ∀ k, ownB y.2.2.2.1 k → h.size ≤ k)
    (fun y => y.1) (10, n, [], .slice none 0 0, h) ⟨by simp only; omega, by simp only; omega, rfl, rfl, Owns.nil _ _ _, Mod.refl _ _, fun k hk => by simp [ownB, Value.ownBlock] at hk⟩ ⟨rfl, rfl, trivial⟩ rfl (fun y hy => ?_)
  obtain ⟨f, m, xs, v, h1⟩ := y
  obtain ⟨hm1, hm2, hcg, hlen, ho, x1, hk1⟩ := hy
  simp only at hm1 hm2 hcg hlen ho x1 hk1
  refine c_seq ?_; refine c_seq ?_; refine c_reg ?_; refine mv rfl rfl (cl (vs := [i64 m, i64 7]) rfl (fits_fn m 7 (by omega) h1) rfl (fun v1 h1' r1 => ?_))
  obtain ⟨rfl, rfl⟩ := r1
  have e6 : (2 : Int) ^ (7 - 1 : Int).toNat = 64 := by decide
  rw [e6]
  refine nt rfl rfl ?_; refine o_nil ?_; refine x_seq ?_; refine c_cond rfl (fun c2 => ?_) (fun c2 => ?_)
  · refine c_skip ?_
    obtain ⟨f, rfl⟩ : ∃ g, f = g + 1 := by
      cases f with
      | zero => simp at hm1 hm2; omega
      | succ g => exact ⟨g, rfl⟩
    refine x_seq ?_; refine c_seq ?_; refine c_blk ?_; refine c_reg ?_
    refine mv rfl rfl (mv rfl rfl (cvi rfl rfl (bit (by decide) rfl rfl rfl (rv 12 rfl (vi (or128 m)) (bsl (vs := [(0, .int .u8 (m % 128 + 128))]) (cs := #[.int .u8 (m % 128 + 128)]) (E := 5) rfl (fun _ => by kernel_rfl) nofun rfl (fun h3 n3 => ?_))))))
    have eb : Value.int .u8 (m % 128 + 128) = .int .u8 ((b8 (m % 128 + 128)).toNat : Int) := by rw [b8_nat]; exact vi (by omega)
    have o3 := ho.mod n3.ext (fun _ _ e => e)
    refine app (news := bcells [b8 (m % 128 + 128)]) U_sl rfl rfl o3 (Src.slice rfl (by rw [show bcells [b8 (m % 128 + 128)] = [.int .u8 (m % 128 + 128)] by simp [bcells, eb]]; exact row_blk n3.at_)) rfl (bcells_one _) (by unfold maxLen; omega) (by omega) nofun rfl (fun v4 h4 o4 m4 f4 => ?_)
    refine asg rfl rfl ?_; refine o_nil ?_; refine x_blk ?_; refine x_seq ?_; refine c_reg ?_
    refine mv rfl rfl (shr rfl rfl (by omega) rfl (rv 8 rfl (vi (shr7 m)) (asg rfl rfl ?_)))
    refine o_nil ?_
    have e1 : bcells xs ++ bcells [b8 (m % 128 + 128)] = bcells (xs ++ [b8 (m % 128 + 128)]) := by simp [bcells]
    rw [e1] at o4
    refine x_loop (f, m / 128, xs ++ [b8 (m % 128 + 128)], v4, h4) ⟨?_, ?_, ?_, ?_, ?_, ?_, ?_⟩ (by simp only; omega) ⟨rfl, rfl, trivial⟩ rfl
    · simp only; rw [Int.pow_succ] at hm1; omega
    · simp only; rw [Int.pow_succ] at hm2; omega
    · simp only; rw [← hcg, cg, if_neg c2]; simp
    · simp only [List.length_append, List.length_singleton]; omega
    · simpa using o4
    · exact ⟨Nat.le_trans x1.size (Nat.le_trans n3.ext.size m4.size), fun k hk _ => (m4.same k (by have := x1.size; have := n3.size; omega) (fun e => by have := hk1 k e; omega)).trans ((n3.ext.same k (by have := x1.size; omega) (fun e => e)).trans (x1.same k hk (fun e => e)))⟩
    · intro k hk
      rcases f4 k hk with e | e
      · exact hk1 k e
      · have := x1.size; have := n3.size; omega
  · refine c_exit ?_
    have c3 : -64 ≤ m ∧ m < 64 := by simpa using c2
    refine x_seq_exit ?_; refine x_loop_exit ?_; refine x_blk_hit ?_; refine x_seq ?_; refine c_seq ?_; refine c_reg ?_
    refine mv rfl rfl (mv rfl rfl (cvi rfl rfl (bit (by decide) rfl rfl rfl (rv 18 rfl (vi (and127 m)) (bsl (vs := [(0, .int .u8 (m % 128))]) (cs := #[.int .u8 (m % 128)]) (E := 5) rfl (fun _ => by kernel_rfl) nofun rfl (fun h5 n5 => ?_))))))
    have eb : Value.int .u8 (m % 128) = .int .u8 ((b8 (m % 128)).toNat : Int) := by rw [b8_nat]; exact vi (by omega)
    have o5 := ho.mod n5.ext (fun _ _ e => e)
    refine app (news := bcells [b8 (m % 128)]) U_sl rfl rfl o5 (Src.slice rfl (by rw [show bcells [b8 (m % 128)] = [.int .u8 (m % 128)] by simp [bcells, eb]]; exact row_blk n5.at_)) rfl (bcells_one _) (by unfold maxLen; omega) (by omega) nofun rfl (fun v6 h6 o6 m6 f6 => ?_)
    have e1 : bcells xs ++ bcells [b8 (m % 128)] = bcells (compact n) := by
      rw [← hcg]
      have : cg f m = [b8 (m % 128)] := by cases f with
        | zero => rfl
        | succ g => rw [cg, if_pos c3]
      simp [bcells, this]
    rw [e1] at o6
    refine cvo rfl o6 rfl (asg rfl rfl ?_)
    refine o_nil ?_; refine x_seq ?_; refine c_ret ?_; refine ret1 (.inr rfl) rfl rfl ?_
    exact ⟨rfl, ⟨Nat.le_trans x1.size (Nat.le_trans n5.ext.size m6.size), fun k hk _ => (m6.same k (by have := x1.size; have := n5.size; omega) (fun e => by have := hk1 k e; omega)).trans ((n5.ext.same k (by have := x1.size; omega) (fun e => e)).trans (x1.same k hk (fun e => e)))⟩⟩

/-- does a number fit 32 bits? -/
def fit32 (n : Int) : Prop := -2147483648 ≤ n ∧ n < 2147483648
instance (n : Int) : Decidable (fit32 n) := by unfold fit32; exact inferInstance
theorem Num_fn {h : Heap} {p : Nat} {vb : Value} {all : List UInt8} {sp : Bool} (w : W h p vb all sp) (n : Int) (hn : -9223372036854775808 ≤ n ∧ n ≤ 9223372036854775807) :
    Does Try.prog 9 [ptr p 0, i64 n] h (fun v h' => v = .tuple #[] ∧ ∃ vb', W h' p vb' (if fit32 n then all ++ compact n else all) (if fit32 n then sp else true) ∧ WS h p vb h' vb') := by
  refine fn_enter (N := 13) Try.func9 (by kernel_rfl) rfl rfl rfl (fun w0 => ?_)
  refine c_seq ?_; refine c_seq ?_; refine c_reg ?_; refine mv rfl rfl (cl (vs := [i64 n, i64 32]) rfl (fits_fn n 32 (by omega) h) rfl (fun v1 h1 r1 => ?_))
  obtain ⟨rfl, rfl⟩ := r1
  have e6 : (2 : Int) ^ (32 - 1 : Int).toNat = 2147483648 := by decide
  rw [e6]
  refine nt rfl rfl ?_; refine o_nil ?_; refine x_seq ?_; refine c_cond rfl (fun c2 => ?_) (fun c2 => ?_)
  · refine c_seq ?_
    refine c_reg ?_; refine mv rfl rfl (cl (vs := [ptr p 0]) rfl (spoil_fn w) rfl (fun v3 h3 r3 => ?_))
    obtain ⟨rfl, w3, s3⟩ := r3
    refine o_nil ?_; refine x_seq ?_; refine c_ret ?_; refine x_seq_ret ?_; refine ret0 (.inr rfl) rfl ?_
    have c4 : ¬ fit32 n := c2
    rw [if_neg c4, if_neg c4]
    exact ⟨rfl, vb, w3, s3⟩
  · refine c_skip ?_
    have c3 : fit32 n := Classical.not_not.1 c2
    refine x_seq ?_; refine c_reg ?_; refine mv rfl rfl (mv rfl rfl (cl (vs := [i64 n]) rfl (compact_fn n hn h1) rfl (fun v4 h4 r4 => ?_)))
    obtain ⟨rfl, x4⟩ := r4
    refine cl (vs := [ptr p 0, str (compact n)]) rfl (put_fn (w.ext x4) _ (by have := cg_len 10 n; unfold compact; omega)) rfl (fun v5 h5 r5 => ?_)
    obtain ⟨rfl, vb', w5, s5⟩ := r5
    refine o_nil ?_; refine ret0 (.inl rfl) rfl ?_
    rw [if_pos c3, if_pos c3]
    exact ⟨rfl, vb', w5, (WS.ext x4).trans s5⟩
end Go.Proofs.Ytkgmgnjgplabhaa
