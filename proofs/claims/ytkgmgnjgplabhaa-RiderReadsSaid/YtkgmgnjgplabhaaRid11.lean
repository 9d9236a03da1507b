/- The walk of the law RiderNums. No condition but what the theorem says. -/
import Derived.Test.YtkgmgnjgplabhaaRid10
namespace Go.Proofs.Ytkgmgnjgplabhaa
open Go Go.Eng

theorem rng_pow (k : Nat) (n : Int) : rng k n ↔ -(2 ^ (7 * (k + 1) - 1) : Int) ≤ n ∧ n < 2 ^ (7 * (k + 1) - 1) := by
  have : (64 * 128 ^ k : Int) = 2 ^ (7 * (k + 1) - 1) := by
    rw [show 7 * (k + 1) - 1 = 6 + 7 * k by omega, Int.pow_add, Int.pow_mul]; rfl
  unfold rng; rw [this]

instance (j : Nat) (n : Int) : Decidable (rng j n) := by unfold rng; exact inferInstance

set_option maxHeartbeats 800000 in
theorem Nums_fn (n : Int) (hn : -9223372036854775808 ≤ n ∧ n ≤ 9223372036854775807) (h : Heap) :
    Does Try.prog 3 [i64 n] h (fun v h' => v = .bool true ∧ Ext h h') := by
  refine fn_enter (N := 110) Try.func3 (by kernel_rfl) rfl rfl rfl (fun w0 => ?_)
  refine c_seq ?_; refine c_reg ?_; refine asg rfl rfl ?_; refine o_nil ?_; refine x_seq ?_; refine c_seq ?_; refine c_reg ?_
  refine cl (vs := []) rfl (Write_fn h) rfl (fun v1 h1 r1 => ?_)
  obtain ⟨rfl, r1⟩ := r1
  obtain ⟨n1, x1, vb1, w1, f1⟩ := WF.mk0 (Mod.refl _ h) r1
  refine asg rfl rfl ?_; refine o_nil ?_; refine x_seq ?_; refine c_seq ?_; refine c_reg ?_
  refine mv rfl rfl (mv rfl rfl (cl (vs := [ptr h.size 0, i64 n]) rfl (Num_fn w1 n hn) rfl (fun v2 h2 r2 => ?_)))
  obtain ⟨rfl, r2⟩ := r2
  obtain ⟨n2, x2, vb2, w2, f2⟩ := WF.to n1 x1 f1 r2
  refine o_nil ?_; refine x_seq ?_; refine c_seq ?_; refine c_reg ?_
  refine mv rfl rfl (cl (vs := [ptr h.size 0]) rfl (Bytes_fn w2) rfl (fun v3 h3 r3 => ?_))
  obtain ⟨rfl, rfl⟩ := r3
  have hc := cg_len 10 n
  have hb : ((if (if fit32 n then false else true) = true then [] else if 131072 < (if fit32 n then [] ++ compact n else []).length then [] else (if fit32 n then [] ++ compact n else [])) : List UInt8) = if fit32 n then compact n else [] := by
    by_cases hf : fit32 n
    · simp only [if_pos hf]
      rw [if_neg (by simp), if_neg (by unfold compact; simp; omega)]; rfl
    · simp only [if_neg hf]; simp
  have he : (if (if fit32 n then false else true) = true then (1 : Int) else if 131072 < (if fit32 n then [] ++ compact n else []).length then 2 else 0) = if fit32 n then 0 else 1 := by
    by_cases hf : fit32 n
    · simp only [if_pos hf]
      rw [if_neg (by simp), if_neg (by unfold compact; simp; omega)]
    · simp only [if_neg hf]; simp
  rw [hb, he]
  clear hb he
  refine mv rfl rfl (ext rfl rfl rfl (ext rfl rfl rfl (asg rfl rfl (asg rfl rfl ?_))))
  refine o_nil ?_; refine x_seq ?_; refine c_seq ?_
  refine c_cut (α := Unit) (fun _ => [(0, i64 n), (4, str (if fit32 n then compact n else [])), (5, i64 (if fit32 n then 0 else 1)), (23, .bool (decide (¬ fit32 n)))]) (fun _ => h3) (fun _ => True) ?_ ?_
  · refine c_reg ?_; refine mv rfl rfl (lti rfl rfl rfl (mv rfl rfl ?_))
    refine cs 20 rfl (fun c4 => ?_) (fun c4 => ?_)
    · refine gs rfl rfl rfl rfl (gs rfl rfl rfl rfl (pkt rfl rfl rfl ?_))
      refine o_nil ?_
      exact x_cut () trivial ⟨rfl, rfl, rfl, by rw [decide_eq_true (show ¬ fit32 n from fun e => by have := e.1; omega)]; rfl, trivial⟩ rfl
    · refine gd rfl rfl (mv rfl rfl (gd rfl rfl (gei rfl rfl rfl (pkf rfl rfl rfl ?_))))
      refine o_nil ?_
      refine x_cut () trivial ⟨rfl, rfl, rfl, ?_, trivial⟩ rfl
      have : (n ≥ 2147483648) ↔ ¬ fit32 n := by unfold fit32; omega
      exact congrArg some (congrArg Value.bool (decide_eq_decide.2 this))
  intro _ _
  refine c_cond rfl (fun c4 => ?_) (fun c4 => ?_)
  · rw [if_neg c4, if_neg c4]
    refine c_seq ?_; refine c_reg ?_; refine mv rfl rfl (eqi rfl rfl rfl (mv rfl rfl ?_))
    refine ct 26 rfl rfl ?_; refine gd rfl rfl (mv rfl rfl (gd rfl rfl (eqs rfl rfl rfl (pkt rfl rfl rfl (mv rfl rfl ?_)))))
    refine ct 30 rfl rfl ?_; refine gd rfl rfl (cl (vs := []) rfl (wakes_fn _) rfl (fun v5 h5 r5 => ?_))
    obtain ⟨rfl, x5⟩ := r5
    refine pkt rfl rfl rfl (asg rfl rfl ?_)
    refine o_nil ?_; refine x_seq ?_; refine c_ret ?_; refine x_seq_ret ?_; refine ret1 (.inr rfl) rfl rfl ?_
    exact ⟨rfl, x2.trans x5⟩
  · have hf : fit32 n := Classical.not_not.1 c4
    rw [if_pos hf, if_pos hf]
    have hlen := cg_le 4 10 n (fit_rng hf)
    have hpos := cg_pos 10 n
    have hhigh := cg_high 10 n
    have hread := numR_compact hf [128]
    have hge := fun j => cg_ge j 10 n
    have hle := fun j => cg_le j 10 n
    change (compact n).length ≤ _ at hlen
    change 1 ≤ (compact n).length at hpos
    change ∀ i c, (compact n)[i]? = some c → (128 ≤ c.toNat ↔ i + 1 < (compact n).length) at hhigh
    change ∀ j, ¬ rng j n → j < 10 → j + 2 ≤ (compact n).length at hge
    change ∀ j, rng j n → (compact n).length ≤ j + 1 at hle
    generalize compact n = l at *
    refine c_skip ?_
    refine x_seq ?_; refine c_seq ?_; refine c_reg ?_; refine asg rfl rfl ?_; refine o_nil ?_; refine x_seq ?_; refine c_seq ?_; refine c_blk ?_
    refine c_loop (α := Nat) (fun k => [(0, i64 n), (4, str l), (5, i64 0), (6, i64 (k : Nat))]) (fun _ => h3) (fun k => 1 ≤ k ∧ k ≤ 5 ∧ k ≤ l.length) (fun k => 5 - k) 1 ⟨by omega, by omega, hpos⟩ ⟨rfl, rfl, rfl, rfl, trivial⟩ rfl (fun k hk => ?_)
    obtain ⟨hk1, hk5, hkl⟩ := hk
    have e7 : ∀ s : Int, s = 1 ∨ s = -1 → IntKind.i64.wrap (s * 2 ^ (min ((7 * (k : Int) - 1)).toNat IntKind.i64.bits)) = s * 2 ^ (7 * k - 1) := fun s hs => by
      rw [wsh s hs _ (by omega)]; congr 2; omega
    obtain ⟨j, rfl⟩ : ∃ j, k = j + 1 := ⟨k - 1, by omega⟩
    have hrj := rng_pow j n
    refine c_seq ?_
    refine c_cut (α := Unit) (fun _ => [(0, i64 n), (4, str l), (5, i64 0), (6, i64 ((j + 1 : Nat) : Int)), (50, .bool (decide (j + 1 < 5 ∧ ¬ rng j n)))]) (fun _ => h3) (fun _ => True) ?_ ?_
    · refine c_reg ?_; refine mv rfl rfl (lti rfl rfl rfl (mv rfl rfl ?_))
      refine cs 35 rfl (fun c5 => ?_) (fun c5 => ?_)
      · refine gd rfl rfl (mv rfl rfl (gd rfl rfl (mv rfl rfl (gd rfl rfl (mul rfl rfl (by omega) rfl (gd rfl rfl (sub rfl rfl (by omega) rfl (gd rfl rfl (shl rfl rfl (by omega) rfl ?_)))))))))
        refine rv 40 rfl (vi (e7 (-1) (.inr rfl))) ?_
        refine gd rfl rfl (lti rfl rfl rfl (gd rfl rfl (mv rfl rfl ?_)))
        refine cs 42 rfl (fun c6 => ?_) (fun c6 => ?_)
        · refine gs rfl rfl rfl rfl (gs rfl rfl rfl rfl (gs rfl rfl rfl rfl (gs rfl rfl rfl rfl (gs rfl rfl rfl rfl (gs rfl rfl rfl rfl (gd rfl rfl (pkt rfl rfl rfl (pkt rfl rfl rfl ?_))))))))
          refine o_nil ?_
          exact x_cut () trivial ⟨rfl, rfl, rfl, rfl, by rw [decide_eq_true (show j + 1 < 5 ∧ ¬ rng j n from ⟨by omega, fun e => by have := (hrj.1 e).1; omega⟩)]; rfl, trivial⟩ rfl
        · refine gd rfl rfl (mv rfl rfl (gd rfl rfl (mv rfl rfl (gd rfl rfl (mul rfl rfl (by omega) rfl (gd rfl rfl (sub rfl rfl (by omega) rfl (gd rfl rfl (shl rfl rfl (by omega) rfl ?_)))))))))
          refine rv 47 rfl (vi (e7 1 (.inl rfl))) ?_
          refine gd rfl rfl (gei rfl rfl rfl (gd rfl rfl (pkf rfl rfl rfl (pkt rfl rfl rfl ?_))))
          refine o_nil ?_
          refine x_cut () trivial ⟨rfl, rfl, rfl, rfl, ?_, trivial⟩ rfl
          have : (n ≥ 1 * 2 ^ (7 * (j + 1) - 1)) ↔ (j + 1 < 5 ∧ ¬ rng j n) := by rw [hrj]; omega
          exact congrArg some (congrArg Value.bool (decide_eq_decide.2 this))
      · refine gs rfl rfl rfl rfl (gs rfl rfl rfl rfl (gs rfl rfl rfl rfl (gs rfl rfl rfl rfl (gs rfl rfl rfl rfl (gs rfl rfl rfl rfl (gs rfl rfl rfl rfl ?_))))))
        refine gsu rfl rfl rfl (gsu rfl rfl rfl (gsu rfl rfl rfl (gsu rfl rfl rfl (gsu rfl rfl rfl (gsu rfl rfl rfl (gs rfl rfl rfl rfl (pkf rfl rfl rfl ?_)))))))
        refine o_nil ?_
        exact x_cut () trivial ⟨rfl, rfl, rfl, rfl, by rw [decide_eq_false (show ¬ (j + 1 < 5 ∧ ¬ rng j n) from fun e => by omega)]; rfl, trivial⟩ rfl
    intro _ _
    refine c_cond rfl (fun c5 => ?_) (fun c5 => ?_)
    · refine c_skip ?_; refine x_seq ?_; refine c_blk ?_; refine c_reg ?_
      refine mv rfl rfl (add rfl rfl (by omega) rfl (asg rfl rfl ?_))
      refine o_nil ?_; refine x_blk ?_
      have := hge j c5.2 (by omega)
      exact x_loop (j + 1 + 1) ⟨by omega, by omega, by omega⟩ (by omega) ⟨rfl, rfl, rfl, rfl, trivial⟩ rfl
    · have hlj : l.length = j + 1 := by
        by_cases h5 : j + 1 < 5
        · have := hle j (Classical.not_not.1 fun e => c5 ⟨h5, e⟩); omega
        · omega
      refine c_exit ?_; refine x_seq_exit ?_; refine x_loop_exit ?_; refine x_blk_hit ?_
      refine x_seq ?_; refine c_seq ?_; refine c_seq ?_; refine c_reg ?_; refine asg rfl rfl ?_; refine o_nil ?_; refine x_seq ?_; refine c_blk ?_
      refine c_loop (α := Nat) (fun i => [(0, i64 n), (4, str l), (5, i64 0), (6, i64 ((j + 1 : Nat) : Int)), (7, i64 (i : Nat))]) (fun _ => h3) (fun i => i ≤ l.length) (fun i => l.length - i) 0 (by omega) ⟨rfl, rfl, rfl, rfl, rfl, trivial⟩ rfl (fun i hi => ?_)
      refine c_seq ?_; refine c_seq ?_; refine c_reg ?_; refine mv rfl rfl (mv rfl rfl (lns rfl rfl (lti rfl rfl rfl ?_)))
      refine o_nil ?_; refine x_seq ?_; refine c_cond rfl (fun c6 => ?_) (fun c6 => ?_)
      · have hil : i < l.length := by omega
        have hgi : l[i]? = some l[i] := List.getElem?_eq_getElem hil
        have hh := hhigh i _ hgi
        refine c_skip ?_; refine x_seq ?_; refine c_seq ?_; refine c_blk ?_; refine c_seq ?_
        refine c_reg ?_
        refine mv rfl rfl (mv rfl rfl (idx rfl rfl (by omega) (by rw [Int.toNat_natCast]; exact hgi) rfl (gei rfl rfl rfl (mv rfl rfl (add rfl rfl (by omega) rfl (mv rfl rfl (lns rfl rfl (lti rfl rfl rfl ?_))))))))
        refine neb rfl rfl rfl ?_; refine o_nil ?_; refine x_seq ?_
        refine c_f rfl ?_ ?_
        · have : decide ((l[i].toNat : Int) ≥ 128) = decide ((i : Int) + 1 < l.length) := decide_eq_decide.2 (by omega)
          simp only [ge_iff_le] at this
          simp [this]
        refine c_skip ?_; refine x_blk ?_; refine x_seq ?_; refine c_reg ?_
        refine mv rfl rfl (add rfl rfl (by omega) rfl (asg rfl rfl ?_))
        refine o_nil ?_
        exact x_loop (i + 1) hil (by omega) ⟨rfl, rfl, rfl, rfl, rfl, trivial⟩ rfl
      · refine c_exit ?_; refine x_seq_exit ?_; refine x_loop_exit ?_; refine x_blk_hit ?_
        refine x_seq ?_; refine c_seq ?_; refine c_reg ?_
        refine mv rfl rfl (cat (m := [128]) rfl rfl (by simp; omega) rfl (cl (vs := [str (l ++ [128])]) rfl (Read_fn (l ++ [128]) (by simp; omega) h3) rfl (fun v4 h4 r4 => ?_)))
        obtain ⟨rfl, r4⟩ := r4
        have a4 := RF.mk0 x2 r4
        refine asg rfl rfl ?_; refine o_nil ?_; refine x_seq ?_; refine c_seq ?_; refine c_reg ?_; refine mv rfl rfl (eqi rfl rfl rfl (mv rfl rfl ?_))
        refine ct 74 rfl rfl ?_
        refine gd rfl rfl (mv rfl rfl (gd rfl rfl (lns rfl rfl (gd rfl rfl (mv rfl rfl (gd rfl rfl (eqi rfl rfl rfl (pkt rfl rfl rfl (mv rfl rfl ?_)))))))))
        refine ct 80 rfl (by omega) ?_; refine gd rfl rfl (mv rfl rfl (gd rfl rfl (cl (vs := [ptr h3.size 0]) rfl (RNum_fn a4.r) rfl (fun v5 h5 r5 => ?_))))
        have e5 : rNum (l ++ [128]) 0 false = some (n, l.length) := by rw [rNum, if_neg (by simp)]; exact hread
        rw [e5] at r5
        obtain ⟨rfl, r5⟩ := r5
        have a5 := a4.to r5
        refine gd rfl rfl (mv rfl rfl (gd rfl rfl (eqi rfl rfl rfl (pkt rfl rfl rfl (mv rfl rfl ?_)))))
        refine ct 86 rfl rfl ?_; refine gd rfl rfl (mv rfl rfl (gd rfl rfl (cl (vs := [ptr h3.size 0]) rfl (RAt_fn a5.r) rfl (fun v6 h6 r6 => ?_))))
        obtain ⟨rfl, rfl⟩ := r6
        refine gd rfl rfl (mv rfl rfl (gd rfl rfl (eqi rfl rfl rfl (pkt rfl rfl rfl (mv rfl rfl ?_)))))
        refine ct 92 rfl (by simp; omega) ?_; refine gd rfl rfl (mv rfl rfl (gd rfl rfl (cl (vs := [ptr h3.size 0]) rfl (RNum_fn a5.r) rfl (fun v7 h7 r7 => ?_))))
        have e7 : rNum (l ++ [128]) (0 + l.length) false = none := by
          rw [rNum, if_neg (by simp)]
          simp only [Nat.zero_add, List.drop_left]
          decide
        have e8 : rNum (l ++ [128]) (((some (n, l.length) : Option (Int × Nat)).map (fun x => 0 + x.2)).getD 0) (some (n, l.length)).isNone = none := e7
        rw [e8] at r7
        obtain ⟨rfl, r7⟩ := r7
        have a7 := a5.to r7
        refine gd rfl rfl (eqi rfl rfl rfl (pkt rfl rfl rfl (mv rfl rfl ?_)))
        refine ct 97 rfl rfl ?_; refine gd rfl rfl (mv rfl rfl (gd rfl rfl (cl (vs := [ptr h3.size 0]) rfl (RBad_fn a7.r) rfl (fun v8 h8 r8 => ?_))))
        obtain ⟨rfl, rfl⟩ := r8
        refine pkt rfl rfl rfl (mv rfl rfl ?_)
        refine ct 101 rfl rfl ?_; refine gd rfl rfl (mv rfl rfl (gd rfl rfl (cl (vs := [ptr h3.size 0]) rfl (RAt_fn a7.r) rfl (fun v9 h9 r9 => ?_))))
        obtain ⟨rfl, rfl⟩ := r9
        refine gd rfl rfl (mv rfl rfl (gd rfl rfl (eqi rfl rfl rfl (pkt rfl rfl rfl (mv rfl rfl ?_)))))
        refine ct 107 rfl (by simp; omega) ?_; refine gd rfl rfl (cl (vs := []) rfl (wakes_fn _) rfl (fun v10 h10 r10 => ?_))
        obtain ⟨rfl, x10⟩ := r10
        refine pkt rfl rfl rfl (asg rfl rfl ?_)
        refine o_nil ?_; refine x_seq ?_; refine c_ret ?_; refine ret1 (.inr rfl) rfl rfl ?_
        exact ⟨rfl, a7.x.trans x10⟩
end Go.Proofs.Ytkgmgnjgplabhaa
