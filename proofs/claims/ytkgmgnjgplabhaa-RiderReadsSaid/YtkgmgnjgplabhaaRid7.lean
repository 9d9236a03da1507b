/- Walks of the rider's Reader: Word, Text. No condition but what each theorem says. -/
import Derived.Test.YtkgmgnjgplabhaaRid6
namespace Go.Proofs.Ytkgmgnjgplabhaa
open Go Go.Eng

theorem and127u (c : UInt8) : bits2 .and .u8 (c.toNat : Int) 127 = (c.toNat : Int) % 128 := by
  have := and127 (c.toNat : Int)
  rw [IntKind.wrap_u8] at this
  have h := c.toNat_lt
  rw [show (c.toNat : Int) % 256 = c.toNat by omega] at this
  exact this

/-- the word of four bytes -/
def wordv : List UInt8 → Int
  | [a, b, c, d] => (a.toNat + b.toNat * 256 + c.toNat * 65536 + d.toNat * 16777216 : Nat)
  | _ => 0
def rWord (s : List UInt8) (at_ : Nat) (bad : Bool) : Int := if canTake s at_ bad 4 then wordv (taken s at_ bad 4) else 0
theorem taken4 {s : List UInt8} {at_ : Nat} {bad : Bool} (hc : canTake s at_ bad 4) : ∃ a b c d, taken s at_ bad 4 = [a, b, c, d] := by
  have h1 := hc.2.2
  rw [taken, if_pos hc]
  have hl : ((s.drop at_).take (4 : Int).toNat).length = 4 := by simp; omega
  generalize (s.drop at_).take (4 : Int).toNat = l at hl
  match l, hl with
  | [a, b, c, d], _ => exact ⟨a, b, c, d, rfl⟩

theorem RWord_fn {h : Heap} {p : Nat} {s : List UInt8} {at_ : Nat} {bad : Bool} (r : R h p s at_ bad) :
    Does Try.prog 21 [ptr p 0] h (fun v h' => v = .int .u32 (rWord s at_ bad) ∧ RAfter h p s (if canTake s at_ bad 4 then at_ + 4 else at_) (if canTake s at_ bad 4 then false else true) h') := by
  refine fn_enter (N := 30) Try.func21 (by kernel_rfl) rfl rfl rfl (fun w0 => ?_)
  refine c_seq ?_; refine c_reg ?_; refine asg rfl rfl ?_; refine o_nil ?_; refine x_seq ?_; refine c_seq ?_; refine c_reg ?_
  refine mv rfl rfl (cl (vs := [ptr p 0, i64 4]) rfl (take_fn r 4) rfl (fun v1 h1 r1 => ?_))
  obtain ⟨rfl, r1⟩ := r1
  refine mv rfl rfl (ext rfl rfl rfl (ext rfl rfl rfl (asg rfl rfl (asg rfl rfl ?_))))
  refine o_nil ?_; refine x_seq ?_; refine c_seq ?_; refine c_seq ?_; refine c_reg ?_; refine mv rfl rfl (nt rfl rfl ?_)
  refine o_nil ?_; refine x_seq ?_; refine c_cond rfl (fun c2 => ?_) (fun c2 => ?_)
  · refine c_seq ?_
    refine c_reg ?_; refine asg rfl rfl ?_; refine o_nil ?_; refine x_seq ?_; refine c_ret ?_; refine x_seq_ret ?_; refine ret1 (.inr rfl) rfl rfl ?_
    exact ⟨by rw [rWord, if_neg c2], r1⟩
  · refine c_skip ?_
    have c3 := Classical.not_not.1 c2
    obtain ⟨a, b, c, d, ht⟩ := taken4 c3
    rw [ht]
    have ha := a.toNat_lt
    have hb := b.toNat_lt
    have hc := c.toNat_lt
    have hd := d.toNat_lt
    have wa : ∀ x : UInt8, IntKind.u32.wrap (x.toNat : Int) = x.toNat := fun x => by have := x.toNat_lt; rw [IntKind.wrap_u32]; omega
    have wm : ∀ (x : UInt8) (k : Nat), k ≤ 24 → IntKind.u32.wrap ((x.toNat : Int) * 2 ^ (min (k : Int).toNat IntKind.u32.bits)) = ((x.toNat * 2 ^ k : Nat) : Int) := fun x k hk => by
      have e : min (k : Int).toNat IntKind.u32.bits = k := by simp [IntKind.bits]; omega
      have hx := x.toNat_lt
      have h2 : 2 ^ k ≤ 2 ^ 24 := Nat.pow_le_pow_right (by omega) hk
      have h3 : x.toNat * 2 ^ k ≤ 255 * 2 ^ 24 := Nat.mul_le_mul (by omega) h2
      rw [e, IntKind.wrap_u32]
      have : (x.toNat : Int) * 2 ^ k = ((x.toNat * 2 ^ k : Nat) : Int) := by simp
      rw [this]; omega
    refine x_seq ?_; refine c_seq ?_
    refine c_dreg (· = h1) [0, 1, 2, 3, 4, 5, 6, 7, 8, 9, 10, 11, 12, 13, 14, 15, 16, 17, 18] rfl rfl (by kernel_rfl) ?_
    refine mv rfl rfl (idx rfl rfl (by omega) (by rfl) rfl (cvi rfl rfl (rv 14 rfl (vi (wa a)) (mv rfl rfl (idx rfl rfl (by omega) (by rfl) rfl (cvi rfl rfl (rv 17 rfl (vi (wa b)) ?_)))))))
    refine shl rfl rfl (by omega) rfl (rv 18 rfl (vi (wm b 8 (by omega))) (bit (by decide) rfl rfl rfl (rv 19 rfl (vi (or_add .u32 _ _ 8 (by omega) (by omega) (by simp [IntKind.max, IntKind.bits, IntKind.signed]; omega))) ?_)))
    refine mv rfl rfl (idx rfl rfl (by omega) (by rfl) rfl (cvi rfl rfl (rv 22 rfl (vi (wa c)) (shl rfl rfl (by omega) rfl (rv 23 rfl (vi (wm c 16 (by omega))) ?_)))))
    refine bit (by decide) rfl rfl rfl (rv 24 rfl (vi (or_add .u32 _ _ 16 (by omega) (by omega) (by simp [IntKind.max, IntKind.bits, IntKind.signed]; omega))) ?_)
    refine mv rfl rfl (idx rfl rfl (by omega) (by rfl) rfl (cvi rfl rfl (rv 27 rfl (vi (wa d)) (shl rfl rfl (by omega) rfl (rv 28 rfl (vi (wm d 24 (by omega))) ?_)))))
    refine bit (by decide) rfl rfl rfl (rv 29 rfl (vi (or_add .u32 _ _ 24 (by omega) (by omega) (by simp [IntKind.max, IntKind.bits, IntKind.signed]; omega))) (asg rfl rfl ?_))
    refine o_nil ?_; refine x_seq ?_; refine c_ret ?_; refine ret1 (.inr rfl) rfl rfl ?_
    exact ⟨by rw [rWord, if_pos c3, ht]; rfl, r1⟩

/-- where a text ends -/
def textEnd (s : List UInt8) (at_ : Nat) : Int := Lib.indexByte (s.drop at_) 0
def canText (s : List UInt8) (at_ : Nat) (bad : Bool) : Prop := bad = false ∧ 0 ≤ textEnd s at_ ∧ textEnd s at_ ≤ 64
instance (s : List UInt8) (at_ : Nat) (bad : Bool) : Decidable (canText s at_ bad) := by unfold canText; exact inferInstance
theorem textEnd_lt (s : List UInt8) (at_ : Nat) (h : at_ ≤ s.length) (h0 : 0 ≤ textEnd s at_) : textEnd s at_ < (s.length : Int) - at_ := by
  have key : ∀ (l : List UInt8), 0 ≤ Lib.indexByte l 0 → Lib.indexByte l 0 < l.length := by
    intro l
    induction l with
    | nil => simp [Lib.indexByte]
    | cons b l ih =>
      unfold Lib.indexByte
      split
      · simp
      · split
        · simp
        · rename_i h1 h2
          intro _
          have hg := Lib.indexByte_ge l 0
          have : Lib.indexByte l 0 ≠ -1 := by simpa using h2
          have := ih (by omega)
          simp; omega
  have := key (s.drop at_) h0
  simp only [List.length_drop] at this
  unfold textEnd at *; omega

theorem RText_fn {h : Heap} {p : Nat} {s : List UInt8} {at_ : Nat} {bad : Bool} (r : R h p s at_ bad) :
    Does Try.prog 22 [ptr p 0] h (fun v h' => v = str (if canText s at_ bad then (s.drop at_).take (textEnd s at_).toNat else []) ∧
      RAfter h p s (if canText s at_ bad then at_ + (textEnd s at_).toNat + 1 else at_) (if canText s at_ bad then false else true) h') := by
  have hb := r.blk
  have hle := r.le
  have hlen := r.len
  refine fn_enter (N := 57) Try.func22 (by kernel_rfl) rfl rfl rfl (fun w0 => ?_)
  refine c_seq ?_; refine c_reg ?_; refine asg rfl rfl ?_; refine o_nil ?_; refine x_seq ?_; refine c_seq ?_; refine c_seq ?_; refine c_reg ?_
  refine mv rfl rfl (eqpn rfl rfl rfl (mv rfl rfl ?_))
  refine cf 6 rfl (by simp) ?_
  refine gd rfl rfl (mv rfl rfl (gd rfl rfl (nck rfl rfl (gd rfl rfl (fa rfl rfl (gd rfl rfl (ld rfl (cell hb rfl) rfl (pkf rfl rfl rfl ?_))))))))
  refine o_nil ?_; refine x_seq ?_; refine c_cond rfl (fun c2 => ?_) (fun c2 => ?_)
  · refine c_seq ?_
    refine c_reg ?_; refine asg rfl rfl ?_; refine o_nil ?_; refine x_seq ?_; refine c_ret ?_; refine x_seq_ret ?_; refine ret1 (.inr rfl) rfl rfl ?_
    have hc : ¬ canText s at_ bad := fun e => by rw [c2] at e; cases e.1
    simp only [if_neg hc]
    exact ⟨by trivial, by rw [c2] at r; exact RAfter.same r⟩
  · refine c_skip ?_
    simp only [Bool.not_eq_true] at c2
    subst c2
    refine x_seq ?_; refine c_seq ?_; refine c_dreg (· = h) [0, 1, 2, 3, 4, 5, 6, 7, 8, 9, 10] rfl rfl (by kernel_rfl) ?_
    refine mv rfl rfl (nck rfl rfl (fa rfl rfl (ldI rfl (fun _ hI => by subst hI; exact cell hb rfl) rfl (mv rfl rfl (nck rfl rfl (fa rfl rfl (ldI rfl (fun _ hI => by subst hI; exact cell hb rfl) rfl (slf rfl rfl (by omega) rfl ?_))))))))
    refine clI (vs := [str (s.drop at_), .int .u8 0]) rfl (ib_fn _ 0 h) (fun _ _ e => e.1) rfl (fun v3 h3 r3 => ?_)
    obtain ⟨rfl, rfl⟩ := r3
    have ht := textEnd_lt s at_ hle
    have hg := Lib.indexByte_ge (s.drop at_) 0
    have e0 : Lib.indexByte (s.drop at_) (0 : Int).toNat.toUInt8 = textEnd s at_ := rfl
    rw [e0]
    change -1 ≤ textEnd s at_ at hg
    generalize hn : textEnd s at_ = n at *
    refine asg rfl rfl ?_; refine o_nil ?_; refine x_seq ?_; refine c_seq ?_; refine c_seq ?_; refine c_reg ?_
    refine mv rfl rfl (lti rfl rfl rfl (mv rfl rfl ?_))
    refine cs 24 rfl (fun c4 => ?_) (fun c4 => ?_)
    · refine gs rfl rfl rfl rfl (gs rfl rfl rfl rfl (pkt rfl rfl rfl ?_))
      refine o_nil ?_; refine x_seq ?_; refine c_t rfl rfl ?_; refine c_seq ?_; refine c_reg ?_
      refine mv rfl rfl (nck rfl rfl (fa rfl rfl (st rfl rfl rfl hb rfl nofun (fun h5 u5 => ?_))))
      refine o_nil ?_; refine x_seq ?_; refine c_seq ?_; refine c_reg ?_; refine asg rfl rfl ?_; refine o_nil ?_; refine x_seq ?_; refine c_ret ?_
      refine x_seq_ret ?_; refine ret1 (.inr rfl) rfl rfl ?_
      have hc : ¬ canText s at_ false := fun e => by have := e.2.1; omega
      simp only [if_neg hc]
      exact ⟨by trivial, ⟨u5.at_, hle, hlen⟩, u5.mod⟩
    · refine gd rfl rfl (mv rfl rfl (gd rfl rfl (gti rfl rfl rfl (pkf rfl rfl rfl ?_))))
      refine o_nil ?_; refine x_seq ?_; refine c_cond rfl (fun c6 => ?_) (fun c6 => ?_)
      · refine c_seq ?_
        refine c_reg ?_; refine mv rfl rfl (nck rfl rfl (fa rfl rfl (st rfl rfl rfl hb rfl nofun (fun h7 u7 => ?_))))
        refine o_nil ?_; refine x_seq ?_; refine c_seq ?_; refine c_reg ?_; refine asg rfl rfl ?_; refine o_nil ?_; refine x_seq ?_; refine c_ret ?_
        refine x_seq_ret ?_; refine ret1 (.inr rfl) rfl rfl ?_
        have hc : ¬ canText s at_ false := fun e => by have := e.2.2; omega
        simp only [if_neg hc]
        exact ⟨by trivial, ⟨u7.at_, hle, hlen⟩, u7.mod⟩
      · refine c_skip ?_
        have ht := ht (by omega)
        refine x_seq ?_; refine c_seq ?_; refine c_reg ?_
        refine mv rfl rfl (nck rfl rfl (fa rfl rfl (ld rfl (cell hb rfl) rfl (mv rfl rfl (add rfl rfl (by omega) rfl (add rfl rfl (by omega) rfl (nck rfl rfl (fa rfl rfl ?_))))))))
        refine st rfl rfl rfl hb rfl nofun (fun h8 u8 => ?_)
        have hb8 := u8.at_
        refine o_nil ?_; refine x_seq ?_; refine c_seq ?_
        refine c_dreg (· = h8) [0, 1, 2, 3, 4, 5, 6, 7, 8, 9, 10, 11, 12, 13, 14, 15, 16, 17] rfl rfl (by kernel_rfl) ?_
        refine mv rfl rfl (nck rfl rfl (fa rfl rfl (ldI rfl (fun _ hI => by subst hI; exact cell hb8 rfl) rfl (mv rfl rfl (nck rfl rfl (fa rfl rfl (ldI rfl (fun _ hI => by subst hI; exact cell hb8 rfl) rfl (mv rfl rfl (sub rfl rfl (by omega) rfl ?_)))))))))
        refine sub rfl rfl (by omega) rfl (mv rfl rfl (nck rfl rfl (fa rfl rfl (ldI rfl (fun _ hI => by subst hI; exact cell hb8 rfl) rfl (sub rfl rfl (by omega) rfl (sls rfl rfl rfl (by omega) rfl ?_))))))
        refine asg rfl rfl ?_; refine o_nil ?_; refine x_seq ?_; refine c_ret ?_; refine ret1 (.inr rfl) rfl rfl ?_
        have hc : canText s at_ false := ⟨rfl, by omega, by omega⟩
        simp only [if_pos hc]
        have e1 : ((at_ : Int) + (n + 1) - n - 1).toNat = at_ := by omega
        have e2 : ((at_ : Int) + (n + 1) - 1).toNat - at_ = n.toNat := by omega
        rw [e1, e2]
        refine ⟨by trivial, ⟨?_, by omega, hlen⟩, u8.mod⟩
        rw [hb8]
        have e3 : (at_ : Int) + (n + 1) = ((at_ + n.toNat + 1 : Nat) : Int) := by omega
        simp [e3]
end Go.Proofs.Ytkgmgnjgplabhaa
