/- Walks of the rider's Reader: Read, take, Byte, Word, Text, Raw, At, Bad, End. Walks of the rider's Reader: Word, Text. A walk of the rider's Reader: Num. No condition but what each theorem says. -/
import Derived.Test.YtgnkfegkdjfnjaaGreatRwa
namespace Go.Proofs.YtgnkfegkdjfnjaaGreat.R
/-! Walks of the rider's Reader: Read, take, Byte, Word, Text, Raw, At, Bad, End. No condition but what each theorem says. -/
section
open Go Go.Eng

/-- a Reader lies at block p, over the text s, at a place, bad or not -/
structure R (h : Heap) (p : Nat) (s : List UInt8) (at_ : Nat) (bad : Bool) : Prop where
  blk : h[p]? = some (.cells #[str s, i64 at_, .bool bad] 80 (0, 0))
  le : at_ ≤ s.length
  len : s.length ≤ 1073741824
theorem R.mod {S : Nat → Prop} {h h' : Heap} {p : Nat} {s : List UInt8} {at_ : Nat} {bad : Bool} (r : R h p s at_ bad) (x : Mod S h h') (hp : ¬ S p) : R h' p s at_ bad := ⟨x.get r.blk hp, r.le, r.len⟩

theorem Read_fn (s : List UInt8) (hs : s.length ≤ 1073741824) (h : Heap) : Does Tryz.prog 12 [str s] h (fun v h' => v = ptr h.size 0 ∧ R h' h.size s 0 false ∧ Ext h h') := by
  refine fn_enter (N := 6) Tryz.func12 (by kernel_rfl) rfl rfl rfl (fun w0 => ?_)
  refine c_seq ?_; refine c_reg ?_; refine asg rfl rfl ?_; refine o_nil ?_; refine x_seq ?_; refine c_seq ?_; refine c_reg ?_
  refine mv rfl rfl (bld (vs := [(0, str s)]) (v := .agg #[str s, i64 0, .bool false]) rfl (fun _ => by kernel_rfl) rfl (bx rfl nofun rfl (fun h1 n1 => ?_)))
  refine asg rfl rfl ?_; refine o_nil ?_; refine x_seq ?_; refine c_ret ?_; refine ret1 (.inr rfl) rfl rfl ?_
  exact ⟨rfl, ⟨n1.at_, Nat.zero_le _, hs⟩, n1.ext⟩

/-- may so many bytes be taken? -/
def canTake (s : List UInt8) (at_ : Nat) (bad : Bool) (n : Int) : Prop := bad = false ∧ 0 ≤ n ∧ n ≤ (s.length : Int) - at_
instance (s : List UInt8) (at_ : Nat) (bad : Bool) (n : Int) : Decidable (canTake s at_ bad n) := by unfold canTake; exact inferInstance
def taken (s : List UInt8) (at_ : Nat) (bad : Bool) (n : Int) : List UInt8 := if canTake s at_ bad n then (s.drop at_).take n.toNat else []

/-- what a Reader's call leaves -/
def RAfter (h : Heap) (p : Nat) (s : List UInt8) (at_ : Nat) (bad : Bool) (h' : Heap) : Prop := R h' p s at_ bad ∧ Mod (· = p) h h'
theorem RAfter.same {h : Heap} {p : Nat} {s : List UInt8} {at_ : Nat} {bad : Bool} (r : R h p s at_ bad) : RAfter h p s at_ bad h := ⟨r, Mod.refl _ _⟩

theorem take_fn {h : Heap} {p : Nat} {s : List UInt8} {at_ : Nat} {bad : Bool} (r : R h p s at_ bad) (n : Int) :
    Does Tryz.prog 44 [ptr p 0, i64 n] h (fun v h' => v = .tuple #[str (taken s at_ bad n), .bool (decide (canTake s at_ bad n))] ∧ RAfter h p s (if canTake s at_ bad n then at_ + n.toNat else at_) (if canTake s at_ bad n then false else true) h') := by
  have hb := r.blk
  have hle := r.le
  have hlen := r.len
  refine fn_enter (N := 56) Tryz.func44 (by kernel_rfl) rfl rfl rfl (fun w0 => ?_)
  refine c_seq ?_; refine c_reg ?_; refine asg rfl rfl (asg rfl rfl ?_)
  refine o_nil ?_; refine x_seq ?_; refine c_seq ?_; refine c_seq ?_; refine c_reg ?_; refine mv rfl rfl (eqpn rfl rfl rfl (mv rfl rfl ?_))
  refine cf 8 rfl (by simp) ?_
  refine gd rfl rfl (mv rfl rfl (gd rfl rfl (nck rfl rfl (gd rfl rfl (fa rfl rfl (gd rfl rfl (ld rfl (cell hb rfl) rfl (pkf rfl rfl rfl ?_))))))))
  refine o_nil ?_; refine x_seq ?_; refine c_cond rfl (fun c2 => ?_) (fun c2 => ?_)
  · refine c_seq ?_
    refine c_reg ?_; refine asg rfl rfl (asg rfl rfl ?_)
    refine o_nil ?_; refine x_seq ?_; refine c_ret ?_; refine x_seq_ret ?_; refine ret2 (.inr rfl) rfl rfl rfl ?_
    have hc : ¬ canTake s at_ bad n := fun e => by rw [c2] at e; cases e.1
    simp only [taken, if_neg hc, decide_eq_false hc]
    exact ⟨trivial, by rw [c2] at r; exact RAfter.same r⟩
  · refine c_skip ?_
    simp only [Bool.not_eq_true] at c2
    subst c2
    refine x_seq ?_; refine c_seq ?_; refine c_seq ?_
    refine c_dreg (· = h) [0, 1, 2, 3, 4, 5, 6, 7, 8, 9, 10, 11, 12, 13, 14, 15] rfl rfl (by kernel_rfl) ?_
    refine mv rfl rfl (lti rfl rfl rfl (mv rfl rfl ?_))
    refine cs 16 rfl (fun c3 => ?_) (fun c3 => ?_)
    · refine gs rfl rfl rfl rfl (gs rfl rfl rfl rfl (gs rfl rfl rfl rfl (gs rfl rfl rfl rfl (gs rfl rfl rfl rfl (gs rfl rfl rfl rfl (gs rfl rfl rfl rfl (gs rfl rfl rfl rfl ?_)))))))
      refine gs rfl rfl rfl rfl (gs rfl rfl rfl rfl (gs rfl rfl rfl rfl (gs rfl rfl rfl rfl (pkt rfl rfl rfl ?_))))
      refine o_nil ?_; refine x_seq ?_; refine c_t rfl rfl ?_; refine c_seq ?_; refine c_reg ?_
      refine mv rfl rfl (nck rfl rfl (fa rfl rfl (st rfl rfl rfl hb rfl nofun (fun h4 u4 => ?_))))
      refine o_nil ?_; refine x_seq ?_; refine c_seq ?_; refine c_reg ?_; refine asg rfl rfl (asg rfl rfl ?_)
      refine o_nil ?_; refine x_seq ?_; refine c_ret ?_; refine x_seq_ret ?_; refine ret2 (.inr rfl) rfl rfl rfl ?_
      have hc : ¬ canTake s at_ false n := fun e => by have := e.2.1; omega
      simp only [taken, if_neg hc, decide_eq_false hc]
      exact ⟨trivial, ⟨u4.at_, hle, hlen⟩, u4.mod⟩
    · refine gd rfl rfl (mv rfl rfl (gd rfl rfl (mv rfl rfl (gd rfl rfl (nck rfl rfl (gd rfl rfl (fa rfl rfl (gd rfl rfl (ldI rfl (fun _ hI => by subst hI; exact cell hb rfl) rfl (gd rfl rfl (lns rfl rfl ?_)))))))))))
      refine gd rfl rfl (mv rfl rfl (gd rfl rfl (nck rfl rfl (gd rfl rfl (fa rfl rfl (gd rfl rfl (ldI rfl (fun _ hI => by subst hI; exact cell hb rfl) rfl (gd rfl rfl (sub rfl rfl (by omega) rfl ?_)))))))))
      refine gd rfl rfl (gti rfl rfl rfl (pkf rfl rfl rfl ?_))
      refine o_nil ?_; refine x_seq ?_; refine c_cond rfl (fun c5 => ?_) (fun c5 => ?_)
      · refine c_seq ?_
        refine c_reg ?_; refine mv rfl rfl (nck rfl rfl (fa rfl rfl (st rfl rfl rfl hb rfl nofun (fun h6 u6 => ?_))))
        refine o_nil ?_; refine x_seq ?_; refine c_seq ?_; refine c_reg ?_; refine asg rfl rfl (asg rfl rfl ?_)
        refine o_nil ?_; refine x_seq ?_; refine c_ret ?_; refine x_seq_ret ?_; refine ret2 (.inr rfl) rfl rfl rfl ?_
        have hc : ¬ canTake s at_ false n := fun e => by have := e.2.2; omega
        simp only [taken, if_neg hc, decide_eq_false hc]
        exact ⟨trivial, ⟨u6.at_, hle, hlen⟩, u6.mod⟩
      · refine c_skip ?_
        refine x_seq ?_; refine c_seq ?_; refine c_reg ?_
        refine mv rfl rfl (nck rfl rfl (fa rfl rfl (ld rfl (cell hb rfl) rfl (mv rfl rfl (add rfl rfl (by omega) rfl (nck rfl rfl (fa rfl rfl (st rfl rfl rfl hb rfl nofun (fun h7 u7 => ?_)))))))))
        have hb7 := u7.at_
        refine o_nil ?_; refine x_seq ?_; refine c_seq ?_
        refine c_dreg (· = h7) [0, 1, 2, 3, 4, 5, 6, 7, 8, 9, 10, 11, 12, 13, 14, 15, 16] rfl rfl (by kernel_rfl) ?_
        refine mv rfl rfl (nck rfl rfl (fa rfl rfl (ldI rfl (fun _ hI => by subst hI; exact cell hb7 rfl) rfl (mv rfl rfl (nck rfl rfl (fa rfl rfl (ldI rfl (fun _ hI => by subst hI; exact cell hb7 rfl) rfl (mv rfl rfl (sub rfl rfl (by omega) rfl ?_)))))))))
        refine mv rfl rfl (nck rfl rfl (fa rfl rfl (ldI rfl (fun _ hI => by subst hI; exact cell hb7 rfl) rfl (sls rfl rfl rfl (by omega) rfl (asg rfl rfl (asg rfl rfl ?_))))))
        refine o_nil ?_; refine x_seq ?_; refine c_ret ?_; refine ret2 (.inr rfl) rfl rfl rfl ?_
        have hc : canTake s at_ false n := ⟨rfl, by omega, by omega⟩
        simp only [taken, if_pos hc, decide_eq_true hc]
        have e1 : ((at_ : Int) + n - n).toNat = at_ := by omega
        have e2 : ((at_ : Int) + n).toNat - at_ = n.toNat := by omega
        rw [e1, e2]
        refine ⟨rfl, ⟨?_, by omega, hlen⟩, u7.mod⟩
        rw [hb7]
        have e3 : (at_ : Int) + n = ((at_ + n.toNat : Nat) : Int) := by omega
        simp [e3]

theorem byte_wrap (c : UInt8) : IntKind.i64.wrap (c.toNat : Int) = c.toNat := w64 (by have := c.toNat_lt; omega)
theorem taken1 {s : List UInt8} {at_ : Nat} {bad : Bool} (hc : canTake s at_ bad 1) : ∃ c, s[at_]? = some c ∧ taken s at_ bad 1 = [c] := by
  have h1 := hc.2.2
  have hlt : at_ < s.length := by omega
  refine ⟨s[at_], List.getElem?_eq_getElem hlt, ?_⟩
  rw [taken, if_pos hc]
  simp [List.take_one, List.head?_drop, List.getElem?_eq_getElem hlt]
def rByte (s : List UInt8) (at_ : Nat) (bad : Bool) : Int := if canTake s at_ bad 1 then ((s[at_]?.getD 0).toNat : Int) else 0

theorem RByte_fn {h : Heap} {p : Nat} {s : List UInt8} {at_ : Nat} {bad : Bool} (r : R h p s at_ bad) :
    Does Tryz.prog 21 [ptr p 0] h (fun v h' => v = i64 (rByte s at_ bad) ∧ RAfter h p s (if canTake s at_ bad 1 then at_ + 1 else at_) (if canTake s at_ bad 1 then false else true) h') := by
  refine fn_enter (N := 15) Tryz.func21 (by kernel_rfl) rfl rfl rfl (fun w0 => ?_)
  refine c_seq ?_; refine c_reg ?_; refine asg rfl rfl ?_; refine o_nil ?_; refine x_seq ?_; refine c_seq ?_; refine c_reg ?_
  refine mv rfl rfl (cl (vs := [ptr p 0, i64 1]) rfl (take_fn r 1) rfl (fun v1 h1 r1 => ?_))
  obtain ⟨rfl, r1⟩ := r1
  refine mv rfl rfl (ext rfl rfl rfl (ext rfl rfl rfl (asg rfl rfl (asg rfl rfl ?_))))
  refine o_nil ?_; refine x_seq ?_; refine c_seq ?_; refine c_seq ?_; refine c_reg ?_; refine mv rfl rfl (nt rfl rfl ?_)
  refine o_nil ?_; refine x_seq ?_; refine c_cond rfl (fun c2 => ?_) (fun c2 => ?_)
  · refine c_seq ?_
    refine c_reg ?_; refine asg rfl rfl ?_; refine o_nil ?_; refine x_seq ?_; refine c_ret ?_; refine x_seq_ret ?_; refine ret1 (.inr rfl) rfl rfl ?_
    exact ⟨by rw [rByte, if_neg c2], r1⟩
  · refine c_skip ?_
    have c3 := Classical.not_not.1 c2
    obtain ⟨c, hc, ht⟩ := taken1 c3
    refine x_seq ?_; refine c_seq ?_; refine c_reg ?_; refine mv rfl rfl (idx rfl rfl (by omega) (by rw [ht]; rfl) rfl (cvi rfl rfl (asg rfl rfl ?_)))
    refine o_nil ?_; refine x_seq ?_; refine c_ret ?_; refine ret1 (.inr rfl) rfl rfl ?_
    exact ⟨by rw [rByte, if_pos c3, hc, byte_wrap]; rfl, r1⟩

theorem RBad_fn {h : Heap} {p : Nat} {s : List UInt8} {at_ : Nat} {bad : Bool} (r : R h p s at_ bad) : Does Tryz.prog 45 [ptr p 0] h (fun v h' => h' = h ∧ v = .bool bad) := by
  have hb := r.blk
  refine fn_enter (N := 11) Tryz.func45 (by kernel_rfl) rfl rfl rfl (fun w0 => ?_)
  refine c_seq ?_; refine c_reg ?_; refine asg rfl rfl ?_; refine o_nil ?_; refine x_seq ?_; refine c_seq ?_; refine c_reg ?_
  refine mv rfl rfl (eqpn rfl rfl rfl (mv rfl rfl ?_))
  refine cf 5 rfl (by simp) ?_
  refine gd rfl rfl (mv rfl rfl (gd rfl rfl (nck rfl rfl (gd rfl rfl (fa rfl rfl (gd rfl rfl (ld rfl (cell hb rfl) rfl (pkf rfl rfl rfl (asg rfl rfl ?_)))))))))
  refine o_nil ?_; refine x_seq ?_; refine c_ret ?_; refine ret1 (.inr rfl) rfl rfl ?_
  exact ⟨rfl, rfl⟩

theorem REnd_fn {h : Heap} {p : Nat} {s : List UInt8} {at_ : Nat} {bad : Bool} (r : R h p s at_ bad) : Does Tryz.prog 23 [ptr p 0] h (fun v h' => h' = h ∧ v = .bool (decide (bad = false ∧ at_ = s.length))) := by
  have hb := r.blk
  refine fn_enter (N := 18) Tryz.func23 (by kernel_rfl) rfl rfl rfl (fun w0 => ?_)
  refine c_seq ?_; refine c_reg ?_; refine asg rfl rfl ?_; refine o_nil ?_; refine x_seq ?_; refine c_seq ?_
  refine c_dreg (· = h) [0, 1, 2, 3, 4, 5, 6, 7, 8, 9, 10, 11, 12, 13, 14, 15] rfl rfl (by kernel_rfl) ?_
  refine mv rfl rfl (clI (vs := [ptr p 0]) rfl (RBad_fn r) (fun _ _ e => e.1) rfl (fun v1 h1 r1 => ?_))
  obtain ⟨rfl, rfl⟩ := r1
  refine nt rfl rfl (mv rfl rfl ?_)
  refine cs 6 rfl (fun c2 => ?_) (fun c2 => ?_)
  · refine gd rfl rfl (mv rfl rfl (gd rfl rfl (nck rfl rfl (gd rfl rfl (fa rfl rfl (gd rfl rfl (ldI rfl (fun _ hI => by subst hI; exact cell hb rfl) rfl (gd rfl rfl (mv rfl rfl (gd rfl rfl (nck rfl rfl ?_)))))))))))
    refine gd rfl rfl (fa rfl rfl (gd rfl rfl (ldI rfl (fun _ hI => by subst hI; exact cell hb rfl) rfl (gd rfl rfl (lns rfl rfl (gd rfl rfl (eqi rfl rfl rfl (pkt rfl rfl rfl (asg rfl rfl ?_)))))))))
    refine o_nil ?_; refine x_seq ?_; refine c_ret ?_; refine ret1 (.inr rfl) rfl rfl ?_
    refine ⟨rfl, ?_⟩
    have : bad = false := by simpa using c2
    subst this
    simp only [true_and]
    exact congrArg Value.bool (by rw [Bool.eq_iff_iff]; simp; omega)
  · refine gs rfl rfl rfl rfl (gs rfl rfl rfl rfl (gs rfl rfl rfl rfl (gs rfl rfl rfl rfl (gs rfl rfl rfl rfl (gs rfl rfl rfl rfl (gs rfl rfl rfl rfl (gs rfl rfl rfl rfl ?_)))))))
    refine gs rfl rfl rfl rfl (gs rfl rfl rfl rfl (pkf rfl rfl rfl (asg rfl rfl ?_)))
    refine o_nil ?_; refine x_seq ?_; refine c_ret ?_; refine ret1 (.inr rfl) rfl rfl ?_
    exact ⟨rfl, vbf (fun e => c2 (by rw [e.1]; simp))⟩
end

/-! Walks of the rider's Reader: Word, Text. No condition but what each theorem says. -/
section
open Go Go.Eng

theorem and127u (c : UInt8) : bits2 .and .u8 (c.toNat : Int) 127 = (c.toNat : Int) % 128 := by
  have := and127 (c.toNat : Int)
  rw [IntKind.wrap_u8] at this
  have h := c.toNat_lt
  rw [show (c.toNat : Int) % 256 = c.toNat by omega] at this
  exact this

/-- the word of four bytes -/
def wordv : List UInt8 → Int
  | [a, b, c, d] => (a.toNat + b.toNat * 256 + c.toNat * 65536 + d.toNat * 16777216 : Nat)
  | _ => 0
def rWord (s : List UInt8) (at_ : Nat) (bad : Bool) : Int := if canTake s at_ bad 4 then wordv (taken s at_ bad 4) else 0
theorem taken4 {s : List UInt8} {at_ : Nat} {bad : Bool} (hc : canTake s at_ bad 4) : ∃ a b c d, taken s at_ bad 4 = [a, b, c, d] := by
  have h1 := hc.2.2
  rw [taken, if_pos hc]
  have hl : ((s.drop at_).take (4 : Int).toNat).length = 4 := by simp; omega
  generalize (s.drop at_).take (4 : Int).toNat = l at hl
  match l, hl with
  | [a, b, c, d], _ => exact ⟨a, b, c, d, rfl⟩

theorem RWord_fn {h : Heap} {p : Nat} {s : List UInt8} {at_ : Nat} {bad : Bool} (r : R h p s at_ bad) :
    Does Tryz.prog 14 [ptr p 0] h (fun v h' => v = .int .u32 (rWord s at_ bad) ∧ RAfter h p s (if canTake s at_ bad 4 then at_ + 4 else at_) (if canTake s at_ bad 4 then false else true) h') := by
  refine fn_enter (N := 30) Tryz.func14 (by kernel_rfl) rfl rfl rfl (fun w0 => ?_)
  refine c_seq ?_; refine c_reg ?_; refine asg rfl rfl ?_; refine o_nil ?_; refine x_seq ?_; refine c_seq ?_; refine c_reg ?_
  refine mv rfl rfl (cl (vs := [ptr p 0, i64 4]) rfl (take_fn r 4) rfl (fun v1 h1 r1 => ?_))
  obtain ⟨rfl, r1⟩ := r1
  refine mv rfl rfl (ext rfl rfl rfl (ext rfl rfl rfl (asg rfl rfl (asg rfl rfl ?_))))
  refine o_nil ?_; refine x_seq ?_; refine c_seq ?_; refine c_seq ?_; refine c_reg ?_; refine mv rfl rfl (nt rfl rfl ?_)
  refine o_nil ?_; refine x_seq ?_; refine c_cond rfl (fun c2 => ?_) (fun c2 => ?_)
  · refine c_seq ?_
    refine c_reg ?_; refine asg rfl rfl ?_; refine o_nil ?_; refine x_seq ?_; refine c_ret ?_; refine x_seq_ret ?_; refine ret1 (.inr rfl) rfl rfl ?_
    exact ⟨by rw [rWord, if_neg c2], r1⟩
  · refine c_skip ?_
    have c3 := Classical.not_not.1 c2
    obtain ⟨a, b, c, d, ht⟩ := taken4 c3
    rw [ht]
    have ha := a.toNat_lt
    have hb := b.toNat_lt
    have hc := c.toNat_lt
    have hd := d.toNat_lt
    have wa : ∀ x : UInt8, IntKind.u32.wrap (x.toNat : Int) = x.toNat := fun x => by have := x.toNat_lt; rw [IntKind.wrap_u32]; omega
    have wm : ∀ (x : UInt8) (k : Nat), k ≤ 24 → IntKind.u32.wrap ((x.toNat : Int) * 2 ^ (min (k : Int).toNat IntKind.u32.bits)) = ((x.toNat * 2 ^ k : Nat) : Int) := fun x k hk => by
      have e : min (k : Int).toNat IntKind.u32.bits = k := by simp [IntKind.bits]; omega
      have hx := x.toNat_lt
      have h2 : 2 ^ k ≤ 2 ^ 24 := Nat.pow_le_pow_right (by omega) hk
      have h3 : x.toNat * 2 ^ k ≤ 255 * 2 ^ 24 := Nat.mul_le_mul (by omega) h2
      rw [e, IntKind.wrap_u32]
      have : (x.toNat : Int) * 2 ^ k = ((x.toNat * 2 ^ k : Nat) : Int) := by simp
      rw [this]; omega
    refine x_seq ?_; refine c_seq ?_
    refine c_dreg (· = h1) [0, 1, 2, 3, 4, 5, 6, 7, 8, 9, 10, 11, 12, 13, 14, 15, 16, 17, 18] rfl rfl (by kernel_rfl) ?_
    refine mv rfl rfl (idx rfl rfl (by omega) (by rfl) rfl (cvi rfl rfl (rv 14 rfl (vi (wa a)) (mv rfl rfl (idx rfl rfl (by omega) (by rfl) rfl (cvi rfl rfl (rv 17 rfl (vi (wa b)) ?_)))))))
    refine shl rfl rfl (by omega) rfl (rv 18 rfl (vi (wm b 8 (by omega))) (bit (by decide) rfl rfl rfl (rv 19 rfl (vi (or_add .u32 _ _ 8 (by omega) (by omega) (by simp [IntKind.max, IntKind.bits, IntKind.signed]; omega))) ?_)))
    refine mv rfl rfl (idx rfl rfl (by omega) (by rfl) rfl (cvi rfl rfl (rv 22 rfl (vi (wa c)) (shl rfl rfl (by omega) rfl (rv 23 rfl (vi (wm c 16 (by omega))) ?_)))))
    refine bit (by decide) rfl rfl rfl (rv 24 rfl (vi (or_add .u32 _ _ 16 (by omega) (by omega) (by simp [IntKind.max, IntKind.bits, IntKind.signed]; omega))) ?_)
    refine mv rfl rfl (idx rfl rfl (by omega) (by rfl) rfl (cvi rfl rfl (rv 27 rfl (vi (wa d)) (shl rfl rfl (by omega) rfl (rv 28 rfl (vi (wm d 24 (by omega))) ?_)))))
    refine bit (by decide) rfl rfl rfl (rv 29 rfl (vi (or_add .u32 _ _ 24 (by omega) (by omega) (by simp [IntKind.max, IntKind.bits, IntKind.signed]; omega))) (asg rfl rfl ?_))
    refine o_nil ?_; refine x_seq ?_; refine c_ret ?_; refine ret1 (.inr rfl) rfl rfl ?_
    exact ⟨by rw [rWord, if_pos c3, ht]; rfl, r1⟩

/-- where a text ends -/
def textEnd (s : List UInt8) (at_ : Nat) : Int := Lib.indexByte (s.drop at_) 0
def canText (s : List UInt8) (at_ : Nat) (bad : Bool) : Prop := bad = false ∧ 0 ≤ textEnd s at_ ∧ textEnd s at_ ≤ 64
instance (s : List UInt8) (at_ : Nat) (bad : Bool) : Decidable (canText s at_ bad) := by unfold canText; exact inferInstance
theorem textEnd_lt (s : List UInt8) (at_ : Nat) (h : at_ ≤ s.length) (h0 : 0 ≤ textEnd s at_) : textEnd s at_ < (s.length : Int) - at_ := by
  have key : ∀ (l : List UInt8), 0 ≤ Lib.indexByte l 0 → Lib.indexByte l 0 < l.length := by
    intro l
    induction l with
    | nil => simp [Lib.indexByte]
    | cons b l ih =>
      unfold Lib.indexByte
      split
      · simp
      · split
        · simp
        · rename_i h1 h2
          intro _
          have hg := Lib.indexByte_ge l 0
          have : Lib.indexByte l 0 ≠ -1 := by simpa using h2
          have := ih (by omega)
          simp; omega
  have := key (s.drop at_) h0
  simp only [List.length_drop] at this
  unfold textEnd at *; omega

theorem RText_fn {h : Heap} {p : Nat} {s : List UInt8} {at_ : Nat} {bad : Bool} (r : R h p s at_ bad) :
    Does Tryz.prog 13 [ptr p 0] h (fun v h' => v = str (if canText s at_ bad then (s.drop at_).take (textEnd s at_).toNat else []) ∧
      RAfter h p s (if canText s at_ bad then at_ + (textEnd s at_).toNat + 1 else at_) (if canText s at_ bad then false else true) h') := by
  have hb := r.blk
  have hle := r.le
  have hlen := r.len
  refine fn_enter (N := 57) Tryz.func13 (by kernel_rfl) rfl rfl rfl (fun w0 => ?_)
  refine c_seq ?_; refine c_reg ?_; refine asg rfl rfl ?_; refine o_nil ?_; refine x_seq ?_; refine c_seq ?_; refine c_seq ?_; refine c_reg ?_
  refine mv rfl rfl (eqpn rfl rfl rfl (mv rfl rfl ?_))
  refine cf 6 rfl (by simp) ?_
  refine gd rfl rfl (mv rfl rfl (gd rfl rfl (nck rfl rfl (gd rfl rfl (fa rfl rfl (gd rfl rfl (ld rfl (cell hb rfl) rfl (pkf rfl rfl rfl ?_))))))))
  refine o_nil ?_; refine x_seq ?_; refine c_cond rfl (fun c2 => ?_) (fun c2 => ?_)
  · refine c_seq ?_
    refine c_reg ?_; refine asg rfl rfl ?_; refine o_nil ?_; refine x_seq ?_; refine c_ret ?_; refine x_seq_ret ?_; refine ret1 (.inr rfl) rfl rfl ?_
    have hc : ¬ canText s at_ bad := fun e => by rw [c2] at e; cases e.1
    simp only [if_neg hc]
    exact ⟨by trivial, by rw [c2] at r; exact RAfter.same r⟩
  · refine c_skip ?_
    simp only [Bool.not_eq_true] at c2
    subst c2
    refine x_seq ?_; refine c_seq ?_; refine c_dreg (· = h) [0, 1, 2, 3, 4, 5, 6, 7, 8, 9, 10] rfl rfl (by kernel_rfl) ?_
    refine mv rfl rfl (nck rfl rfl (fa rfl rfl (ldI rfl (fun _ hI => by subst hI; exact cell hb rfl) rfl (mv rfl rfl (nck rfl rfl (fa rfl rfl (ldI rfl (fun _ hI => by subst hI; exact cell hb rfl) rfl (slf rfl rfl (by omega) rfl ?_))))))))
    refine clI (vs := [str (s.drop at_), .int .u8 0]) rfl (ib_fn _ 0 h) (fun _ _ e => e.1) rfl (fun v3 h3 r3 => ?_)
    obtain ⟨rfl, rfl⟩ := r3
    have ht := textEnd_lt s at_ hle
    have hg := Lib.indexByte_ge (s.drop at_) 0
    have e0 : Lib.indexByte (s.drop at_) (0 : Int).toNat.toUInt8 = textEnd s at_ := rfl
    rw [e0]
    change -1 ≤ textEnd s at_ at hg
    generalize hn : textEnd s at_ = n at *
    refine asg rfl rfl ?_; refine o_nil ?_; refine x_seq ?_; refine c_seq ?_; refine c_seq ?_; refine c_reg ?_
    refine mv rfl rfl (lti rfl rfl rfl (mv rfl rfl ?_))
    refine cs 24 rfl (fun c4 => ?_) (fun c4 => ?_)
    · refine gs rfl rfl rfl rfl (gs rfl rfl rfl rfl (pkt rfl rfl rfl ?_))
      refine o_nil ?_; refine x_seq ?_; refine c_t rfl rfl ?_; refine c_seq ?_; refine c_reg ?_
      refine mv rfl rfl (nck rfl rfl (fa rfl rfl (st rfl rfl rfl hb rfl nofun (fun h5 u5 => ?_))))
      refine o_nil ?_; refine x_seq ?_; refine c_seq ?_; refine c_reg ?_; refine asg rfl rfl ?_; refine o_nil ?_; refine x_seq ?_; refine c_ret ?_
      refine x_seq_ret ?_; refine ret1 (.inr rfl) rfl rfl ?_
      have hc : ¬ canText s at_ false := fun e => by have := e.2.1; omega
      simp only [if_neg hc]
      exact ⟨by trivial, ⟨u5.at_, hle, hlen⟩, u5.mod⟩
    · refine gd rfl rfl (mv rfl rfl (gd rfl rfl (gti rfl rfl rfl (pkf rfl rfl rfl ?_))))
      refine o_nil ?_; refine x_seq ?_; refine c_cond rfl (fun c6 => ?_) (fun c6 => ?_)
      · refine c_seq ?_
        refine c_reg ?_; refine mv rfl rfl (nck rfl rfl (fa rfl rfl (st rfl rfl rfl hb rfl nofun (fun h7 u7 => ?_))))
        refine o_nil ?_; refine x_seq ?_; refine c_seq ?_; refine c_reg ?_; refine asg rfl rfl ?_; refine o_nil ?_; refine x_seq ?_; refine c_ret ?_
        refine x_seq_ret ?_; refine ret1 (.inr rfl) rfl rfl ?_
        have hc : ¬ canText s at_ false := fun e => by have := e.2.2; omega
        simp only [if_neg hc]
        exact ⟨by trivial, ⟨u7.at_, hle, hlen⟩, u7.mod⟩
      · refine c_skip ?_
        have ht := ht (by omega)
        refine x_seq ?_; refine c_seq ?_; refine c_reg ?_
        refine mv rfl rfl (nck rfl rfl (fa rfl rfl (ld rfl (cell hb rfl) rfl (mv rfl rfl (add rfl rfl (by omega) rfl (add rfl rfl (by omega) rfl (nck rfl rfl (fa rfl rfl ?_))))))))
        refine st rfl rfl rfl hb rfl nofun (fun h8 u8 => ?_)
        have hb8 := u8.at_
        refine o_nil ?_; refine x_seq ?_; refine c_seq ?_
        refine c_dreg (· = h8) [0, 1, 2, 3, 4, 5, 6, 7, 8, 9, 10, 11, 12, 13, 14, 15, 16, 17] rfl rfl (by kernel_rfl) ?_
        refine mv rfl rfl (nck rfl rfl (fa rfl rfl (ldI rfl (fun _ hI => by subst hI; exact cell hb8 rfl) rfl (mv rfl rfl (nck rfl rfl (fa rfl rfl (ldI rfl (fun _ hI => by subst hI; exact cell hb8 rfl) rfl (mv rfl rfl (sub rfl rfl (by omega) rfl ?_)))))))))
        refine sub rfl rfl (by omega) rfl (mv rfl rfl (nck rfl rfl (fa rfl rfl (ldI rfl (fun _ hI => by subst hI; exact cell hb8 rfl) rfl (sub rfl rfl (by omega) rfl (sls rfl rfl rfl (by omega) rfl ?_))))))
        refine asg rfl rfl ?_; refine o_nil ?_; refine x_seq ?_; refine c_ret ?_; refine ret1 (.inr rfl) rfl rfl ?_
        have hc : canText s at_ false := ⟨rfl, by omega, by omega⟩
        simp only [if_pos hc]
        have e1 : ((at_ : Int) + (n + 1) - n - 1).toNat = at_ := by omega
        have e2 : ((at_ : Int) + (n + 1) - 1).toNat - at_ = n.toNat := by omega
        rw [e1, e2]
        refine ⟨by trivial, ⟨?_, by omega, hlen⟩, u8.mod⟩
        rw [hb8]
        have e3 : (at_ : Int) + (n + 1) = ((at_ + n.toNat + 1 : Nat) : Int) := by omega
        simp [e3]
end

/-! A walk of the rider's Reader: Num. No condition but what the theorem says. -/
section
open Go Go.Eng

/-- a number of at most f groups more, k being gone through -/
def rn : Nat → Nat → Nat → List UInt8 → Option (Int × Nat)
  | 0, _, _, _ => none
  | _ + 1, _, _, [] => none
  | f + 1, k, acc, c :: r =>
    if 128 ≤ c.toNat then rn f (k + 1) (acc + c.toNat % 128 * 2 ^ (7 * k)) r
    else
      let n : Int := if 64 ≤ c.toNat then ((acc + c.toNat % 128 * 2 ^ (7 * k) : Nat) : Int) - ((2 ^ (7 * (k + 1)) : Nat) : Int) else ((acc + c.toNat % 128 * 2 ^ (7 * k) : Nat) : Int)
      if fit32 n ∧ (compact n).length = k + 1 then some (n, k + 1) else none
def numR (l : List UInt8) : Option (Int × Nat) := rn 5 0 0 l

theorem acc_lt {acc k : Nat} (h : acc < 2 ^ (7 * k)) (c : Nat) : acc + c % 128 * 2 ^ (7 * k) < 2 ^ (7 * (k + 1)) := by
  have : 2 ^ (7 * (k + 1)) = 128 * 2 ^ (7 * k) := by rw [Nat.mul_add, Nat.pow_add]; omega
  rw [this]
  have hc : c % 128 ≤ 127 := by omega
  have := Nat.mul_le_mul_right (2 ^ (7 * k)) hc
  omega
theorem wshl (x j : Nat) (hx : x < 128) (hj : j ≤ 40) : IntKind.i64.wrap ((x : Int) * 2 ^ (min (j : Int).toNat IntKind.i64.bits)) = ((x * 2 ^ j : Nat) : Int) := by
  have e : min (j : Int).toNat IntKind.i64.bits = j := by simp [IntKind.bits]; omega
  have h2 : 2 ^ j ≤ 2 ^ 40 := Nat.pow_le_pow_right (by omega) hj
  have h3 : x * 2 ^ j ≤ 127 * 2 ^ 40 := Nat.mul_le_mul (by omega) h2
  have : (x : Int) * 2 ^ j = ((x * 2 ^ j : Nat) : Int) := by simp
  rw [e, this]; exact w64 (by omega)
theorem and64 (c : UInt8) (hc : c.toNat < 128) : (¬ bits2 .and .u8 (c.toNat : Int) 64 = 0) ↔ 64 ≤ c.toNat := by
  have key : ∀ m : Fin 128, (¬ bits2 .and .u8 (m.val : Int) 64 = 0) ↔ 64 ≤ m.val := by decide +kernel
  exact key ⟨c.toNat, hc⟩

def rNum (s : List UInt8) (at_ : Nat) (bad : Bool) : Option (Int × Nat) := if bad then none else numR (s.drop at_)
theorem rn_le : ∀ (f k acc : Nat) (l : List UInt8) (n : Int) (m : Nat), rn f k acc l = some (n, m) → k < m ∧ m ≤ k + l.length ∧ fit32 n
  | 0, _, _, _, _, _, h => by simp [rn] at h
  | _ + 1, _, _, [], _, _, h => by simp [rn] at h
  | f + 1, k, acc, c :: r, n, m, h => by
    unfold rn at h
    split at h
    · obtain ⟨h1, h2, h3⟩ := rn_le f (k + 1) _ r n m h
      simp only [List.length_cons]; exact ⟨by omega, by omega, h3⟩
    · simp only at h
      generalize (if 64 ≤ c.toNat then ((acc + c.toNat % 128 * 2 ^ (7 * k) : Nat) : Int) - ((2 ^ (7 * (k + 1)) : Nat) : Int) else ((acc + c.toNat % 128 * 2 ^ (7 * k) : Nat) : Int)) = x at h
      split at h
      · rename_i hf
        simp only [Option.some.injEq, Prod.mk.injEq] at h
        obtain ⟨rfl, rfl⟩ := h
        simp only [List.length_cons]; exact ⟨by omega, by omega, hf.1⟩
      · cases h

set_option maxHeartbeats 1000000 in
theorem RNum_fn {h : Heap} {p : Nat} {s : List UInt8} {at_ : Nat} {bad : Bool} (r : R h p s at_ bad) :
    Does Tryz.prog 22 [ptr p 0] h (fun v h' => v = i64 (((rNum s at_ bad).map (·.1)).getD 0) ∧ RAfter h p s (((rNum s at_ bad).map (fun x => at_ + x.2)).getD at_) (rNum s at_ bad).isNone h') := by
  have hb := r.blk
  have hle := r.le
  have hlen := r.len
  refine fn_enter (N := 76) Tryz.func22 (by kernel_rfl) rfl rfl rfl (fun w0 => ?_)
  refine c_seq ?_; refine c_reg ?_; refine asg rfl rfl ?_; refine o_nil ?_; refine x_seq ?_; refine c_seq ?_; refine c_seq ?_; refine c_reg ?_
  refine mv rfl rfl (eqpn rfl rfl rfl (mv rfl rfl ?_))
  refine cf 9 rfl (by simp) ?_
  refine gd rfl rfl (mv rfl rfl (gd rfl rfl (nck rfl rfl (gd rfl rfl (fa rfl rfl (gd rfl rfl (ld rfl (cell hb rfl) rfl (pkf rfl rfl rfl ?_))))))))
  refine o_nil ?_; refine x_seq ?_; refine c_cond rfl (fun c2 => ?_) (fun c2 => ?_)
  · refine c_seq ?_
    refine c_reg ?_; refine asg rfl rfl ?_; refine o_nil ?_; refine x_seq ?_; refine c_ret ?_; refine x_seq_ret ?_; refine ret1 (.inr rfl) rfl rfl ?_
    have : rNum s at_ bad = none := by rw [rNum, if_pos c2]
    rw [this]
    exact ⟨rfl, by subst c2; exact RAfter.same r⟩
  · refine c_skip ?_
    simp only [Bool.not_eq_true] at c2
    subst c2
    have hnum : rNum s at_ false = numR (s.drop at_) := by rw [rNum, if_neg (by simp)]
    rw [hnum]
    refine x_seq ?_; refine c_seq ?_; refine c_dreg (· = h) [0, 1, 2, 3, 4, 5, 6, 7, 8, 9] rfl rfl (by kernel_rfl) ?_
    refine mv rfl rfl (nck rfl rfl (fa rfl rfl (ldI rfl (fun _ hI => by subst hI; exact cell hb rfl) rfl (mv rfl rfl (nck rfl rfl (fa rfl rfl (ldI rfl (fun _ hI => by subst hI; exact cell hb rfl) rfl (slf rfl rfl (by omega) rfl ?_))))))))
    have e0 : (at_ : Int).toNat = at_ := by omega
    rw [e0]
    have hl : (s.drop at_).length ≤ 1073741824 := by simp; omega
    have hl2 : (s.drop at_).length + at_ = s.length := by simp; omega
    generalize s.drop at_ = l at *
    refine asg rfl rfl ?_; refine o_nil ?_; refine x_seq ?_; refine c_seq ?_; refine c_reg ?_; refine asg rfl rfl (asg rfl rfl ?_)
    refine o_nil ?_; refine x_seq ?_
    refine c_cut (α := Heap) (fun _ => [(0, ptr p 0)]) (fun h' => h') (fun h' => Ext h h' ∧ numR l = none) ?_ ?_
    · refine c_blk ?_
      refine c_loop (α := Nat × Nat) (fun y => [(0, ptr p 0), (3, str l), (4, i64 (y.2 : Nat)), (5, i64 (y.1 : Nat))]) (fun _ => h)
        (fun y => y.1 ≤ 5 ∧ y.1 ≤ l.length ∧ y.2 < 2 ^ (7 * y.1) ∧ rn (5 - y.1) y.1 y.2 (l.drop y.1) = numR l) (fun y => 5 - y.1) (0, 0) ⟨by simp only; omega, by simp only; omega, by simp, rfl⟩ ⟨rfl, rfl, rfl, rfl, trivial⟩ rfl (fun y hy => ?_)
      obtain ⟨k, acc⟩ := y
      obtain ⟨hk, hkl, hacc, hrn⟩ := hy
      simp only at hk hkl hacc hrn
      refine c_seq ?_; refine c_seq ?_; refine c_reg ?_; refine mv rfl rfl (mv rfl rfl (lns rfl rfl (lti rfl rfl rfl (mv rfl rfl ?_))))
      refine cs 28 rfl (fun c3 => ?_) (fun c3 => ?_)
      · refine gd rfl rfl (mv rfl rfl (gd rfl rfl (lti rfl rfl rfl (pkt rfl rfl rfl ?_))))
        refine o_nil ?_; refine x_seq ?_; refine c_cond rfl (fun c4 => ?_) (fun c4 => ?_)
        · refine c_skip ?_
          have hkl2 : k < l.length := by omega
          have hgk : l[k]? = some l[k] := List.getElem?_eq_getElem hkl2
          have hdrop : l.drop k = l[k] :: l.drop (k + 1) := List.drop_eq_getElem_cons hkl2
          generalize l[k] = c at *
          have hal := acc_lt hacc c.toNat
          have hmx : IntKind.i64.max = 9223372036854775807 := by decide
          rw [hdrop, show 5 - k = (4 - k) + 1 by omega, rn] at hrn
          have hp40 : 2 ^ (7 * (k + 1)) ≤ 2 ^ 35 := Nat.pow_le_pow_right (by omega) (by omega)
          refine x_seq ?_; refine c_blk ?_; refine c_seq ?_; refine c_reg ?_
          refine mv rfl rfl (mv rfl rfl (idx rfl rfl (by omega) (by rw [Int.toNat_natCast]; exact hgk) rfl (asg rfl rfl ?_)))
          refine o_nil ?_; refine x_seq ?_; refine c_seq ?_; refine c_reg ?_
          refine mv rfl rfl (mv rfl rfl (bit (by decide) rfl rfl rfl (rv 37 rfl (vi (and127u c)) (cvi rfl rfl (rv 38 rfl (vi (show IntKind.i64.wrap ((c.toNat : Int) % 128) = ((c.toNat % 128 : Nat) : Int) from by rw [w64 (by omega)]; omega)) ?_)))))
          refine mv rfl rfl (mul rfl rfl (by omega) rfl (rv 40 rfl (vi (show (7 : Int) * (k : Int) = ((7 * k : Nat) : Int) from by omega)) (shl rfl rfl (by omega) rfl (rv 41 rfl (vi (wshl (c.toNat % 128) (7 * k) (by omega) (by omega))) ?_))))
          refine bit (by decide) rfl rfl rfl (rv 42 rfl (vi (or_add .i64 acc (c.toNat % 128 * 2 ^ (7 * k)) (7 * k) hacc (Nat.mul_mod_left _ _) (by rw [hmx]; omega))) ?_)
          generalize acc + c.toNat % 128 * 2 ^ (7 * k) = acc2 at *
          refine asg rfl rfl ?_; refine o_nil ?_; refine x_seq ?_; refine c_seq ?_; refine c_reg ?_
          refine mv rfl rfl (add rfl rfl (by omega) rfl (asg rfl rfl ?_))
          refine o_nil ?_; refine x_seq ?_; refine c_seq ?_; refine c_seq ?_; refine c_reg ?_; refine mv rfl rfl (gei rfl rfl rfl ?_)
          refine o_nil ?_; refine x_seq ?_; refine c_cond rfl (fun c5 => ?_) (fun c5 => ?_)
          · refine c_exit ?_
            refine x_seq_exit ?_; refine x_blk_hit ?_
            refine x_loop (k + 1, acc2) ⟨by simp only; omega, by simp only; omega, hal, ?_⟩ (by simp only; omega) ⟨rfl, rfl, rfl, rfl, trivial⟩ rfl
            simp only
            rw [if_pos (by omega)] at hrn
            rw [← hrn]; congr 1; omega
          · refine c_skip ?_
            rw [if_neg (by omega)] at hrn
            simp only at hrn
            have hn : ∃ n : Int, n = (if 64 ≤ c.toNat then ((acc2 : Nat) : Int) - ((2 ^ (7 * (k + 1)) : Nat) : Int) else ((acc2 : Nat) : Int)) := ⟨_, rfl⟩
            obtain ⟨n, hn⟩ := hn
            rw [← hn] at hrn
            refine x_seq ?_
            refine c_cut (α := Unit) (fun _ => [(0, ptr p 0), (4, i64 n), (5, i64 ((k + 1 : Nat) : Int))]) (fun _ => h) (fun _ => True) ?_ ?_
            · refine c_seq ?_; refine c_reg ?_; refine mv rfl rfl (bit (by decide) rfl rfl rfl (nei rfl rfl rfl ?_))
              refine o_nil ?_; refine x_seq ?_; refine c_cond rfl (fun c6 => ?_) (fun c6 => ?_)
              · refine c_reg ?_
                have c7 := (and64 c (by omega)).1 c6
                refine mv rfl rfl (mv rfl rfl (mul rfl rfl (by omega) rfl (rv 52 rfl (vi (show (7 : Int) * ((k : Int) + 1) = ((7 * (k + 1) : Nat) : Int) from by omega)) (shl rfl rfl (by omega) rfl ?_))))
                refine rv 53 rfl (vi (show IntKind.i64.wrap (-1 * 2 ^ min (((7 * (k + 1) : Nat) : Int)).toNat IntKind.i64.bits) = -((2 ^ (7 * (k + 1)) : Nat) : Int) from by rw [wsh (-1) (.inr rfl) _ (by omega), Int.toNat_natCast]; simp)) ?_
                refine bit (by decide) rfl rfl rfl (rv 54 rfl (vi (or_sign acc2 (7 * (k + 1)) hal (by omega))) (asg rfl rfl ?_))
                refine o_nil ?_
                exact x_cut () trivial ⟨rfl, by rw [hn, if_pos c7]; rfl, rfl, trivial⟩ rfl
              · refine c_skip ?_
                have c7 : ¬ 64 ≤ c.toNat := fun e => c6 ((and64 c (by omega)).2 e)
                exact x_cut () trivial ⟨rfl, by rw [hn, if_neg c7]; rfl, rfl, trivial⟩ rfl
            · intro _ _
              have hnb : -34359738368 ≤ n ∧ n ≤ 34359738368 := by rw [hn]; split <;> omega
              refine c_seq ?_; refine c_seq ?_; refine c_reg ?_
              refine mv rfl rfl (cl (vs := [i64 n, i64 32]) rfl (fits_fn n 32 (by omega) h) rfl (fun v7 h7 r7 => ?_))
              obtain ⟨rfl, rfl⟩ := r7
              have e6 : (2 : Int) ^ (32 - 1 : Int).toNat = 2147483648 := by decide
              rw [e6]
              refine mv rfl rfl ?_; refine cs 57 rfl (fun c8 => ?_) (fun c8 => ?_)
              · have c8' : fit32 n := c8
                refine gd rfl rfl (mv rfl rfl (gd rfl rfl (cl (vs := [i64 n]) rfl (compact_fn n (by omega) h7) rfl (fun v9 h9 r9 => ?_))))
                obtain ⟨rfl, x9⟩ := r9
                have hb9 := x9.get hb
                refine gd rfl rfl (lns rfl rfl (gd rfl rfl (mv rfl rfl (gd rfl rfl (eqi rfl rfl rfl (pkt rfl rfl rfl ?_))))))
                refine o_nil ?_; refine x_seq ?_; refine c_cond rfl (fun c10 => ?_) (fun c10 => ?_)
                · refine c_seq ?_
                  rw [if_pos ⟨c8', by omega⟩] at hrn
                  refine c_reg ?_
                  refine mv rfl rfl (nck rfl rfl (fa rfl rfl (ld rfl (cell hb9 rfl) rfl (mv rfl rfl (add rfl rfl (by omega) rfl (nck rfl rfl (fa rfl rfl (st rfl rfl rfl hb9 rfl nofun (fun h11 u11 => ?_)))))))))
                  have hb11 := u11.at_
                  refine o_nil ?_; refine x_seq ?_; refine c_seq ?_; refine c_reg ?_; refine mv rfl rfl (asg rfl rfl ?_)
                  refine o_nil ?_; refine x_seq ?_; refine c_ret ?_; refine x_seq_ret ?_; refine x_blk_ret ?_; refine x_loop_ret ?_
                  refine x_blk_ret ?_; refine x_cut_ret ?_; refine ret1 (.inr rfl) rfl rfl ?_
                  rw [← hrn]
                  refine ⟨rfl, ⟨?_, by simp; omega, hlen⟩, ⟨by rw [u11.size]; exact x9.size, fun q hq hne => (u11.mod.same q (by have := x9.size; omega) hne).trans (x9.same q hq (fun e => e))⟩⟩
                  rw [hb11]; simp
                · refine c_skip ?_
                  rw [if_neg (fun e => c10 (by omega))] at hrn
                  refine x_seq ?_; refine c_exit ?_; refine x_blk_exit rfl ?_; refine x_loop_exit ?_; refine x_blk_hit ?_
                  exact x_cut h9 ⟨x9, hrn.symm⟩ ⟨rfl, trivial⟩ rfl
              · refine gs rfl rfl rfl rfl (gs rfl rfl rfl rfl (gs rfl rfl rfl rfl (gs rfl rfl rfl rfl (gs rfl rfl rfl rfl (pkf rfl rfl rfl ?_)))))
                rw [if_neg (fun e => c8 e.1)] at hrn
                refine o_nil ?_; refine x_seq ?_; refine c_f rfl (by simp) ?_; refine c_skip ?_; refine x_seq ?_; refine c_exit ?_
                refine x_blk_exit rfl ?_; refine x_loop_exit ?_; refine x_blk_hit ?_
                exact x_cut h7 ⟨Mod.refl _ _, hrn.symm⟩ ⟨rfl, trivial⟩ rfl
        · refine c_exit ?_
          refine x_seq_exit ?_; refine x_loop_exit ?_; refine x_blk_hit ?_
          refine x_cut h ⟨Mod.refl _ _, ?_⟩ ⟨rfl, trivial⟩ rfl
          rw [← hrn, show 5 - k = 0 by omega, rn]
      · refine gs rfl rfl rfl rfl (gs rfl rfl rfl rfl (pkf rfl rfl rfl ?_))
        refine o_nil ?_; refine x_seq ?_; refine c_f rfl (by simp) ?_; refine c_exit ?_; refine x_seq_exit ?_; refine x_loop_exit ?_
        refine x_blk_hit ?_
        refine x_cut h ⟨Mod.refl _ _, ?_⟩ ⟨rfl, trivial⟩ rfl
        have : l.drop k = [] := List.drop_of_length_le (by omega)
        rw [← hrn, this]
        cases 5 - k <;> rfl
    · intro h1 hx
      obtain ⟨x1, hnone⟩ := hx
      have hb1 := x1.get hb
      rw [hnone]
      refine c_seq ?_; refine c_reg ?_
      refine mv rfl rfl (nck rfl rfl (fa rfl rfl (st rfl rfl rfl hb1 rfl nofun (fun h22 u22 => ?_))))
      refine o_nil ?_; refine x_seq ?_; refine c_seq ?_; refine c_reg ?_; refine asg rfl rfl ?_; refine o_nil ?_; refine x_seq ?_; refine c_ret ?_
      refine ret1 (.inr rfl) rfl rfl ?_
      exact ⟨rfl, ⟨u22.at_, hle, hlen⟩, ⟨by rw [u22.size]; exact x1.size, fun q hq hne => (u22.mod.same q (by have := x1.size; omega) hne).trans (x1.same q hq (fun e => e))⟩⟩
end
end Go.Proofs.YtgnkfegkdjfnjaaGreat.R
