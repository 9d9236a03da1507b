/- Walks of the rider's Reader: Read, take, Byte, Word, Text, Raw, At, Bad, End. No condition but what each theorem says. -/
import Derived.Test.YtkgmgnjgplabhaaRid5
namespace Go.Proofs.Ytkgmgnjgplabhaa
open Go Go.Eng

/-- a Reader lies at block p, over the text s, at a place, bad or not -/
structure R (h : Heap) (p : Nat) (s : List UInt8) (at_ : Nat) (bad : Bool) : Prop where
  blk : h[p]? = some (.cells #[str s, i64 at_, .bool bad] 60 (0, 0))
  le : at_ ≤ s.length
  len : s.length ≤ 1073741824
theorem R.mod {S : Nat → Prop} {h h' : Heap} {p : Nat} {s : List UInt8} {at_ : Nat} {bad : Bool} (r : R h p s at_ bad) (x : Mod S h h') (hp : ¬ S p) : R h' p s at_ bad := ⟨x.get r.blk hp, r.le, r.len⟩

theorem Read_fn (s : List UInt8) (hs : s.length ≤ 1073741824) (h : Heap) : Does Try.prog 12 [str s] h (fun v h' => v = ptr h.size 0 ∧ R h' h.size s 0 false ∧ Ext h h') := by
  refine fn_enter (N := 6) Try.func12 (by kernel_rfl) rfl rfl rfl (fun w0 => ?_)
  refine c_seq ?_; refine c_reg ?_; refine asg rfl rfl ?_; refine o_nil ?_; refine x_seq ?_; refine c_seq ?_; refine c_reg ?_
  refine mv rfl rfl (bld (vs := [(0, str s)]) (v := .agg #[str s, i64 0, .bool false]) rfl (fun _ => by kernel_rfl) rfl (bx rfl nofun rfl (fun h1 n1 => ?_)))
  refine asg rfl rfl ?_; refine o_nil ?_; refine x_seq ?_; refine c_ret ?_; refine ret1 (.inr rfl) rfl rfl ?_
  exact ⟨rfl, ⟨n1.at_, Nat.zero_le _, hs⟩, n1.ext⟩

/-- may so many bytes be taken? -/
def canTake (s : List UInt8) (at_ : Nat) (bad : Bool) (n : Int) : Prop := bad = false ∧ 0 ≤ n ∧ n ≤ (s.length : Int) - at_
instance (s : List UInt8) (at_ : Nat) (bad : Bool) (n : Int) : Decidable (canTake s at_ bad n) := by unfold canTake; exact inferInstance
def taken (s : List UInt8) (at_ : Nat) (bad : Bool) (n : Int) : List UInt8 := if canTake s at_ bad n then (s.drop at_).take n.toNat else []

/-- what a Reader's call leaves -/
def RAfter (h : Heap) (p : Nat) (s : List UInt8) (at_ : Nat) (bad : Bool) (h' : Heap) : Prop := R h' p s at_ bad ∧ Mod (· = p) h h'
theorem RAfter.same {h : Heap} {p : Nat} {s : List UInt8} {at_ : Nat} {bad : Bool} (r : R h p s at_ bad) : RAfter h p s at_ bad h := ⟨r, Mod.refl _ _⟩

theorem take_fn {h : Heap} {p : Nat} {s : List UInt8} {at_ : Nat} {bad : Bool} (r : R h p s at_ bad) (n : Int) :
    Does Try.prog 42 [ptr p 0, i64 n] h (fun v h' => v = .tuple #[str (taken s at_ bad n), .bool (decide (canTake s at_ bad n))] ∧ RAfter h p s (if canTake s at_ bad n then at_ + n.toNat else at_) (if canTake s at_ bad n then false else true) h') := by
  have hb := r.blk
  have hle := r.le
  have hlen := r.len
  refine fn_enter (N := 56) Try.func42 (by kernel_rfl) rfl rfl rfl (fun w0 => ?_)
  refine c_seq ?_; refine c_reg ?_; refine asg rfl rfl (asg rfl rfl ?_)
  refine o_nil ?_; refine x_seq ?_; refine c_seq ?_; refine c_seq ?_; refine c_reg ?_; refine mv rfl rfl (eqpn rfl rfl rfl (mv rfl rfl ?_))
  refine cf 8 rfl (by simp) ?_
  refine gd rfl rfl (mv rfl rfl (gd rfl rfl (nck rfl rfl (gd rfl rfl (fa rfl rfl (gd rfl rfl (ld rfl (cell hb rfl) rfl (pkf rfl rfl rfl ?_))))))))
  refine o_nil ?_; refine x_seq ?_; refine c_cond rfl (fun c2 => ?_) (fun c2 => ?_)
  · refine c_seq ?_
    refine c_reg ?_; refine asg rfl rfl (asg rfl rfl ?_)
    refine o_nil ?_; refine x_seq ?_; refine c_ret ?_; refine x_seq_ret ?_; refine ret2 (.inr rfl) rfl rfl rfl ?_
    have hc : ¬ canTake s at_ bad n := fun e => by rw [c2] at e; cases e.1
    simp only [taken, if_neg hc, decide_eq_false hc]
    exact ⟨trivial, by rw [c2] at r; exact RAfter.same r⟩
  · refine c_skip ?_
    simp only [Bool.not_eq_true] at c2
    subst c2
    refine x_seq ?_; refine c_seq ?_; refine c_seq ?_
    refine c_dreg (· = h) [0, 1, 2, 3, 4, 5, 6, 7, 8, 9, 10, 11, 12, 13, 14, 15] rfl rfl (by kernel_rfl) ?_
    refine mv rfl rfl (lti rfl rfl rfl (mv rfl rfl ?_))
    refine cs 16 rfl (fun c3 => ?_) (fun c3 => ?_)
    · refine gs rfl rfl rfl rfl (gs rfl rfl rfl rfl (gs rfl rfl rfl rfl (gs rfl rfl rfl rfl (gs rfl rfl rfl rfl (gs rfl rfl rfl rfl (gs rfl rfl rfl rfl (gs rfl rfl rfl rfl ?_)))))))
      refine gs rfl rfl rfl rfl (gs rfl rfl rfl rfl (gs rfl rfl rfl rfl (gs rfl rfl rfl rfl (pkt rfl rfl rfl ?_))))
      refine o_nil ?_; refine x_seq ?_; refine c_t rfl rfl ?_; refine c_seq ?_; refine c_reg ?_
      refine mv rfl rfl (nck rfl rfl (fa rfl rfl (st rfl rfl rfl hb rfl nofun (fun h4 u4 => ?_))))
      refine o_nil ?_; refine x_seq ?_; refine c_seq ?_; refine c_reg ?_; refine asg rfl rfl (asg rfl rfl ?_)
      refine o_nil ?_; refine x_seq ?_; refine c_ret ?_; refine x_seq_ret ?_; refine ret2 (.inr rfl) rfl rfl rfl ?_
      have hc : ¬ canTake s at_ false n := fun e => by have := e.2.1; omega
      simp only [taken, if_neg hc, decide_eq_false hc]
      exact ⟨trivial, ⟨u4.at_, hle, hlen⟩, u4.mod⟩
    · refine gd rfl rfl (mv rfl rfl (gd rfl rfl (mv rfl rfl (gd rfl rfl (nck rfl rfl (gd rfl rfl (fa rfl rfl (gd rfl rfl (ldI rfl (fun _ hI => by subst hI; exact cell hb rfl) rfl (gd rfl rfl (lns rfl rfl ?_)))))))))))
      refine gd rfl rfl (mv rfl rfl (gd rfl rfl (nck rfl rfl (gd rfl rfl (fa rfl rfl (gd rfl rfl (ldI rfl (fun _ hI => by subst hI; exact cell hb rfl) rfl (gd rfl rfl (sub rfl rfl (by omega) rfl ?_)))))))))
      refine gd rfl rfl (gti rfl rfl rfl (pkf rfl rfl rfl ?_))
      refine o_nil ?_; refine x_seq ?_; refine c_cond rfl (fun c5 => ?_) (fun c5 => ?_)
      · refine c_seq ?_
        refine c_reg ?_; refine mv rfl rfl (nck rfl rfl (fa rfl rfl (st rfl rfl rfl hb rfl nofun (fun h6 u6 => ?_))))
        refine o_nil ?_; refine x_seq ?_; refine c_seq ?_; refine c_reg ?_; refine asg rfl rfl (asg rfl rfl ?_)
        refine o_nil ?_; refine x_seq ?_; refine c_ret ?_; refine x_seq_ret ?_; refine ret2 (.inr rfl) rfl rfl rfl ?_
        have hc : ¬ canTake s at_ false n := fun e => by have := e.2.2; omega
        simp only [taken, if_neg hc, decide_eq_false hc]
        exact ⟨trivial, ⟨u6.at_, hle, hlen⟩, u6.mod⟩
      · refine c_skip ?_
        refine x_seq ?_; refine c_seq ?_; refine c_reg ?_
        refine mv rfl rfl (nck rfl rfl (fa rfl rfl (ld rfl (cell hb rfl) rfl (mv rfl rfl (add rfl rfl (by omega) rfl (nck rfl rfl (fa rfl rfl (st rfl rfl rfl hb rfl nofun (fun h7 u7 => ?_)))))))))
        have hb7 := u7.at_
        refine o_nil ?_; refine x_seq ?_; refine c_seq ?_
        refine c_dreg (· = h7) [0, 1, 2, 3, 4, 5, 6, 7, 8, 9, 10, 11, 12, 13, 14, 15, 16] rfl rfl (by kernel_rfl) ?_
        refine mv rfl rfl (nck rfl rfl (fa rfl rfl (ldI rfl (fun _ hI => by subst hI; exact cell hb7 rfl) rfl (mv rfl rfl (nck rfl rfl (fa rfl rfl (ldI rfl (fun _ hI => by subst hI; exact cell hb7 rfl) rfl (mv rfl rfl (sub rfl rfl (by omega) rfl ?_)))))))))
        refine mv rfl rfl (nck rfl rfl (fa rfl rfl (ldI rfl (fun _ hI => by subst hI; exact cell hb7 rfl) rfl (sls rfl rfl rfl (by omega) rfl (asg rfl rfl (asg rfl rfl ?_))))))
        refine o_nil ?_; refine x_seq ?_; refine c_ret ?_; refine ret2 (.inr rfl) rfl rfl rfl ?_
        have hc : canTake s at_ false n := ⟨rfl, by omega, by omega⟩
        simp only [taken, if_pos hc, decide_eq_true hc]
        have e1 : ((at_ : Int) + n - n).toNat = at_ := by omega
        have e2 : ((at_ : Int) + n).toNat - at_ = n.toNat := by omega
        rw [e1, e2]
        refine ⟨rfl, ⟨?_, by omega, hlen⟩, u7.mod⟩
        rw [hb7]
        have e3 : (at_ : Int) + n = ((at_ + n.toNat : Nat) : Int) := by omega
        simp [e3]

theorem byte_wrap (c : UInt8) : IntKind.i64.wrap (c.toNat : Int) = c.toNat := w64 (by have := c.toNat_lt; omega)
theorem taken1 {s : List UInt8} {at_ : Nat} {bad : Bool} (hc : canTake s at_ bad 1) : ∃ c, s[at_]? = some c ∧ taken s at_ bad 1 = [c] := by
  have h1 := hc.2.2
  have hlt : at_ < s.length := by omega
  refine ⟨s[at_], List.getElem?_eq_getElem hlt, ?_⟩
  rw [taken, if_pos hc]
  simp [List.take_one, List.head?_drop, List.getElem?_eq_getElem hlt]
def rByte (s : List UInt8) (at_ : Nat) (bad : Bool) : Int := if canTake s at_ bad 1 then ((s[at_]?.getD 0).toNat : Int) else 0

theorem RByte_fn {h : Heap} {p : Nat} {s : List UInt8} {at_ : Nat} {bad : Bool} (r : R h p s at_ bad) :
    Does Try.prog 20 [ptr p 0] h (fun v h' => v = i64 (rByte s at_ bad) ∧ RAfter h p s (if canTake s at_ bad 1 then at_ + 1 else at_) (if canTake s at_ bad 1 then false else true) h') := by
  refine fn_enter (N := 15) Try.func20 (by kernel_rfl) rfl rfl rfl (fun w0 => ?_)
  refine c_seq ?_; refine c_reg ?_; refine asg rfl rfl ?_; refine o_nil ?_; refine x_seq ?_; refine c_seq ?_; refine c_reg ?_
  refine mv rfl rfl (cl (vs := [ptr p 0, i64 1]) rfl (take_fn r 1) rfl (fun v1 h1 r1 => ?_))
  obtain ⟨rfl, r1⟩ := r1
  refine mv rfl rfl (ext rfl rfl rfl (ext rfl rfl rfl (asg rfl rfl (asg rfl rfl ?_))))
  refine o_nil ?_; refine x_seq ?_; refine c_seq ?_; refine c_seq ?_; refine c_reg ?_; refine mv rfl rfl (nt rfl rfl ?_)
  refine o_nil ?_; refine x_seq ?_; refine c_cond rfl (fun c2 => ?_) (fun c2 => ?_)
  · refine c_seq ?_
    refine c_reg ?_; refine asg rfl rfl ?_; refine o_nil ?_; refine x_seq ?_; refine c_ret ?_; refine x_seq_ret ?_; refine ret1 (.inr rfl) rfl rfl ?_
    exact ⟨by rw [rByte, if_neg c2], r1⟩
  · refine c_skip ?_
    have c3 := Classical.not_not.1 c2
    obtain ⟨c, hc, ht⟩ := taken1 c3
    refine x_seq ?_; refine c_seq ?_; refine c_reg ?_; refine mv rfl rfl (idx rfl rfl (by omega) (by rw [ht]; rfl) rfl (cvi rfl rfl (asg rfl rfl ?_)))
    refine o_nil ?_; refine x_seq ?_; refine c_ret ?_; refine ret1 (.inr rfl) rfl rfl ?_
    exact ⟨by rw [rByte, if_pos c3, hc, byte_wrap]; rfl, r1⟩

theorem RRaw_fn {h : Heap} {p : Nat} {s : List UInt8} {at_ : Nat} {bad : Bool} (r : R h p s at_ bad) (n : Int) :
    Does Try.prog 19 [ptr p 0, i64 n] h (fun v h' => v = str (taken s at_ bad n) ∧ RAfter h p s (if canTake s at_ bad n then at_ + n.toNat else at_) (if canTake s at_ bad n then false else true) h') := by
  refine fn_enter (N := 14) Try.func19 (by kernel_rfl) rfl rfl rfl (fun w0 => ?_)
  refine c_seq ?_; refine c_reg ?_; refine asg rfl rfl ?_; refine o_nil ?_; refine x_seq ?_; refine c_seq ?_; refine c_reg ?_
  refine mv rfl rfl (mv rfl rfl (cl (vs := [ptr p 0, i64 n]) rfl (take_fn r n) rfl (fun v1 h1 r1 => ?_)))
  obtain ⟨rfl, r1⟩ := r1
  refine mv rfl rfl (ext rfl rfl rfl (ext rfl rfl rfl (asg rfl rfl (asg rfl rfl ?_))))
  refine o_nil ?_; refine x_seq ?_; refine c_seq ?_; refine c_reg ?_; refine mv rfl rfl (asg rfl rfl ?_)
  refine o_nil ?_; refine x_seq ?_; refine c_ret ?_; refine ret1 (.inr rfl) rfl rfl ?_
  exact ⟨rfl, r1⟩

theorem RAt_fn {h : Heap} {p : Nat} {s : List UInt8} {at_ : Nat} {bad : Bool} (r : R h p s at_ bad) : Does Try.prog 14 [ptr p 0] h (fun v h' => h' = h ∧ v = i64 at_) := by
  have hb := r.blk
  refine fn_enter (N := 9) Try.func14 (by kernel_rfl) rfl rfl rfl (fun w0 => ?_)
  refine c_seq ?_; refine c_reg ?_; refine asg rfl rfl ?_; refine o_nil ?_; refine x_seq ?_; refine c_seq ?_; refine c_seq ?_; refine c_reg ?_
  refine mv rfl rfl (eqpn rfl rfl rfl ?_)
  refine o_nil ?_; refine x_seq ?_; refine c_f rfl (by simp) ?_
  refine c_skip ?_
  refine x_seq ?_; refine c_seq ?_; refine c_reg ?_; refine mv rfl rfl (nck rfl rfl (fa rfl rfl (ld rfl (cell hb rfl) rfl (asg rfl rfl ?_))))
  refine o_nil ?_; refine x_seq ?_; refine c_ret ?_; refine ret1 (.inr rfl) rfl rfl ?_
  exact ⟨rfl, rfl⟩

theorem RBad_fn {h : Heap} {p : Nat} {s : List UInt8} {at_ : Nat} {bad : Bool} (r : R h p s at_ bad) : Does Try.prog 15 [ptr p 0] h (fun v h' => h' = h ∧ v = .bool bad) := by
  have hb := r.blk
  refine fn_enter (N := 11) Try.func15 (by kernel_rfl) rfl rfl rfl (fun w0 => ?_)
  refine c_seq ?_; refine c_reg ?_; refine asg rfl rfl ?_; refine o_nil ?_; refine x_seq ?_; refine c_seq ?_; refine c_reg ?_
  refine mv rfl rfl (eqpn rfl rfl rfl (mv rfl rfl ?_))
  refine cf 5 rfl (by simp) ?_
  refine gd rfl rfl (mv rfl rfl (gd rfl rfl (nck rfl rfl (gd rfl rfl (fa rfl rfl (gd rfl rfl (ld rfl (cell hb rfl) rfl (pkf rfl rfl rfl (asg rfl rfl ?_)))))))))
  refine o_nil ?_; refine x_seq ?_; refine c_ret ?_; refine ret1 (.inr rfl) rfl rfl ?_
  exact ⟨rfl, rfl⟩

theorem REnd_fn {h : Heap} {p : Nat} {s : List UInt8} {at_ : Nat} {bad : Bool} (r : R h p s at_ bad) : Does Try.prog 23 [ptr p 0] h (fun v h' => h' = h ∧ v = .bool (decide (bad = false ∧ at_ = s.length))) := by
  have hb := r.blk
  refine fn_enter (N := 18) Try.func23 (by kernel_rfl) rfl rfl rfl (fun w0 => ?_)
  refine c_seq ?_; refine c_reg ?_; refine asg rfl rfl ?_; refine o_nil ?_; refine x_seq ?_; refine c_seq ?_
  refine c_dreg (· = h) [0, 1, 2, 3, 4, 5, 6, 7, 8, 9, 10, 11, 12, 13, 14, 15] rfl rfl (by kernel_rfl) ?_
  refine mv rfl rfl (clI (vs := [ptr p 0]) rfl (RBad_fn r) (fun _ _ e => e.1) rfl (fun v1 h1 r1 => ?_))
  obtain ⟨rfl, rfl⟩ := r1
  refine nt rfl rfl (mv rfl rfl ?_)
  refine cs 6 rfl (fun c2 => ?_) (fun c2 => ?_)
  · refine gd rfl rfl (mv rfl rfl (gd rfl rfl (nck rfl rfl (gd rfl rfl (fa rfl rfl (gd rfl rfl (ldI rfl (fun _ hI => by subst hI; exact cell hb rfl) rfl (gd rfl rfl (mv rfl rfl (gd rfl rfl (nck rfl rfl ?_)))))))))))
    refine gd rfl rfl (fa rfl rfl (gd rfl rfl (ldI rfl (fun _ hI => by subst hI; exact cell hb rfl) rfl (gd rfl rfl (lns rfl rfl (gd rfl rfl (eqi rfl rfl rfl (pkt rfl rfl rfl (asg rfl rfl ?_)))))))))
    refine o_nil ?_; refine x_seq ?_; refine c_ret ?_; refine ret1 (.inr rfl) rfl rfl ?_
    refine ⟨rfl, ?_⟩
    have : bad = false := by simpa using c2
    subst this
    simp only [true_and]
    exact congrArg Value.bool (by rw [Bool.eq_iff_iff]; simp; omega)
  · refine gs rfl rfl rfl rfl (gs rfl rfl rfl rfl (gs rfl rfl rfl rfl (gs rfl rfl rfl rfl (gs rfl rfl rfl rfl (gs rfl rfl rfl rfl (gs rfl rfl rfl rfl (gs rfl rfl rfl rfl ?_)))))))
    refine gs rfl rfl rfl rfl (gs rfl rfl rfl rfl (pkf rfl rfl rfl (asg rfl rfl ?_)))
    refine o_nil ?_; refine x_seq ?_; refine c_ret ?_; refine ret1 (.inr rfl) rfl rfl ?_
    exact ⟨rfl, vbf (fun e => c2 (by rw [e.1]; simp))⟩
end Go.Proofs.Ytkgmgnjgplabhaa
