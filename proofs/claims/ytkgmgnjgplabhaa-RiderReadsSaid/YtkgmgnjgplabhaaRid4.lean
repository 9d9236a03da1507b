/- Walks of the rider's Writer: IndexByte, Text, Bytes, a compact number's groups, Num. No condition but what each theorem says. -/
import Derived.Test.YtkgmgnjgplabhaaRid3
import Derived.Lib.Bytealg
namespace Go.Proofs.Ytkgmgnjgplabhaa
open Go Go.Eng

theorem ibs (s : List UInt8) (c : Int) (w : World) : (callFunc 49 #[str s, .int .u8 c]).run Try.prog w = .ok (.value (i64 (Lib.indexByte s c.toNat.toUInt8))) w := by
  rw [run_callFunc_extern Try.func49 (by kernel_rfl) (by kernel_rfl) (by kernel_rfl) (e := Extern.BytealgIndexByte.indexByte) (by kernel_rfl), Lib.run_indexByteString]
  rfl
theorem ib1_fn (s : List UInt8) (c : Int) (h : Heap) : Does Try.prog 46 [str s, .int .u8 c] h (fun v h' => h' = h ∧ v = i64 (Lib.indexByte s c.toNat.toUInt8)) := by
  refine fn_enter (N := 8) Try.func46 (by kernel_rfl) rfl rfl rfl (fun w0 => ?_)
  refine c_seq ?_; refine c_reg ?_; refine asg rfl rfl ?_; refine o_nil ?_; refine x_seq ?_; refine c_seq ?_; refine c_reg ?_
  refine mv rfl rfl (mv rfl rfl (clx (vs := [str s, .int .u8 c]) rfl (ibs s c) nofun rfl ?_))
  refine asg rfl rfl ?_; refine o_nil ?_; refine x_seq ?_; refine c_ret ?_; refine ret1 (.inr rfl) rfl rfl ?_
  exact ⟨rfl, rfl⟩
theorem ib_fn (s : List UInt8) (c : Int) (h : Heap) : Does Try.prog 43 [str s, .int .u8 c] h (fun v h' => h' = h ∧ v = i64 (Lib.indexByte s c.toNat.toUInt8)) := by
  refine fn_enter (N := 8) Try.func43 (by kernel_rfl) rfl rfl rfl (fun w0 => ?_)
  refine c_seq ?_; refine c_reg ?_; refine asg rfl rfl ?_; refine o_nil ?_; refine x_seq ?_; refine c_seq ?_; refine c_reg ?_
  refine mv rfl rfl (mv rfl rfl (cl (vs := [str s, .int .u8 c]) rfl (ib1_fn s c h) rfl (fun v1 h1 r1 => ?_)))
  obtain ⟨rfl, rfl⟩ := r1
  refine asg rfl rfl ?_; refine o_nil ?_; refine x_seq ?_; refine c_ret ?_; refine ret1 (.inr rfl) rfl rfl ?_
  exact ⟨rfl, rfl⟩
theorem ib0_neg (s : List UInt8) : 0 ≤ Lib.indexByte s 0 ↔ 0 ∈ s := by
  induction s with
  | nil => simp [Lib.indexByte]
  | cons b l ih =>
    unfold Lib.indexByte
    have hg := Lib.indexByte_ge l 0
    by_cases h : b = 0
    · subst h; simp
    · have h1 : (b == 0) = false := by simpa using h
      have h2 : ¬ (0 : UInt8) = b := fun e => h e.symm
      simp only [h1, Bool.false_eq_true, if_false, List.mem_cons, h2, false_or]
      rw [← ih]
      split
      · rename_i e; have : Lib.indexByte l 0 = -1 := by simpa using e
        omega
      · rename_i e; have : Lib.indexByte l 0 ≠ -1 := by simpa using e
        omega

/-- is a text one that may be written? -/
def textOk (s : List UInt8) : Prop := s.length ≤ 64 ∧ 0 ∉ s
instance (s : List UInt8) : Decidable (textOk s) := by unfold textOk; exact inferInstance

theorem Text_fn {h : Heap} {p : Nat} {vb : Value} {all : List UInt8} {sp : Bool} (w : W h p vb all sp) (s : List UInt8) :
    Does Try.prog 26 [ptr p 0, str s] h (fun v h' => v = .tuple #[] ∧ ∃ vb', W h' p vb' (if textOk s then all ++ (s ++ [0]) else all) (if textOk s then sp else true) ∧ WS h p vb h' vb') := by
  refine fn_enter (N := 18) Try.func26 (by kernel_rfl) rfl rfl rfl (fun w0 => ?_)
  refine c_seq ?_; refine c_seq ?_; refine c_reg ?_; refine mv rfl rfl (lns rfl rfl (gti rfl rfl rfl (mv rfl rfl ?_)))
  refine cs 7 rfl (fun c1 => ?_) (fun c1 => ?_)
  · refine gs rfl rfl rfl rfl (gs rfl rfl rfl rfl (gs rfl rfl rfl rfl (pkt rfl rfl rfl ?_)))
    refine o_nil ?_; refine x_seq ?_; refine c_t rfl rfl ?_; refine c_seq ?_; refine c_reg ?_
    refine mv rfl rfl (cl (vs := [ptr p 0]) rfl (spoil_fn w) rfl (fun v2 h2 r2 => ?_))
    obtain ⟨rfl, w2, s2⟩ := r2
    refine o_nil ?_; refine x_seq ?_; refine c_ret ?_; refine x_seq_ret ?_; refine ret0 (.inr rfl) rfl ?_
    have : ¬ textOk s := fun e => by have := e.1; omega
    rw [if_neg this, if_neg this]
    exact ⟨rfl, vb, w2, s2⟩
  · refine gd rfl rfl (mv rfl rfl (gd rfl rfl (cl (vs := [str s, .int .u8 0]) rfl (ib_fn s 0 h) rfl (fun v3 h3 r3 => ?_))))
    obtain ⟨rfl, rfl⟩ := r3
    refine gd rfl rfl (gei rfl rfl rfl (pkf rfl rfl rfl ?_))
    refine o_nil ?_; refine x_seq ?_; refine c_cond rfl (fun c4 => ?_) (fun c4 => ?_)
    · refine c_seq ?_
      refine c_reg ?_; refine mv rfl rfl (cl (vs := [ptr p 0]) rfl (spoil_fn w) rfl (fun v5 h5 r5 => ?_))
      obtain ⟨rfl, w2, s2⟩ := r5
      refine o_nil ?_; refine x_seq ?_; refine c_ret ?_; refine x_seq_ret ?_; refine ret0 (.inr rfl) rfl ?_
      have : ¬ textOk s := fun e => e.2 ((ib0_neg s).1 c4)
      rw [if_neg this, if_neg this]
      exact ⟨rfl, vb, w2, s2⟩
    · refine c_skip ?_
      refine x_seq ?_; refine c_reg ?_
      refine mv rfl rfl (mv rfl rfl (cat (m := [0]) rfl rfl (by simp; omega) rfl (cl (vs := [ptr p 0, str (s ++ [0])]) rfl (put_fn w _ (by simp; omega)) rfl (fun v6 h6 r6 => ?_))))
      obtain ⟨rfl, vb', w2, s2⟩ := r6
      refine o_nil ?_; refine ret0 (.inl rfl) rfl ?_
      have : textOk s := ⟨by omega, fun e => c4 ((ib0_neg s).2 e)⟩
      rw [if_pos this, if_pos this]
      exact ⟨rfl, vb', w2, s2⟩

theorem Bytes_fn {h : Heap} {p : Nat} {vb : Value} {all : List UInt8} {sp : Bool} (w : W h p vb all sp) :
    Does Try.prog 10 [ptr p 0] h (fun v h' => h' = h ∧ v = .tuple #[str (if sp then [] else if 131072 < all.length then [] else all), i64 (if sp then 1 else if 131072 < all.length then 2 else 0)]) := by
  have hb := w.blk
  refine fn_enter (N := 21) Try.func10 (by kernel_rfl) rfl rfl rfl (fun w0 => ?_)
  refine c_seq ?_; refine c_reg ?_; refine asg rfl rfl (asg rfl rfl ?_)
  refine o_nil ?_; refine x_seq ?_; refine c_seq ?_; refine c_seq ?_; refine c_reg ?_; refine mv rfl rfl (eqpn rfl rfl rfl (mv rfl rfl ?_))
  refine cf 6 rfl (by simp) ?_
  refine gd rfl rfl (mv rfl rfl (gd rfl rfl (nck rfl rfl (gd rfl rfl (fa rfl rfl (gd rfl rfl (ld rfl (cell hb rfl) rfl (pkf rfl rfl rfl ?_))))))))
  refine o_nil ?_; refine x_seq ?_; refine c_cond rfl (fun c2 => ?_) (fun c2 => ?_)
  · refine c_seq ?_
    refine c_reg ?_; refine asg rfl rfl (asg rfl rfl ?_)
    refine o_nil ?_; refine x_seq ?_; refine c_ret ?_; refine x_seq_ret ?_; refine ret2 (.inr rfl) rfl rfl rfl ?_
    exact ⟨rfl, by rw [c2]; rfl⟩
  · refine c_skip ?_
    simp only [Bool.not_eq_true] at c2
    refine x_seq ?_; refine c_seq ?_; refine c_seq ?_; refine c_reg ?_; refine mv rfl rfl (nck rfl rfl (fa rfl rfl (ld rfl (cell hb rfl) rfl ?_)))
    refine o_nil ?_; refine x_seq ?_; refine c_cond rfl (fun c3 => ?_) (fun c3 => ?_)
    · refine c_seq ?_
      refine c_reg ?_; refine asg rfl rfl (asg rfl rfl ?_)
      refine o_nil ?_; refine x_seq ?_; refine c_ret ?_; refine x_seq_ret ?_; refine ret2 (.inr rfl) rfl rfl rfl ?_
      exact ⟨rfl, by simp [c2, c3]⟩
    · refine c_skip ?_
      obtain ⟨xs, o, hx⟩ := w.own
      obtain rfl := hx (by omega)
      refine x_seq ?_; refine c_seq ?_; refine c_reg ?_
      refine mv rfl rfl (nck rfl rfl (fa rfl rfl (ld rfl (cell hb rfl) rfl (cvo rfl o rfl (asg rfl rfl (asg rfl rfl ?_))))))
      refine o_nil ?_; refine x_seq ?_; refine c_ret ?_; refine ret2 (.inr rfl) rfl rfl rfl ?_
      exact ⟨rfl, by simp [c2, c3]⟩
end Go.Proofs.Ytkgmgnjgplabhaa
