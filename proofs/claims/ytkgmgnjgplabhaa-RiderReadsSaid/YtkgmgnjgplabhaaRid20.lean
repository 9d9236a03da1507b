/- The walk of the reference's Reader's Text; the law RiderReads. No condition but what each theorem says. -/
import Derived.Test.YtkgmgnjgplabhaaRid19
namespace Go.Proofs.Ytkgmgnjgplabhaa
open Go Go.Eng

theorem ib_get : ∀ (l : List UInt8), 0 ≤ Lib.indexByte l 0 → l[(Lib.indexByte l 0).toNat]? = some 0
  | [], h => by simp [Lib.indexByte] at h
  | c :: l, h => by
    have hg := Lib.indexByte_ge l 0
    have ih := ib_get l
    unfold Lib.indexByte at h ⊢
    by_cases hc : c = 0
    · subst hc; simp
    · have h1 : (c == 0) = false := by simpa using hc
      simp only [h1, Bool.false_eq_true, if_false] at h ⊢
      by_cases h2 : Lib.indexByte l 0 = -1
      · rw [h2] at h; simp at h
      · have h3 : ¬ (Lib.indexByte l 0 == -1) = true := by simpa using h2
        rw [if_neg h3] at h ⊢
        have h4 := ih (by omega)
        rw [show (Lib.indexByte l 0 + 1).toNat = (Lib.indexByte l 0).toNat + 1 by omega]
        simpa using h4
theorem ib_found {l : List UInt8} {n : Nat} (h : 0 ∉ l.take n) (hn : l[n]? = some 0) : Lib.indexByte l 0 = n := by
  obtain ⟨hlt, he⟩ := List.getElem?_eq_some_iff.1 hn
  have : l = l.take n ++ 0 :: l.drop (n + 1) := by
    have h1 := List.drop_eq_getElem_cons hlt
    rw [he] at h1
    rw [← h1]; simp
  have h2 := ib_text (l.take n) (l.drop (n + 1)) h
  rw [← this] at h2
  rw [h2, List.length_take]; omega

theorem QTextR_fn {h : Heap} {q : Nat} {s : List UInt8} {at_ : Nat} {bad : Bool} (r : RQ h q s at_ bad) :
    Does Try.prog 38 [ptr q 0] h (fun v h' => v = str (if canText s at_ bad then (s.drop at_).take (textEnd s at_).toNat else []) ∧
      QAfter h q s (if canText s at_ bad then at_ + (textEnd s at_).toNat + 1 else at_) (if canText s at_ bad then false else true) h') := by
  have hb := r.blk
  have hle := r.le
  have hlen := r.len
  refine fn_enter (N := 68) Try.func38 (by kernel_rfl) rfl rfl rfl (fun w0 => ?_)
  refine c_seq ?_; refine c_reg ?_; refine asg rfl rfl ?_; refine o_nil ?_; refine x_seq ?_
  refine c_cut (α := Unit) (fun _ => [(0, ptr q 0)]) (fun _ => h) (fun _ => ¬ canText s at_ bad) ?_ ?_
  · refine c_seq ?_; refine c_reg ?_
    refine mv rfl rfl (nck rfl rfl (fa rfl rfl (ld rfl (cell hb rfl) rfl (nt rfl rfl ?_))))
    refine o_nil ?_; refine x_seq ?_; refine c_cond rfl (fun c1 => ?_) (fun c1 => ?_)
    · have hbad : bad = false := by simpa using c1
      subst hbad
      refine c_seq ?_
      refine c_reg ?_; refine asg rfl rfl ?_; refine o_nil ?_; refine x_seq ?_; refine c_blk ?_
      refine c_loop (α := Nat) (fun n => [(0, ptr q 0), (3, i64 (n : Nat))]) (fun _ => h) (fun n => n ≤ 65 ∧ at_ + n ≤ s.length ∧ 0 ∉ (s.drop at_).take n) (fun n => 65 - n) 0 ⟨by simp, by omega, by simp⟩ ⟨rfl, rfl, trivial⟩ rfl (fun n hn => ?_)
      obtain ⟨hn65, hnl, hno⟩ := hn
      refine c_seq ?_
      refine c_cut (α := Unit) (fun _ => [(0, ptr q 0), (3, i64 (n : Nat)), (24, .bool (decide (n ≤ 64 ∧ at_ + n < s.length)))]) (fun _ => h) (fun _ => True) ?_ ?_
      · refine c_dreg (· = h) [0, 1, 2, 3, 4, 5, 6, 7, 8, 9, 10, 11, 12, 13, 14, 15] rfl rfl (by kernel_rfl) ?_
        refine mv rfl rfl (lei rfl rfl rfl (mv rfl rfl ?_))
        refine cs 11 rfl (fun c2 => ?_) (fun c2 => ?_)
        · have c2' : (n : Int) ≤ 64 := c2
          refine gd rfl rfl (mv rfl rfl (gd rfl rfl (nck rfl rfl (gd rfl rfl (fa rfl rfl (gd rfl rfl (ldI rfl (fun _ hI => by subst hI; exact cell hb rfl) rfl (gd rfl rfl (mv rfl rfl (gd rfl rfl (add rfl rfl (by omega) rfl ?_)))))))))))
          refine gd rfl rfl (mv rfl rfl (gd rfl rfl (nck rfl rfl (gd rfl rfl (fa rfl rfl (gd rfl rfl (ldI rfl (fun _ hI => by subst hI; exact cell hb rfl) rfl (gd rfl rfl (lns rfl rfl (gd rfl rfl (lti rfl rfl rfl ?_)))))))))))
          refine pkt rfl rfl rfl ?_; refine o_nil ?_
          refine x_cut () trivial ⟨rfl, rfl, ?_, trivial⟩ rfl
          have : ((at_ : Int) + (n : Int) < s.length) ↔ (n ≤ 64 ∧ at_ + n < s.length) := by omega
          exact congrArg some (congrArg Value.bool (decide_eq_decide.2 this))
        · have c2' : ¬ (n : Int) ≤ 64 := c2
          refine gs rfl rfl rfl rfl (gs rfl rfl rfl rfl (gs rfl rfl rfl rfl (gs rfl rfl rfl rfl (gs rfl rfl rfl rfl (gs rfl rfl rfl rfl (gs rfl rfl rfl rfl (gs rfl rfl rfl rfl ?_)))))))
          refine gs rfl rfl rfl rfl (gs rfl rfl rfl rfl (gs rfl rfl rfl rfl (gs rfl rfl rfl rfl (pkf rfl rfl rfl ?_))))
          refine o_nil ?_
          exact x_cut () trivial ⟨rfl, rfl, by rw [decide_eq_false (show ¬ (n ≤ 64 ∧ at_ + n < s.length) from fun e => by omega)]; rfl, trivial⟩ rfl
      intro _ _
      refine c_cond rfl (fun c3 => ?_) (fun c3 => ?_)
      · obtain ⟨hn64, hlt⟩ := c3
        have hg : s[at_ + n]? = some s[at_ + n] := List.getElem?_eq_getElem hlt
        have hg2 : (s.drop at_)[n]? = some s[at_ + n] := by rw [List.getElem?_drop]; exact hg
        generalize s[at_ + n] = c at *
        refine c_skip ?_
        refine x_seq ?_; refine c_seq ?_; refine c_blk ?_; refine c_seq ?_
        refine c_dreg (· = h) [0, 1, 2, 3, 4, 5, 6, 7, 8, 9, 10, 11] rfl rfl (by kernel_rfl) ?_
        refine mv rfl rfl (nck rfl rfl (fa rfl rfl (ldI rfl (fun _ hI => by subst hI; exact cell hb rfl) rfl (mv rfl rfl (nck rfl rfl (fa rfl rfl (ldI rfl (fun _ hI => by subst hI; exact cell hb rfl) rfl (mv rfl rfl (add rfl rfl (by omega) rfl ?_)))))))))
        refine idx rfl rfl (by omega) (by rw [show ((at_ : Int) + (n : Int)).toNat = at_ + n by omega]; exact hg) rfl (eqi rfl rfl rfl ?_)
        refine o_nil ?_; refine x_seq ?_; refine c_cond rfl (fun c4 => ?_) (fun c4 => ?_)
        · have h0 : c = 0 := by apply UInt8.toNat_inj.1; have : ((c.toNat : Int)) = 0 := c4; simp; omega
          subst h0
          have hte : textEnd s at_ = n := ib_found hno hg2
          have hc : canText s at_ false := ⟨rfl, by omega, by omega⟩
          refine c_seq ?_
          refine c_reg ?_
          refine mv rfl rfl (nck rfl rfl (fa rfl rfl (ld rfl (cell hb rfl) rfl (mv rfl rfl (add rfl rfl (by omega) rfl (add rfl rfl (by omega) rfl (nck rfl rfl (fa rfl rfl ?_))))))))
          refine st rfl rfl rfl hb rfl nofun (fun h5 u5 => ?_)
          have hb5 := u5.at_
          refine o_nil ?_; refine x_seq ?_; refine c_seq ?_
          refine c_dreg (· = h5) [0, 1, 2, 3, 4, 5, 6, 7, 8, 9, 10, 11, 12, 13, 14, 15, 16, 17] rfl rfl (by kernel_rfl) ?_
          refine mv rfl rfl (nck rfl rfl (fa rfl rfl (ldI rfl (fun _ hI => by subst hI; exact cell hb5 rfl) rfl (mv rfl rfl (nck rfl rfl (fa rfl rfl (ldI rfl (fun _ hI => by subst hI; exact cell hb5 rfl) rfl (mv rfl rfl (sub rfl rfl (by omega) rfl ?_)))))))))
          refine sub rfl rfl (by omega) rfl (mv rfl rfl (nck rfl rfl (fa rfl rfl (ldI rfl (fun _ hI => by subst hI; exact cell hb5 rfl) rfl (sub rfl rfl (by omega) rfl (sls rfl rfl rfl (by omega) rfl ?_))))))
          refine asg rfl rfl ?_; refine o_nil ?_; refine x_seq ?_; refine c_ret ?_; refine x_blk_ret ?_; refine x_seq_ret ?_; refine x_loop_ret ?_
          refine x_blk_ret ?_; refine x_cut_ret ?_; refine ret1 (.inr rfl) rfl rfl ?_
          rw [if_pos hc, if_pos hc, if_pos hc, hte]
          have e1 : ((at_ : Int) + ((n : Int) + 1) - n - 1).toNat = at_ := by omega
          have e2 : ((at_ : Int) + ((n : Int) + 1) - 1).toNat - at_ = n := by omega
          rw [e1, e2]
          refine ⟨by rfl, ⟨?_, by simp; omega, hlen⟩, u5.mod⟩
          rw [hb5]
          have e3 : (at_ : Int) + ((n : Int) + 1) = ((at_ + n + 1 : Nat) : Int) := by omega
          simp [e3]
        · have h0 : c ≠ 0 := fun e => c4 (by rw [e]; rfl)
          refine c_skip ?_
          refine x_blk ?_; refine x_seq ?_; refine c_reg ?_; refine mv rfl rfl (add rfl rfl (by omega) rfl (asg rfl rfl ?_))
          refine o_nil ?_
          refine x_loop (n + 1) ⟨by omega, by omega, ?_⟩ (by omega) ⟨rfl, rfl, trivial⟩ rfl
          rw [List.take_add_one, hg2]
          simp only [Option.toList_some, List.mem_append, List.mem_singleton, not_or]
          exact ⟨hno, fun e => h0 e.symm⟩
      · refine c_exit ?_
        refine x_seq_exit ?_; refine x_loop_exit ?_; refine x_blk_hit ?_
        refine x_cut () (fun hc => ?_) ⟨rfl, trivial⟩ rfl
        have h1 := hc.2.1
        have h2 := hc.2.2
        have h3 := textEnd_lt s at_ hle h1
        have h4 : (s.drop at_)[(textEnd s at_).toNat]? = some 0 := ib_get _ h1
        apply hno
        refine List.mem_of_getElem? (i := (textEnd s at_).toNat) ?_
        rw [List.getElem?_take, if_pos (by omega)]
        exact h4
    · have hbad : bad = true := by simpa using c1
      refine c_skip ?_
      exact x_cut () (fun hc => by have := hc.1; rw [hbad] at this; cases this) ⟨rfl, trivial⟩ rfl
  · intro _ hc
    rw [if_neg hc, if_neg hc, if_neg hc]
    refine c_seq ?_; refine c_reg ?_; refine mv rfl rfl (nck rfl rfl (fa rfl rfl (st rfl rfl rfl hb rfl nofun (fun h8 u8 => ?_))))
    refine o_nil ?_; refine x_seq ?_; refine c_seq ?_; refine c_reg ?_; refine asg rfl rfl ?_; refine o_nil ?_; refine x_seq ?_; refine c_ret ?_
    refine ret1 (.inr rfl) rfl rfl ?_
    exact ⟨rfl, ⟨u8.at_, hle, hlen⟩, u8.mod⟩
end Go.Proofs.Ytkgmgnjgplabhaa
