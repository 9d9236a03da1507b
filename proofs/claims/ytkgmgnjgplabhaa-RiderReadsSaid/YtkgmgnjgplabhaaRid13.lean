/- The walk of the law RiderBack. No condition but what the theorem says. -/
import Derived.Test.YtkgmgnjgplabhaaRid12
namespace Go.Proofs.Ytkgmgnjgplabhaa
open Go Go.Eng

theorem WF.start {h0 h : Heap} {p : Nat} {all : List UInt8} {sp : Bool} (w : WF h0 h p all sp) : ∃ vb, W h p vb all sp ∧ ∀ k, ownB vb k → h0.size ≤ k := w.w

/-- what a Reader answers at a thing that was written -/
theorem back_byte {s r : List UInt8} {at_ : Nat} {n : Int} (hs : s.drop at_ = [b8 n] ++ r) (hle : at_ ≤ s.length) : canTake s at_ false 1 ∧ rByte s at_ false = n % 256 := by
  have hlt : (s.drop at_).length = 1 + r.length := by rw [hs]; simp; omega
  simp only [List.length_drop] at hlt
  have hc : canTake s at_ false 1 := ⟨rfl, by omega, by omega⟩
  have hg : s[at_]? = some (b8 n) := by
    have := List.getElem?_drop (xs := s) (i := at_) (j := 0)
    rw [hs] at this; simpa using this.symm
  refine ⟨hc, ?_⟩
  rw [rByte, if_pos hc, hg]
  exact b8_nat n
theorem back_num {s r : List UInt8} {at_ : Nat} {n : Int} (hf : fit32 n) (hs : s.drop at_ = compact n ++ r) : rNum s at_ false = some (n, (compact n).length) := by
  rw [rNum, if_neg (by simp), hs, numR_compact hf]
theorem back_word {s r : List UInt8} {at_ : Nat} {m : Int} (hm : 0 ≤ m ∧ m < 4294967296) (hs : s.drop at_ = wordb m ++ r) (hle : at_ ≤ s.length) : canTake s at_ false 4 ∧ rWord s at_ false = m := by
  have hlt : (s.drop at_).length = 4 + r.length := by rw [hs]; simp [wordb]; omega
  simp only [List.length_drop] at hlt
  have hc : canTake s at_ false 4 := ⟨rfl, by omega, by omega⟩
  refine ⟨hc, ?_⟩
  rw [rWord, if_pos hc, taken, if_pos hc, hs]
  exact wordv_b hm
theorem back_text {s r t : List UInt8} {at_ : Nat} (ht : textOk t) (hs : s.drop at_ = t ++ [0] ++ r) : canText s at_ false ∧ textEnd s at_ = t.length ∧ (s.drop at_).take (textEnd s at_).toNat = t := by
  have he : textEnd s at_ = t.length := by
    rw [textEnd, hs, List.append_assoc]; exact ib_text t r ht.2
  refine ⟨⟨rfl, by omega, by rw [he]; have := ht.1; omega⟩, he, ?_⟩
  rw [he, hs]; simp

set_option maxHeartbeats 1600000 in
theorem Back_fn (a : Option Addr) (xs : List Item) (c : Nat) (h : Heap) (hx : ItemsAt h a xs) :
    Does Try.prog 7 [.slice a xs.length c] h (fun v h' => v = .bool true ∧ Ext h h') := by
  refine fn_enter (N := 162) Try.func7 (by kernel_rfl) rfl rfl rfl (fun w0 => ?_)
  refine c_seq ?_; refine c_reg ?_; refine asg rfl rfl ?_; refine o_nil ?_; refine x_seq ?_; refine c_seq ?_; refine c_seq ?_; refine c_reg ?_
  refine mv rfl rfl (lnl rfl rfl (gti rfl rfl rfl ?_))
  refine o_nil ?_; refine x_seq ?_; refine c_cond rfl (fun c1 => ?_) (fun c1 => ?_)
  · refine c_seq ?_
    refine c_reg ?_; refine cl (vs := []) rfl (wakes_fn _) rfl (fun v2 h2 r2 => ?_)
    obtain ⟨rfl, x2⟩ := r2
    refine asg rfl rfl ?_; refine o_nil ?_; refine x_seq ?_; refine c_ret ?_; refine x_seq_ret ?_; refine ret1 (.inr rfl) rfl rfl ?_
    exact ⟨rfl, x2⟩
  · refine c_skip ?_
    refine x_seq ?_; refine c_seq ?_; refine c_reg ?_; refine cl (vs := []) rfl (Write_fn h) rfl (fun v3 h3 r3 => ?_)
    obtain ⟨rfl, r3⟩ := r3
    have w3 := WF.mk0 (Mod.refl _ h) r3
    refine asg rfl rfl ?_; refine o_nil ?_; refine x_seq ?_; refine c_seq ?_; refine c_seq ?_; refine c_reg ?_; refine asg rfl rfl ?_; refine o_nil ?_
    refine x_seq ?_; refine c_blk ?_
    refine c_loop (α := Nat × (List UInt8 × Bool) × Heap) (fun y => [(0, .slice a xs.length c), (3, ptr h.size 0), (4, i64 (y.1 : Nat))]) (fun y => y.2.2)
      (fun y => y.1 ≤ xs.length ∧ (xs.drop y.1).foldl putI y.2.1 = xs.foldl putI ([], false) ∧ WF h y.2.2 h.size y.2.1.1 y.2.1.2) (fun y => xs.length - y.1) (0, ([], false), h3) ⟨by simp, rfl, w3⟩ ⟨rfl, rfl, rfl, trivial⟩ rfl (fun y hy => ?_)
    obtain ⟨i, st, h4⟩ := y
    obtain ⟨hi, hst, w4⟩ := hy
    simp only at hi hst w4
    refine c_seq ?_; refine c_seq ?_; refine c_reg ?_; refine mv rfl rfl (mv rfl rfl (lnl rfl rfl (lti rfl rfl rfl ?_)))
    refine o_nil ?_; refine x_seq ?_; refine c_cond rfl (fun c4 => ?_) (fun c4 => ?_)
    · have hil : i < xs.length := by simp only at c4; omega
      have hgi : xs[i]? = some xs[i] := List.getElem?_eq_getElem hil
      have hdrop : xs.drop i = xs[i] :: xs.drop (i + 1) := List.drop_eq_getElem_cons hil
      rw [hdrop, List.foldl_cons] at hst
      generalize xs[i] = x at *
      obtain ⟨hn, b, o, rfl, hbs, k0, k1, k2⟩ := hx i x hgi
      have k0 := w4.x.cell k0 (fun e => e)
      have k1 := w4.x.cell k1 (fun e => e)
      have k2 := w4.x.cell k2 (fun e => e)
      obtain ⟨vb, w, hv⟩ := w4.w
      refine c_skip ?_
      refine x_seq ?_; refine c_seq ?_; refine c_blk ?_; refine c_seq ?_; refine c_seq ?_; refine c_reg ?_
      refine mv rfl rfl (mv rfl rfl (ixs rfl rfl (by omega) rfl (fa rfl rfl (ld rfl k2 rfl (lns rfl rfl (gti rfl rfl rfl ?_))))))
      refine o_nil ?_; refine x_seq ?_; refine c_cond rfl (fun c5 => ?_) (fun c5 => ?_)
      · refine c_seq ?_
        refine c_reg ?_; refine cl (vs := []) rfl (wakes_fn _) rfl (fun v6 h6 r6 => ?_)
        obtain ⟨rfl, x6⟩ := r6
        refine asg rfl rfl ?_; refine o_nil ?_; refine x_seq ?_; refine c_ret ?_; refine x_seq_ret ?_; refine x_blk_ret ?_; refine x_seq_ret ?_
        refine x_loop_ret ?_; refine x_blk_ret ?_; refine x_seq_ret ?_; refine ret1 (.inr rfl) rfl rfl ?_
        exact ⟨rfl, w4.x.trans x6⟩
      · refine c_skip ?_
        refine x_seq ?_; refine c_seq ?_; refine c_reg ?_
        refine mv rfl rfl (mv rfl rfl (ixs rfl rfl (by omega) rfl (fa rfl rfl (ld rfl k0 rfl ?_))))
        refine o_nil ?_; refine x_seq ?_; refine c_blk ?_; refine c_seq ?_; refine c_reg ?_; refine eqi rfl rfl rfl (asg rfl rfl ?_)
        refine o_nil ?_; refine x_seq ?_; refine c_cond rfl (fun c7 => ?_) (fun c7 => ?_)
        · refine c_reg ?_
          refine mv rfl rfl (mv rfl rfl (mv rfl rfl (ixs rfl rfl (by omega) rfl (fa rfl rfl (ld rfl k1 rfl (cl (vs := [ptr h.size 0, i64 x.n]) rfl (Byte_fn w x.n) rfl (fun v8 h8 r8 => ?_)))))))
          have w8 := WF.to w4.new w4.x hv r8.2
          refine o_nil ?_; refine x_blk ?_; refine x_blk ?_; refine x_seq ?_; refine c_reg ?_
          refine mv rfl rfl (add rfl rfl (by omega) rfl (asg rfl rfl ?_))
          refine o_nil ?_
          have e : putI st x = (st.1 ++ [b8 x.n], st.2) := by rw [putI, if_pos c7]
          exact x_loop (i + 1, putI st x, h8) ⟨hil, hst, by rw [e]; exact w8⟩ (by simp only; omega) ⟨rfl, rfl, rfl, trivial⟩ rfl
        · refine c_seq ?_
          refine c_reg ?_; refine eqi rfl rfl rfl (asg rfl rfl ?_)
          refine o_nil ?_; refine x_seq ?_; refine c_cond rfl (fun c9 => ?_) (fun c9 => ?_)
          · refine c_reg ?_
            refine mv rfl rfl (mv rfl rfl (mv rfl rfl (ixs rfl rfl (by omega) rfl (fa rfl rfl (ld rfl k1 rfl (cl (vs := [ptr h.size 0, i64 x.n]) rfl (Num_fn w x.n hn) rfl (fun v10 h10 r10 => ?_)))))))
            have w10 := WF.to w4.new w4.x hv r10.2
            refine o_nil ?_; refine x_blk ?_; refine x_blk ?_; refine x_seq ?_; refine c_reg ?_
            refine mv rfl rfl (add rfl rfl (by omega) rfl (asg rfl rfl ?_))
            refine o_nil ?_
            have e : putI st x = (if fit32 x.n then st.1 ++ compact x.n else st.1, if fit32 x.n then st.2 else true) := by rw [putI, if_neg c7, if_pos c9]
            exact x_loop (i + 1, putI st x, h10) ⟨hil, hst, by rw [e]; exact w10⟩ (by simp only; omega) ⟨rfl, rfl, rfl, trivial⟩ rfl
          · refine c_seq ?_
            refine c_reg ?_; refine eqi rfl rfl rfl (asg rfl rfl ?_)
            refine o_nil ?_; refine x_seq ?_; refine c_cond rfl (fun c11 => ?_) (fun c11 => ?_)
            · refine c_reg ?_
              refine mv rfl rfl (mv rfl rfl (mv rfl rfl (ixs rfl rfl (by omega) rfl (fa rfl rfl (ld rfl k1 rfl (cvi rfl rfl (cl (vs := [ptr h.size 0, .int .u32 (IntKind.u32.wrap x.n)]) rfl (Word_fn w _) rfl (fun v12 h12 r12 => ?_))))))))
              have w12 := WF.to w4.new w4.x hv r12.2
              refine o_nil ?_; refine x_blk ?_; refine x_blk ?_; refine x_seq ?_; refine c_reg ?_
              refine mv rfl rfl (add rfl rfl (by omega) rfl (asg rfl rfl ?_))
              refine o_nil ?_
              have e : putI st x = (st.1 ++ wordb (IntKind.u32.wrap x.n), st.2) := by rw [putI, if_neg c7, if_neg c9, if_pos c11]
              exact x_loop (i + 1, putI st x, h12) ⟨hil, hst, by rw [e]; exact w12⟩ (by simp only; omega) ⟨rfl, rfl, rfl, trivial⟩ rfl
            · refine c_seq ?_
              refine c_reg ?_; refine eqi rfl rfl rfl (asg rfl rfl ?_)
              refine o_nil ?_; refine x_seq ?_; refine c_cond rfl (fun c13 => ?_) (fun c13 => ?_)
              · refine c_reg ?_
                refine mv rfl rfl (mv rfl rfl (mv rfl rfl (ixs rfl rfl (by omega) rfl (fa rfl rfl (ld rfl k2 rfl (cl (vs := [ptr h.size 0, str x.text]) rfl (Text_fn w x.text) rfl (fun v14 h14 r14 => ?_)))))))
                have w14 := WF.to w4.new w4.x hv r14.2
                refine o_nil ?_; refine x_blk ?_; refine x_blk ?_; refine x_seq ?_; refine c_reg ?_
                refine mv rfl rfl (add rfl rfl (by omega) rfl (asg rfl rfl ?_))
                refine o_nil ?_
                have e : putI st x = (if textOk x.text then st.1 ++ (x.text ++ [0]) else st.1, if textOk x.text then st.2 else true) := by rw [putI, if_neg c7, if_neg c9, if_neg c11, if_pos c13]
                exact x_loop (i + 1, putI st x, h14) ⟨hil, hst, by rw [e]; exact w14⟩ (by simp only; omega) ⟨rfl, rfl, rfl, trivial⟩ rfl
              · refine c_skip ?_
                refine x_blk ?_; refine x_blk ?_; refine x_seq ?_; refine c_reg ?_; refine mv rfl rfl (add rfl rfl (by omega) rfl (asg rfl rfl ?_))
                refine o_nil ?_
                have e : putI st x = st := by rw [putI, if_neg c7, if_neg c9, if_neg c11, if_neg c13]
                exact x_loop (i + 1, putI st x, h4) ⟨hil, hst, by rw [e]; exact w4⟩ (by simp only; omega) ⟨rfl, rfl, rfl, trivial⟩ rfl
    · refine c_exit ?_
      have hil : xs.drop i = [] := List.drop_of_length_le (by simp only at c4; omega)
      rw [hil, List.foldl_nil] at hst
      have hall := puts_false xs ([], false)
      rw [← hst] at hall
      simp only [List.nil_append] at hall
      obtain ⟨vb, w, hv⟩ := w4.w
      refine x_seq_exit ?_; refine x_loop_exit ?_; refine x_blk_hit ?_; refine x_seq ?_; refine c_seq ?_; refine c_reg ?_
      refine mv rfl rfl (cl (vs := [ptr h.size 0]) rfl (Bytes_fn w) rfl (fun v15 h15 r15 => ?_))
      obtain ⟨rfl, rfl⟩ := r15
      refine mv rfl rfl (ext rfl rfl rfl (ext rfl rfl rfl (asg rfl rfl (asg rfl rfl ?_))))
      refine o_nil ?_; refine x_seq ?_; refine c_seq ?_; refine c_seq ?_; refine c_reg ?_; refine mv rfl rfl (nei rfl rfl rfl ?_)
      refine o_nil ?_; refine x_seq ?_; refine c_cond rfl (fun c16 => ?_) (fun c16 => ?_)
      · have e1 : (if st.2 = true then [] else if 131072 < st.1.length then [] else st.1) = [] := by
          split
          · rfl
          · rename_i e; rw [if_neg e] at c16
            split
            · rfl
            · rename_i e2; rw [if_neg e2] at c16; exact absurd rfl c16
        rw [e1]
        refine c_seq ?_
        refine c_reg ?_; refine mv rfl rfl (eqs rfl rfl rfl (mv rfl rfl ?_))
        refine ct 79 rfl rfl ?_
        refine gd rfl rfl (mv rfl rfl (gd rfl rfl (eqi rfl rfl rfl (gd rfl rfl (mv rfl rfl ?_)))))
        refine cs 82 rfl (fun c18 => ?_) (fun c18 => ?_)
        · refine gs rfl rfl rfl rfl (gs rfl rfl rfl rfl (gd rfl rfl (pkt rfl rfl rfl (pkt rfl rfl rfl (mv rfl rfl (gd rfl rfl (cl (vs := []) rfl (wakes_fn _) rfl (fun v19 h19 r19 => ?_))))))))
          obtain ⟨rfl, x19⟩ := r19
          refine pkt rfl rfl rfl (asg rfl rfl ?_)
          refine o_nil ?_; refine x_seq ?_; refine c_ret ?_; refine x_seq_ret ?_; refine ret1 (.inr rfl) rfl rfl ?_
          exact ⟨rfl, w4.x.trans x19⟩
        · refine gd rfl rfl (mv rfl rfl (gd rfl rfl (eqi rfl rfl rfl (gd rfl rfl (pkf rfl rfl rfl (pkt rfl rfl rfl (mv rfl rfl ?_)))))))
          refine ct 87 rfl ?_ ?_
          · split at c18
            · exact absurd rfl c18
            · rename_i e; rw [if_neg e] at c16 ⊢
              split
              · rfl
              · rename_i e2; rw [if_neg e2] at c16; exact absurd rfl c16
          refine gd rfl rfl (cl (vs := []) rfl (wakes_fn _) rfl (fun v21 h21 r21 => ?_))
          obtain ⟨rfl, x21⟩ := r21
          refine pkt rfl rfl rfl (asg rfl rfl ?_)
          refine o_nil ?_; refine x_seq ?_; refine c_ret ?_; refine x_seq_ret ?_; refine ret1 (.inr rfl) rfl rfl ?_
          exact ⟨rfl, w4.x.trans x21⟩
      · have hsp : st.2 = false := by
          cases hs2 : st.2 with
          | false => rfl
          | true => rw [hs2] at c16; exact absurd (by simp) c16
        obtain ⟨-, hgood, hse⟩ := hall hsp
        rw [hsp] at c16 ⊢
        have hlen : ¬ 131072 < st.1.length := fun e => by rw [if_pos e] at c16; simp at c16
        rw [if_neg hlen, if_neg hlen]
        simp only [Bool.false_eq_true, if_false]
        generalize hs : st.1 = s at *
        refine c_skip ?_
        refine x_seq ?_; refine c_seq ?_; refine c_reg ?_; refine mv rfl rfl (cl (vs := [str s]) rfl (Read_fn s (by omega) h15) rfl (fun v22 h22 r22 => ?_))
        obtain ⟨rfl, r22⟩ := r22
        have a22 := RF.mk0 w4.x r22
        refine asg rfl rfl ?_; refine o_nil ?_; refine x_seq ?_; refine c_seq ?_; refine c_seq ?_; refine c_reg ?_; refine asg rfl rfl ?_
        refine o_nil ?_; refine x_seq ?_; refine c_blk ?_
        refine c_loop (α := Nat × Nat × Heap) (fun y => [(0, .slice a xs.length c), (5, str s), (7, ptr h15.size 0), (8, i64 (y.1 : Nat))]) (fun y => y.2.2)
          (fun y => y.1 ≤ xs.length ∧ s.drop y.2.1 = (xs.drop y.1).flatMap enc ∧ RF h y.2.2 h15.size s y.2.1 false) (fun y => xs.length - y.1) (0, 0, h22) ⟨by simp, by rw [hse]; rfl, a22⟩ ⟨rfl, rfl, rfl, rfl, trivial⟩ rfl (fun y hy => ?_)
        obtain ⟨i, at_, h5⟩ := y
        obtain ⟨hi, hat, a5⟩ := hy
        simp only at hi hat a5
        refine c_seq ?_; refine c_seq ?_; refine c_reg ?_; refine mv rfl rfl (mv rfl rfl (lnl rfl rfl (lti rfl rfl rfl ?_)))
        refine o_nil ?_; refine x_seq ?_; refine c_cond rfl (fun c23 => ?_) (fun c23 => ?_)
        · have hil : i < xs.length := by simp only at c23; omega
          have hgi : xs[i]? = some xs[i] := List.getElem?_eq_getElem hil
          have hdrop : xs.drop i = xs[i] :: xs.drop (i + 1) := List.drop_eq_getElem_cons hil
          have hgd := hgood _ (List.getElem_mem hil)
          rw [hdrop, List.flatMap_cons] at hat
          generalize xs[i] = x at *
          have hatl : ∀ l r : List UInt8, s.drop at_ = l ++ r → s.drop (at_ + l.length) = r := fun l r e => by rw [← List.drop_drop, e]; simp
          have hxi := hx i x hgi
          obtain ⟨hn, b, o, rfl, hbs, k0, k1, k2⟩ := hxi
          have g0 := a5.x.cell k0 (fun e => e)
          have g1 := a5.x.cell k1 (fun e => e)
          have g2 := a5.x.cell k2 (fun e => e)
          refine c_skip ?_
          refine x_seq ?_; refine c_seq ?_; refine c_blk ?_; refine c_seq ?_; refine c_reg ?_
          refine mv rfl rfl (mv rfl rfl (ixs rfl rfl (by omega) rfl (fa rfl rfl (ld rfl g0 rfl ?_))))
          refine o_nil ?_; refine x_seq ?_; refine c_blk ?_; refine c_seq ?_; refine c_reg ?_; refine eqi rfl rfl rfl (asg rfl rfl ?_)
          refine o_nil ?_; refine x_seq ?_; refine c_cond rfl (fun c24 => ?_) (fun c24 => ?_)
          · rw [show enc x = [b8 x.n] by rw [enc, if_pos c24]] at hat
            obtain ⟨hc1, hv1⟩ := back_byte hat a5.r.le
            refine c_seq ?_
            refine c_dreg (fun h' => cellAt h' b (o + i * 3 + 1) = some (i64 x.n)) [0, 2, 3, 4, 5, 6, 7, 1, 8] rfl g1 (by kernel_rfl) ?_
            refine mv rfl rfl (mv rfl rfl (mv rfl rfl (ixs rfl rfl (by omega) rfl (fa rfl rfl (ldI rfl (fun _ hI => hI) rfl (bit (by decide) rfl rfl rfl (clI (vs := [ptr h15.size 0]) rfl (RByte_fn a5.r) (fun v h' r => (a5.to r.2).x.cell k1 (fun e => e)) rfl (fun v25 h25 r25 => ?_))))))))
            rw [if_pos hc1, if_pos hc1] at r25
            obtain ⟨rfl, r25⟩ := r25
            refine nei rfl rfl rfl ?_; refine o_nil ?_; refine x_seq ?_; refine c_f rfl (by rw [hv1, and255 _ hn]; simp) ?_
            refine c_skip ?_
            refine x_blk ?_; refine x_blk ?_; refine x_seq ?_; refine c_reg ?_; refine mv rfl rfl (add rfl rfl (by omega) rfl (asg rfl rfl ?_))
            refine o_nil ?_
            exact x_loop (i + 1, at_ + 1, h25) ⟨hil, hatl _ _ hat, a5.to r25⟩ (by simp only; omega) ⟨rfl, rfl, rfl, rfl, trivial⟩ rfl
          · refine c_seq ?_
            refine c_reg ?_; refine eqi rfl rfl rfl (asg rfl rfl ?_)
            refine o_nil ?_; refine x_seq ?_; refine c_cond rfl (fun c27 => ?_) (fun c27 => ?_)
            · rw [show enc x = compact x.n by rw [enc, if_neg c24, if_pos c27]] at hat
              have hv1 := back_num (hgd.1 c27) hat
              refine c_seq ?_
              refine c_dreg (fun h' => cellAt h' b (o + i * 3 + 1) = some (i64 x.n)) [0, 2, 3, 4, 5, 6, 1, 7] rfl g1 (by kernel_rfl) ?_
              refine mv rfl rfl (mv rfl rfl (mv rfl rfl (ixs rfl rfl (by omega) rfl (fa rfl rfl (ldI rfl (fun _ hI => hI) rfl (clI (vs := [ptr h15.size 0]) rfl (RNum_fn a5.r) (fun v h' r => (a5.to r.2).x.cell k1 (fun e => e)) rfl (fun v28 h28 r28 => ?_)))))))
              rw [hv1] at r28
              obtain ⟨rfl, r28⟩ := r28
              refine nei rfl rfl rfl ?_; refine o_nil ?_; refine x_seq ?_; refine c_f rfl (by simp) ?_
              refine c_skip ?_
              refine x_blk ?_; refine x_blk ?_; refine x_seq ?_; refine c_reg ?_; refine mv rfl rfl (add rfl rfl (by omega) rfl (asg rfl rfl ?_))
              refine o_nil ?_
              exact x_loop (i + 1, at_ + (compact x.n).length, h28) ⟨hil, hatl _ _ hat, a5.to r28⟩ (by simp only; omega) ⟨rfl, rfl, rfl, rfl, trivial⟩ rfl
            · refine c_seq ?_
              refine c_reg ?_; refine eqi rfl rfl rfl (asg rfl rfl ?_)
              refine o_nil ?_; refine x_seq ?_; refine c_cond rfl (fun c30 => ?_) (fun c30 => ?_)
              · rw [show enc x = wordb (IntKind.u32.wrap x.n) by rw [enc, if_neg c24, if_neg c27, if_pos c30]] at hat
                obtain ⟨hc1, hv1⟩ := back_word (by rw [IntKind.wrap_u32]; omega) hat a5.r.le
                refine c_seq ?_
                refine c_dreg (fun h' => cellAt h' b (o + i * 3 + 1) = some (i64 x.n)) [0, 2, 3, 4, 5, 6, 7, 1, 8] rfl g1 (by kernel_rfl) ?_
                refine mv rfl rfl (mv rfl rfl (mv rfl rfl (ixs rfl rfl (by omega) rfl (fa rfl rfl (ldI rfl (fun _ hI => hI) rfl (cvi rfl rfl (clI (vs := [ptr h15.size 0]) rfl (RWord_fn a5.r) (fun v h' r => (a5.to r.2).x.cell k1 (fun e => e)) rfl (fun v31 h31 r31 => ?_))))))))
                rw [if_pos hc1, if_pos hc1] at r31
                obtain ⟨rfl, r31⟩ := r31
                refine nei rfl rfl rfl ?_; refine o_nil ?_; refine x_seq ?_; refine c_f rfl (by rw [hv1]; simp) ?_
                refine c_skip ?_
                refine x_blk ?_; refine x_blk ?_; refine x_seq ?_; refine c_reg ?_; refine mv rfl rfl (add rfl rfl (by omega) rfl (asg rfl rfl ?_))
                refine o_nil ?_
                exact x_loop (i + 1, at_ + 4, h31) ⟨hil, hatl _ _ hat, a5.to r31⟩ (by simp only; omega) ⟨rfl, rfl, rfl, rfl, trivial⟩ rfl
              · refine c_seq ?_
                refine c_reg ?_; refine eqi rfl rfl rfl (asg rfl rfl ?_)
                refine o_nil ?_; refine x_seq ?_; refine c_cond rfl (fun c33 => ?_) (fun c33 => ?_)
                · rw [show enc x = x.text ++ [0] by rw [enc, if_neg c24, if_neg c27, if_neg c30, if_pos c33]] at hat
                  obtain ⟨hc1, he1, hv1⟩ := back_text (hgd.2 c33) hat
                  refine c_seq ?_
                  refine c_dreg (fun h' => cellAt h' b (o + i * 3 + 2) = some (str x.text)) [0, 2, 3, 4, 5, 6, 1, 7] rfl g2 (by kernel_rfl) ?_
                  refine mv rfl rfl (mv rfl rfl (mv rfl rfl (ixs rfl rfl (by omega) rfl (fa rfl rfl (ldI rfl (fun _ hI => hI) rfl (clI (vs := [ptr h15.size 0]) rfl (RText_fn a5.r) (fun v h' r => (a5.to r.2).x.cell k2 (fun e => e)) rfl (fun v34 h34 r34 => ?_)))))))
                  rw [if_pos hc1, if_pos hc1, if_pos hc1, hv1, he1] at r34
                  obtain ⟨rfl, r34⟩ := r34
                  refine nes rfl rfl rfl ?_; refine o_nil ?_; refine x_seq ?_; refine c_f rfl (by simp) ?_
                  refine c_skip ?_
                  refine x_blk ?_; refine x_blk ?_; refine x_seq ?_; refine c_reg ?_; refine mv rfl rfl (add rfl rfl (by omega) rfl (asg rfl rfl ?_))
                  refine o_nil ?_
                  have hat2 := hatl _ _ hat
                  rw [List.length_append, List.length_singleton] at hat2
                  exact x_loop (i + 1, at_ + x.text.length + 1, h34) ⟨hil, hat2, a5.to r34⟩ (by simp only; omega) ⟨rfl, rfl, rfl, rfl, trivial⟩ rfl
                · rw [show enc x = [] by rw [enc, if_neg c24, if_neg c27, if_neg c30, if_neg c33]] at hat
                  refine c_skip ?_
                  refine x_blk ?_; refine x_blk ?_; refine x_seq ?_; refine c_reg ?_; refine mv rfl rfl (add rfl rfl (by omega) rfl (asg rfl rfl ?_))
                  refine o_nil ?_
                  exact x_loop (i + 1, at_, h5) ⟨hil, hat, a5⟩ (by simp only; omega) ⟨rfl, rfl, rfl, rfl, trivial⟩ rfl
        · have hil : xs.drop i = [] := List.drop_of_length_le (by simp only at c23; omega)
          rw [hil, List.flatMap_nil, List.drop_eq_nil_iff] at hat
          have hle := a5.r.le
          refine c_exit ?_
          refine x_seq_exit ?_; refine x_loop_exit ?_; refine x_blk_hit ?_; refine x_seq ?_; refine c_seq ?_; refine c_reg ?_
          refine mv rfl rfl (cl (vs := [ptr h15.size 0]) rfl (REnd_fn a5.r) rfl (fun v36 h36 r36 => ?_))
          obtain ⟨rfl, rfl⟩ := r36
          refine mv rfl rfl ?_; refine ct 147 rfl ⟨rfl, by omega⟩ ?_
          refine gd rfl rfl (mv rfl rfl (gd rfl rfl (cl (vs := [ptr h15.size 0]) rfl (RBad_fn a5.r) rfl (fun v38 h38 r38 => ?_))))
          obtain ⟨rfl, rfl⟩ := r38
          refine gd rfl rfl (nt rfl rfl (pkt rfl rfl rfl (mv rfl rfl ?_)))
          refine ct 152 rfl (by simp) ?_
          refine gd rfl rfl (mv rfl rfl (gd rfl rfl (cl (vs := [ptr h15.size 0]) rfl (RAt_fn a5.r) rfl (fun v40 h40 r40 => ?_))))
          obtain ⟨rfl, rfl⟩ := r40
          refine gd rfl rfl (mv rfl rfl (gd rfl rfl (lns rfl rfl (gd rfl rfl (eqi rfl rfl rfl (pkt rfl rfl rfl (mv rfl rfl ?_)))))))
          refine ct 159 rfl (by omega) ?_
          refine gd rfl rfl (cl (vs := []) rfl (wakes_fn _) rfl (fun v42 h42 r42 => ?_))
          obtain ⟨rfl, x42⟩ := r42
          refine pkt rfl rfl rfl (asg rfl rfl ?_)
          refine o_nil ?_; refine x_seq ?_; refine c_ret ?_; refine ret1 (.inr rfl) rfl rfl ?_
          exact ⟨rfl, a5.x.trans x42⟩
end Go.Proofs.Ytkgmgnjgplabhaa
