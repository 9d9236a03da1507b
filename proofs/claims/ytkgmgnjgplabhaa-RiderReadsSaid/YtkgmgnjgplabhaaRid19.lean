/- The walk of the reference's Reader's Num. No condition but what the theorem says. -/
import Derived.Test.YtkgmgnjgplabhaaRid18
namespace Go.Proofs.Ytkgmgnjgplabhaa
open Go Go.Eng

theorem mod_more {S : Nat → Prop} {h h1 h2 : Heap} {q : Nat} (a : Mod (· = q) h h1) (b : Mod S h1 h2) (hS : ∀ k, S k → k = q ∨ h1.size ≤ k) : Mod (· = q) h h2 :=
  ⟨Nat.le_trans a.size b.size, fun k hk hn => (b.same k (Nat.lt_of_lt_of_le hk a.size) (fun e => (hS k e).elim hn (fun e => by have := a.size; omega))).trans (a.same k hk hn)⟩

set_option maxHeartbeats 1600000 in
theorem QNumR_fn {h : Heap} {q : Nat} {s : List UInt8} {at_ : Nat} {bad : Bool} (r : RQ h q s at_ bad) :
    Does Try.prog 36 [ptr q 0] h (fun v h' => v = i64 (((rNum s at_ bad).map (·.1)).getD 0) ∧ QAfter h q s (((rNum s at_ bad).map (fun x => at_ + x.2)).getD at_) (rNum s at_ bad).isNone h') := by
  have hb := r.blk
  have hle := r.le
  have hlen := r.len
  refine fn_enter (N := 72) Try.func36 (by kernel_rfl) rfl rfl rfl (fun w0 => ?_)
  refine c_seq ?_; refine c_reg ?_; refine asg rfl rfl ?_; refine o_nil ?_; refine x_seq ?_; refine c_seq ?_; refine c_reg ?_
  refine mv rfl rfl (nck rfl rfl (fa rfl rfl (ld rfl (cell hb rfl) rfl (asg rfl rfl ?_))))
  refine o_nil ?_; refine x_seq ?_; refine c_seq ?_; refine c_reg ?_; refine asg rfl rfl (asg rfl rfl ?_)
  refine o_nil ?_; refine x_seq ?_; refine c_seq ?_; refine c_reg ?_; refine asg rfl rfl ?_; refine o_nil ?_; refine x_seq ?_
  refine c_cut (α := Heap) (fun _ => [(0, ptr q 0), (3, i64 (at_ : Nat))]) (fun h' => h') (fun h' => rNum s at_ bad = none ∧ ∃ p2 b2, QAfter h q s p2 b2 h') ?_ ?_
  · refine c_blk ?_
    refine c_loop (α := Nat × Int × Int × Nat × Bool × Heap) (fun y => [(0, ptr q 0), (3, i64 (at_ : Nat)), (4, i64 y.2.1), (5, i64 (y.1 : Nat)), (6, i64 y.2.2.1)]) (fun y => y.2.2.2.2.2)
      (fun y => QAfter h q s y.2.2.2.1 y.2.2.2.2.1 y.2.2.2.2.2 ∧ y.1 ≤ 5 ∧ ((y.1 = 5 ∨ y.2.2.2.2.1 = true) ∧ rNum s at_ bad = none ∨
        y.2.2.2.2.1 = false ∧ y.2.2.2.1 = at_ + y.1 ∧ ∃ acc : Nat, y.2.1 = (acc : Int) ∧ acc < 2 ^ (7 * y.1) ∧ y.2.2.1 = ((2 ^ (7 * y.1) : Nat) : Int) ∧ rn (5 - y.1) y.1 acc (s.drop (at_ + y.1)) = rNum s at_ bad))
      (fun y => 5 - y.1) (0, 0, 1, at_, bad, h) ⟨⟨r, Mod.refl _ _⟩, by simp, ?_⟩ ⟨rfl, rfl, rfl, rfl, rfl, trivial⟩ rfl (fun y hy => ?_)
    · cases bad with
      | true => exact .inl ⟨.inr rfl, by rw [rNum, if_pos rfl]⟩
      | false => exact .inr ⟨rfl, rfl, 0, rfl, by simp, by simp, by rw [rNum, if_neg (by simp)]; rfl⟩
    obtain ⟨k, n, sc, pos, bd, h1⟩ := y
    obtain ⟨⟨rq, md⟩, hk5, hmode⟩ := hy
    simp only at rq md hk5 hmode
    have hb1 := rq.blk
    refine c_seq ?_
    refine c_cut (α := Unit) (fun _ => [(0, ptr q 0), (3, i64 (at_ : Nat)), (4, i64 n), (5, i64 (k : Nat)), (6, i64 sc), (21, .bool (decide (k < 5 ∧ bd = false)))]) (fun _ => h1) (fun _ => True) ?_ ?_
    · refine c_reg ?_; refine mv rfl rfl (lti rfl rfl rfl (mv rfl rfl ?_))
      refine cs 15 rfl (fun c1 => ?_) (fun c1 => ?_)
      · have c1' : (k : Int) < 5 := c1
        refine gd rfl rfl (mv rfl rfl (gd rfl rfl (nck rfl rfl (gd rfl rfl (fa rfl rfl (gd rfl rfl (ld rfl (cell hb1 rfl) rfl (gd rfl rfl (nt rfl rfl (pkt rfl rfl rfl ?_))))))))))
        refine o_nil ?_
        refine x_cut () trivial ⟨rfl, rfl, rfl, rfl, rfl, ?_, trivial⟩ rfl
        refine congrArg some (congrArg Value.bool ?_)
        rw [Bool.eq_iff_iff]; simp; omega
      · have c1' : ¬ (k : Int) < 5 := c1
        refine gs rfl rfl rfl rfl (gs rfl rfl rfl rfl (gs rfl rfl rfl rfl (gs rfl rfl rfl rfl (gs rfl rfl rfl rfl (pkf rfl rfl rfl ?_)))))
        refine o_nil ?_
        exact x_cut () trivial ⟨rfl, rfl, rfl, rfl, rfl, by rw [decide_eq_false (show ¬ (k < 5 ∧ bd = false) from fun e => by omega)]; rfl, trivial⟩ rfl
    intro _ _
    refine c_cond rfl (fun c1 => ?_) (fun c1 => ?_)
    · obtain ⟨hk, rfl⟩ := c1
      obtain ⟨-, rfl, acc, rfl, hacc, rfl, hrn⟩ : false = false ∧ pos = at_ + k ∧ ∃ acc : Nat, n = (acc : Int) ∧ acc < 2 ^ (7 * k) ∧ sc = ((2 ^ (7 * k) : Nat) : Int) ∧ rn (5 - k) k acc (s.drop (at_ + k)) = rNum s at_ bad := by
        rcases hmode with ⟨h1 | h1, -⟩ | h2
        · omega
        · cases h1
        · exact h2
      have hle1 := rq.le
      have p35 : 2 ^ (7 * (k + 1)) ≤ 2 ^ 35 := Nat.pow_le_pow_right (by omega) (by omega)
      have p7 : 2 ^ (7 * (k + 1)) = 128 * 2 ^ (7 * k) := by rw [Nat.mul_add, Nat.pow_add]; omega
      refine c_skip ?_; refine x_seq ?_; refine c_blk ?_; refine c_seq ?_; refine c_reg ?_
      refine mv rfl rfl (cl (vs := [ptr q 0]) rfl (QByteR_fn rq) rfl (fun v2 h2 r2 => ?_))
      obtain ⟨rfl, r2⟩ := r2
      have md2 := mod_more md r2.2 (fun _ e => .inl e)
      refine asg rfl rfl ?_; refine o_nil ?_; refine x_seq ?_; refine c_seq ?_; refine c_reg ?_
      refine mv rfl rfl (add rfl rfl (by omega) rfl (asg rfl rfl ?_))
      refine o_nil ?_; refine x_seq ?_; refine c_seq ?_; refine c_reg ?_
      by_cases ht : canTake s (at_ + k) false 1
      · rw [if_pos ht, if_pos ht] at r2
        have hb2 := r2.1.blk
        have htl := ht.2.2
        have hlt : at_ + k < s.length := by omega
        have hgk : s[at_ + k]? = some s[at_ + k] := List.getElem?_eq_getElem hlt
        have hdrop : s.drop (at_ + k) = s[at_ + k] :: s.drop (at_ + k + 1) := List.drop_eq_getElem_cons hlt
        rw [hdrop, show 5 - k = (4 - k) + 1 by omega, rn] at hrn
        rw [rByte, if_pos ht, hgk]
        simp only [Option.getD_some]
        generalize s[at_ + k] = c at *
        have hc256 := c.toNat_lt
        have hal := acc_lt hacc c.toNat
        have hm : ((c.toNat : Int).tmod 128) = ((c.toNat % 128 : Nat) : Int) := by rw [Int.tmod_eq_emod_of_nonneg (by omega)]; omega
        have hmul : ((c.toNat % 128 : Nat) : Int) * ((2 ^ (7 * k) : Nat) : Int) = ((c.toNat % 128 * 2 ^ (7 * k) : Nat) : Int) := by push_cast; rfl
        refine mv rfl rfl (mv rfl rfl (rem rfl rfl (by decide) rfl (rv 28 rfl (vi hm) (mv rfl rfl (mul rfl rfl (by rw [hmul]; omega) rfl (rv 30 rfl (vi hmul) (add rfl rfl (by omega) rfl (rv 31 rfl (vi (show (acc : Int) + ((c.toNat % 128 * 2 ^ (7 * k) : Nat) : Int) = ((acc + c.toNat % 128 * 2 ^ (7 * k) : Nat) : Int) from by omega)) (asg rfl rfl ?_)))))))))
        generalize acc + c.toNat % 128 * 2 ^ (7 * k) = acc2 at *
        refine o_nil ?_; refine x_seq ?_; refine c_seq ?_; refine c_reg ?_; refine mv rfl rfl (mul rfl rfl (by omega) rfl (rv 33 rfl (vi (show ((2 ^ (7 * k) : Nat) : Int) * 128 = ((2 ^ (7 * (k + 1)) : Nat) : Int) from by omega)) (asg rfl rfl ?_)))
        refine o_nil ?_; refine x_seq ?_; refine c_seq ?_; refine c_reg ?_; refine mv rfl rfl (lti rfl rfl rfl ?_)
        refine o_nil ?_; refine x_seq ?_; refine c_cond rfl (fun c2 => ?_) (fun c2 => ?_)
        · rw [if_neg (by omega)] at hrn
          simp only at hrn
          have hn : ∃ n : Int, n = (if 64 ≤ c.toNat then ((acc2 : Nat) : Int) - ((2 ^ (7 * (k + 1)) : Nat) : Int) else ((acc2 : Nat) : Int)) := ⟨_, rfl⟩
          obtain ⟨n, hn⟩ := hn
          rw [← hn] at hrn
          have hnb : -34359738368 ≤ n ∧ n ≤ 34359738368 := by rw [hn]; split <;> omega
          refine c_cut (α := Unit) (fun _ => [(0, ptr q 0), (3, i64 (at_ : Nat)), (4, i64 n), (5, i64 ((k + 1 : Nat) : Int)), (6, i64 ((2 ^ (7 * (k + 1)) : Nat) : Int))]) (fun _ => h2) (fun _ => True) ?_ ?_
          · refine c_seq ?_; refine c_reg ?_; refine mv rfl rfl (gei rfl rfl rfl ?_)
            refine o_nil ?_; refine x_seq ?_; refine c_cond rfl (fun c3 => ?_) (fun c3 => ?_)
            · refine c_reg ?_
              refine mv rfl rfl (mv rfl rfl (sub rfl rfl (by omega) rfl (asg rfl rfl ?_)))
              refine o_nil ?_
              exact x_cut () trivial ⟨rfl, rfl, by rw [hn, if_pos (by omega)]; rfl, rfl, rfl, trivial⟩ rfl
            · refine c_skip ?_
              exact x_cut () trivial ⟨rfl, rfl, by rw [hn, if_neg (by omega)]; rfl, rfl, rfl, trivial⟩ rfl
          intro _ _
          refine c_seq ?_; refine c_reg ?_
          refine bld (vs := []) (v := .agg #[.slice none 0 0, .bool false]) rfl (fun _ => by kernel_rfl) rfl (bx rfl nofun rfl (fun h4 n4 => ?_))
          have q4 : Q h4 h2.size (.slice none 0 0) [] false := ⟨n4.at_, Owns.nil _ _ _, by simp [ownB, Value.ownBlock]⟩
          have hb4 := n4.ext.get hb2
          refine asg rfl rfl ?_; refine o_nil ?_; refine x_seq ?_; refine c_seq ?_; refine c_reg ?_
          refine mv rfl rfl (mv rfl rfl (cl (vs := [ptr h2.size 0, i64 n]) rfl (QNum_fn q4 (by simp) n) rfl (fun v5 h5 r5 => ?_)))
          obtain ⟨rfl, vq5, q5, s5⟩ := r5
          have hqs := lt_of_get hb2
          have hb5 := s5.mod.get hb4 (fun e => e.elim (fun e => by omega) (fun e => by simp [ownB, Value.ownBlock] at e))
          have md5 : Mod (· = q) h2 h5 := by
            refine ⟨Nat.le_trans n4.ext.size s5.mod.size, fun j hj hne => (s5.mod.same j (by have := n4.ext.size; omega) (fun e => e.elim (fun e => by omega) (fun e => by simp [ownB, Value.ownBlock] at e))).trans (n4.ext.same j hj (fun e => e))⟩
          have rq5 : RQ h5 q s (at_ + k + 1) false := ⟨hb5, by omega, hlen⟩
          refine o_nil ?_; refine x_seq ?_; refine c_seq ?_; refine c_seq ?_; refine c_reg ?_
          refine mv rfl rfl (nck rfl rfl (fa rfl rfl (ld rfl (cell hb5 rfl) rfl (nt rfl rfl (mv rfl rfl ?_)))))
          refine ct 51 rfl (by simp) ?_
          refine gd rfl rfl (mv rfl rfl (gd rfl rfl (cl (vs := [i64 n, i64 32]) rfl (rfits_fn n h5) rfl (fun v7 h7 r7 => ?_))))
          obtain ⟨rfl, rfl⟩ := r7
          refine pkt rfl rfl rfl (mv rfl rfl ?_)
          refine cs 55 rfl (fun c8 => ?_) (fun c8 => ?_)
          · have c8' : fit32 n := c8
            rw [if_pos c8', if_pos c8', List.nil_append] at q5
            obtain ⟨av, cv, hv⟩ := q5.own.form
            have hbq := q5.blk
            refine gd rfl rfl (mv rfl rfl (gd rfl rfl (nck rfl rfl (gd rfl rfl (fa rfl rfl (gd rfl rfl (ld rfl (cell hbq rfl) rfl (gd rfl rfl (lnl (n := (compact n).length) (c := cv) (a0 := av) (congrArg some hv) rfl (gd rfl rfl (mv rfl rfl ?_)))))))))))
            refine gd rfl rfl (eqi rfl rfl rfl (pkt rfl rfl rfl ?_))
            refine o_nil ?_; refine x_seq ?_; refine c_cond rfl (fun c9 => ?_) (fun c9 => ?_)
            · have c9' : ((compact n).length : Int) = (k + 1 : Nat) := c9
              rw [if_pos ⟨c8', by omega⟩] at hrn
              refine c_seq ?_
              refine c_reg ?_; refine mv rfl rfl (asg rfl rfl ?_)
              refine o_nil ?_; refine x_seq ?_; refine c_ret ?_; refine x_seq_ret ?_; refine x_blk_ret ?_; refine x_loop_ret ?_; refine x_blk_ret ?_
              refine x_cut_ret ?_; refine ret1 (.inr rfl) rfl rfl ?_
              rw [← hrn]
              exact ⟨rfl, rq5, mod_more md2 md5 (fun _ e => .inl e)⟩
            · have c9' : ¬ ((compact n).length : Int) = (k + 1 : Nat) := c9
              rw [if_neg (fun e => c9' (by omega))] at hrn
              refine c_skip ?_
              refine x_seq ?_; refine c_reg ?_; refine asg rfl rfl ?_; refine o_nil ?_; refine x_blk ?_
              exact x_loop (5, n, ((2 ^ (7 * (k + 1)) : Nat) : Int), at_ + k + 1, false, h7) ⟨⟨rq5, mod_more md2 md5 (fun _ e => .inl e)⟩, by simp, .inl ⟨.inl rfl, hrn.symm⟩⟩ (by simp only; omega) ⟨rfl, rfl, rfl, rfl, rfl, trivial⟩ rfl
          · rw [if_neg (fun e => c8 e.1)] at hrn
            refine gs rfl rfl rfl rfl (gs rfl rfl rfl rfl (gs rfl rfl rfl rfl (gs rfl rfl rfl rfl (gs rfl rfl rfl rfl (gs rfl rfl rfl rfl (gs rfl rfl rfl rfl (pkf rfl rfl rfl ?_)))))))
            refine o_nil ?_; refine x_seq ?_; refine c_f rfl (by simp) ?_; refine c_skip ?_; refine x_seq ?_; refine c_reg ?_; refine asg rfl rfl ?_
            refine o_nil ?_; refine x_blk ?_
            exact x_loop (5, n, ((2 ^ (7 * (k + 1)) : Nat) : Int), at_ + k + 1, false, h7) ⟨⟨rq5, mod_more md2 md5 (fun _ e => .inl e)⟩, by simp, .inl ⟨.inl rfl, hrn.symm⟩⟩ (by simp only; omega) ⟨rfl, rfl, rfl, rfl, rfl, trivial⟩ rfl
        · rw [if_pos (by omega)] at hrn
          refine c_skip ?_; refine x_blk ?_
          refine x_loop (k + 1, ((acc2 : Nat) : Int), ((2 ^ (7 * (k + 1)) : Nat) : Int), at_ + k + 1, false, h2) ⟨⟨r2.1, md2⟩, by simp only; omega, .inr ⟨rfl, by simp only; omega, acc2, rfl, hal, rfl, ?_⟩⟩ (by simp only; omega) ⟨rfl, rfl, rfl, rfl, rfl, trivial⟩ rfl
          simp only
          rw [← hrn]; congr 1; omega
      · rw [if_neg ht, if_neg ht] at r2
        have hb2 := r2.1.blk
        have hdrop : s.drop (at_ + k) = [] := by
          apply List.drop_of_length_le
          have : ¬ (false = false ∧ (0 : Int) ≤ 1 ∧ (1 : Int) ≤ (s.length : Int) - ((at_ + k : Nat) : Int)) := ht
          simp only [true_and] at this; omega
        rw [hdrop, show 5 - k = (4 - k) + 1 by omega, rn] at hrn
        rw [rByte, if_neg ht]
        refine mv rfl rfl (mv rfl rfl (rem rfl rfl (by decide) rfl (rv 28 rfl (vi (show (0 : Int).tmod 128 = 0 from by decide)) (mv rfl rfl (mul rfl rfl (by rw [Int.zero_mul]; omega) rfl (rv 30 rfl (vi (Int.zero_mul _)) (add rfl rfl (by omega) rfl (asg rfl rfl ?_))))))))
        refine o_nil ?_; refine x_seq ?_; refine c_seq ?_; refine c_reg ?_; refine mv rfl rfl (mul rfl rfl (by omega) rfl (asg rfl rfl ?_))
        refine o_nil ?_; refine x_seq ?_; refine c_seq ?_; refine c_reg ?_; refine mv rfl rfl (lti rfl rfl rfl ?_)
        refine o_nil ?_; refine x_seq ?_; refine c_t rfl (by omega) ?_
        refine c_seq ?_; refine c_seq ?_; refine c_reg ?_; refine mv rfl rfl (gei rfl rfl rfl ?_)
        refine o_nil ?_; refine x_seq ?_; refine c_f rfl (by omega) ?_
        refine c_skip ?_
        refine x_seq ?_; refine c_seq ?_; refine c_reg ?_
        refine bld (vs := []) (v := .agg #[.slice none 0 0, .bool false]) rfl (fun _ => by kernel_rfl) rfl (bx rfl nofun rfl (fun h4 n4 => ?_))
        have q4 : Q h4 h2.size (.slice none 0 0) [] false := ⟨n4.at_, Owns.nil _ _ _, by simp [ownB, Value.ownBlock]⟩
        have hb4 := n4.ext.get hb2
        refine asg rfl rfl ?_; refine o_nil ?_; refine x_seq ?_; refine c_seq ?_; refine c_reg ?_
        refine mv rfl rfl (mv rfl rfl (cl (vs := [ptr h2.size 0, i64 ((acc : Int) + 0)]) rfl (QNum_fn q4 (by simp) _) rfl (fun v5 h5 r5 => ?_)))
        obtain ⟨rfl, vq5, q5, s5⟩ := r5
        have hqs := lt_of_get hb2
        have hb5 := s5.mod.get hb4 (fun e => e.elim (fun e => by omega) (fun e => by simp [ownB, Value.ownBlock] at e))
        have md5 : Mod (· = q) h2 h5 := by
          refine ⟨Nat.le_trans n4.ext.size s5.mod.size, fun j hj hne => (s5.mod.same j (by have := n4.ext.size; omega) (fun e => e.elim (fun e => by omega) (fun e => by simp [ownB, Value.ownBlock] at e))).trans (n4.ext.same j hj (fun e => e))⟩
        have rq5 : RQ h5 q s (at_ + k) true := ⟨hb5, hle1, hlen⟩
        refine o_nil ?_; refine x_seq ?_; refine c_seq ?_; refine c_seq ?_; refine c_reg ?_
        refine mv rfl rfl (nck rfl rfl (fa rfl rfl (ld rfl (cell hb5 rfl) rfl (nt rfl rfl (mv rfl rfl ?_)))))
        refine cf 51 rfl (by simp) ?_
        refine gs rfl rfl rfl rfl (gs rfl rfl rfl rfl (pkf rfl rfl rfl (mv rfl rfl (gs rfl rfl rfl rfl (gs rfl rfl rfl rfl (gs rfl rfl rfl rfl (gs rfl rfl rfl rfl (gs rfl rfl rfl rfl ?_))))))))
        refine gs rfl rfl rfl rfl (gs rfl rfl rfl rfl (pkf rfl rfl rfl ?_))
        refine o_nil ?_; refine x_seq ?_; refine c_f rfl (by simp) ?_; refine c_skip ?_; refine x_seq ?_; refine c_reg ?_; refine asg rfl rfl ?_
        refine o_nil ?_; refine x_blk ?_
        exact x_loop (5, (acc : Int) + 0, ((2 ^ (7 * k) : Nat) : Int) * 128, at_ + k, true, h5) ⟨⟨rq5, mod_more md2 md5 (fun _ e => .inl e)⟩, by simp, .inl ⟨.inl rfl, hrn.symm⟩⟩ (by simp only; omega) ⟨rfl, rfl, rfl, rfl, rfl, trivial⟩ rfl
    · have hnone : rNum s at_ bad = none := by
        rcases hmode with ⟨-, h2⟩ | ⟨h1, -, acc, -, -, -, hrn⟩
        · exact h2
        · have : k = 5 := by
            rcases Nat.lt_or_ge k 5 with h | h
            · exact absurd ⟨h, h1⟩ c1
            · omega
          subst this
          rw [← hrn]; rfl
      refine c_exit ?_
      refine x_seq_exit ?_; refine x_loop_exit ?_; refine x_blk_hit ?_
      exact x_cut h1 ⟨hnone, pos, bd, rq, md⟩ ⟨rfl, rfl, trivial⟩ rfl
  · intro h1 hx
    obtain ⟨hnone, p2, b2, rq, md⟩ := hx
    have hb1 := rq.blk
    rw [hnone]
    refine c_seq ?_; refine c_reg ?_
    refine mv rfl rfl (mv rfl rfl (mv rfl rfl (nck rfl rfl (fa rfl rfl (st rfl rfl rfl hb1 rfl nofun (fun h16 u16 => ?_))))))
    have hb16 := u16.at_
    refine nck rfl rfl (fa rfl rfl (st rfl rfl rfl hb16 rfl nofun (fun h17 u17 => ?_)))
    refine o_nil ?_; refine x_seq ?_; refine c_seq ?_; refine c_reg ?_; refine asg rfl rfl ?_; refine o_nil ?_; refine x_seq ?_; refine c_ret ?_
    refine ret1 (.inr rfl) rfl rfl ?_
    exact ⟨rfl, ⟨u17.at_, hle, hlen⟩, mod_more (mod_more md u16.mod (fun _ e => .inl e)) u17.mod (fun _ e => .inl e)⟩
end Go.Proofs.Ytkgmgnjgplabhaa
