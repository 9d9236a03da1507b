/- Walks of the rider's laws: wakes, RiderEnds. No condition but what each theorem says. -/
import Derived.Test.YtkgmgnjgplabhaaRid8
namespace Go.Proofs.Ytkgmgnjgplabhaa
open Go Go.Eng

theorem over {S : Nat → Prop} {h0 h h' : Heap} (x : Ext h0 h) (m : Mod S h h') (hS : ∀ k, S k → h0.size ≤ k) : Ext h0 h' :=
  ⟨Nat.le_trans x.size m.size, fun k hk _ => (m.same k (Nat.lt_of_lt_of_le hk x.size) (fun e => by have := hS k e; omega)).trans (x.same k hk (fun e => e))⟩
/-- a Writer whose blocks are all newer than a heap -/
structure WF (h0 h : Heap) (p : Nat) (all : List UInt8) (sp : Bool) : Prop where
  new : h0.size ≤ p
  x : Ext h0 h
  w : ∃ vb, W h p vb all sp ∧ ∀ k, ownB vb k → h0.size ≤ k
theorem WF.to {h0 h h' : Heap} {p : Nat} {vb : Value} {all' : List UInt8} {sp' : Bool} (new : h0.size ≤ p) (x : Ext h0 h) (hv : ∀ k, ownB vb k → h0.size ≤ k)
    (b : ∃ vb', W h' p vb' all' sp' ∧ WS h p vb h' vb') : WF h0 h' p all' sp' := by
  obtain ⟨vb', w', s'⟩ := b
  refine ⟨new, over x s'.mod (fun k hk => hk.elim (fun e => e ▸ new) (hv k)), vb', w', fun k hk => (s'.new k hk).elim (hv k) (fun e => Nat.le_trans x.size e)⟩
theorem WF.ext {h0 h h' : Heap} {p : Nat} {all : List UInt8} {sp : Bool} (a : WF h0 h p all sp) (y : Ext h h') : WF h0 h' p all sp :=
  ⟨a.new, a.x.trans y, a.w.imp fun _ ⟨u, v⟩ => ⟨u.ext y, v⟩⟩
/-- a Reader whose block is newer than a heap -/
structure RF (h0 h : Heap) (p : Nat) (s : List UInt8) (at_ : Nat) (bad : Bool) : Prop where
  new : h0.size ≤ p
  x : Ext h0 h
  r : R h p s at_ bad
theorem RF.to {h0 h h' : Heap} {p : Nat} {s : List UInt8} {at_ at2 : Nat} {bad bad2 : Bool} (a : RF h0 h p s at_ bad) (b : RAfter h p s at2 bad2 h') : RF h0 h' p s at2 bad2 :=
  ⟨a.new, over a.x b.2 (fun k hk => by have : k = p := hk
                                       rw [this]; exact a.new), b.1⟩
theorem RF.ext {h0 h h' : Heap} {p : Nat} {s : List UInt8} {at_ : Nat} {bad : Bool} (a : RF h0 h p s at_ bad) (y : Ext h h') : RF h0 h' p s at_ bad :=
  ⟨a.new, a.x.trans y, a.r.mod y (fun e => e)⟩
theorem WF.mk0 {h0 h h' : Heap} (x : Ext h0 h) (b : W h' h.size (.slice none 0 0) [] false ∧ Ext h h') : WF h0 h' h.size [] false :=
  ⟨x.size, x.trans b.2, _, b.1, fun k hk => by simp [ownB, Value.ownBlock] at hk⟩
theorem RF.mk0 {h0 h h' : Heap} {s : List UInt8} (x : Ext h0 h) (b : R h' h.size s 0 false ∧ Ext h h') : RF h0 h' h.size s 0 false :=
  ⟨x.size, x.trans b.2, b.1⟩

theorem wakes_fn (h : Heap) : Does Try.prog 11 [] h (fun v h' => v = .bool true ∧ Ext h h') := by
  refine fn_enter (N := 38) Try.func11 (by kernel_rfl) rfl rfl rfl (fun w0 => ?_)
  refine c_seq ?_; refine c_reg ?_; refine asg rfl rfl ?_; refine o_nil ?_; refine x_seq ?_; refine c_seq ?_; refine c_reg ?_
  refine cl (vs := []) rfl (Write_fn h) rfl (fun v1 h1 r1 => ?_)
  obtain ⟨rfl, r1⟩ := r1
  obtain ⟨n1, x1, vb1, w1, f1⟩ := WF.mk0 (Mod.refl _ h) r1
  refine asg rfl rfl ?_; refine o_nil ?_; refine x_seq ?_; refine c_seq ?_; refine c_reg ?_
  refine mv rfl rfl (cl (vs := [ptr h.size 0, i64 64]) rfl (Num_fn w1 64 (by omega)) rfl (fun v2 h2 r2 => ?_))
  obtain ⟨rfl, r2⟩ := r2
  obtain ⟨n2, x2, vb2, w2, f2⟩ := WF.to n1 x1 f1 r2
  refine o_nil ?_; refine x_seq ?_; refine c_seq ?_; refine c_reg ?_
  refine mv rfl rfl (cl (vs := [ptr h.size 0, str [97, 98]]) rfl (Text_fn w2 [97, 98]) rfl (fun v3 h3 r3 => ?_))
  obtain ⟨rfl, r3⟩ := r3
  obtain ⟨n3, x3, vb3, w3, f3⟩ := WF.to n2 x2 f2 r3
  have e3 : (if textOk [97, 98] then (if fit32 64 then [] ++ compact 64 else []) ++ ([97, 98] ++ [0]) else (if fit32 64 then [] ++ compact 64 else [])) = [192, 0, 97, 98, 0] := by decide
  have e4 : (if textOk [97, 98] then (if fit32 64 then false else true) else true) = false := by decide
  rw [e3, e4] at w3
  refine o_nil ?_; refine x_seq ?_; refine c_seq ?_; refine c_reg ?_
  refine mv rfl rfl (cl (vs := [ptr h.size 0]) rfl (Bytes_fn w3) rfl (fun v4 h4 r4 => ?_))
  obtain ⟨rfl, rfl⟩ := r4
  refine mv rfl rfl (ext rfl rfl rfl (ext rfl rfl rfl (asg rfl rfl (asg rfl rfl ?_))))
  refine o_nil ?_; refine x_seq ?_; refine c_seq ?_; refine c_reg ?_; refine cl (vs := [str [192, 128, 0]]) rfl (Read_fn [192, 128, 0] (by decide) h4) rfl (fun v5 h5 r5 => ?_)
  obtain ⟨rfl, r5⟩ := r5
  have a5 := RF.mk0 x3 r5
  refine asg rfl rfl ?_; refine o_nil ?_; refine x_seq ?_; refine c_seq ?_; refine c_reg ?_
  refine mv rfl rfl (cl (vs := [ptr h4.size 0]) rfl (RNum_fn a5.r) rfl (fun v6 h6 r6 => ?_))
  have e6 : rNum [192, 128, 0] 0 false = none := by decide
  rw [e6] at r6
  obtain ⟨rfl, r6⟩ := r6
  have a6 := a5.to r6
  refine asg rfl rfl ?_; refine o_nil ?_; refine x_seq ?_; refine c_seq ?_; refine c_reg ?_; refine mv rfl rfl (eqi rfl rfl rfl (mv rfl rfl ?_))
  refine ct 21 rfl rfl ?_; refine gd rfl rfl (mv rfl rfl (gd rfl rfl (eqs rfl rfl rfl (pkt rfl rfl rfl (mv rfl rfl ?_)))))
  refine ct 25 rfl (by rfl) ?_; refine gd rfl rfl (mv rfl rfl (gd rfl rfl (eqi rfl rfl rfl (pkt rfl rfl rfl (mv rfl rfl ?_)))))
  refine ct 29 rfl rfl ?_; refine gd rfl rfl (mv rfl rfl (gd rfl rfl (cl (vs := [ptr h4.size 0]) rfl (RBad_fn a6.r) rfl (fun v7 h7 r7 => ?_))))
  obtain ⟨rfl, rfl⟩ := r7
  refine pkt rfl rfl rfl (mv rfl rfl ?_)
  refine ct 33 rfl rfl ?_; refine gd rfl rfl (mv rfl rfl (gd rfl rfl (cl (vs := [ptr h4.size 0]) rfl (RAt_fn a6.r) rfl (fun v8 h8 r8 => ?_))))
  obtain ⟨rfl, rfl⟩ := r8
  refine gd rfl rfl (eqi rfl rfl rfl (pkt rfl rfl rfl (asg rfl rfl ?_)))
  refine o_nil ?_; refine x_seq ?_; refine c_ret ?_; refine ret1 (.inr rfl) rfl rfl ?_
  exact ⟨rfl, a6.x⟩

theorem noTake (s : List UInt8) (at_ : Nat) (n : Int) : ¬ canTake s at_ true n := fun e => by cases e.1
theorem noText (s : List UInt8) (at_ : Nat) : ¬ canText s at_ true := fun e => by cases e.1

set_option maxHeartbeats 800000 in
theorem Ends_fn (s : List UInt8) (n : Int) (hn : -9223372036854775808 ≤ n ∧ n ≤ 9223372036854775807) (h : Heap) :
    Does Try.prog 6 [str s, i64 n] h (fun v h' => v = .bool true ∧ Ext h h') := by
  refine fn_enter (N := 116) Try.func6 (by kernel_rfl) rfl rfl rfl (fun w0 => ?_)
  refine c_seq ?_; refine c_reg ?_; refine asg rfl rfl ?_; refine o_nil ?_; refine x_seq ?_; refine c_seq ?_; refine c_seq ?_; refine c_reg ?_
  refine mv rfl rfl (lns rfl rfl (gti rfl rfl rfl ?_))
  refine o_nil ?_; refine x_seq ?_; refine c_cond rfl (fun c1 => ?_) (fun c1 => ?_)
  · refine c_seq ?_
    refine c_reg ?_; refine cl (vs := []) rfl (wakes_fn h) rfl (fun v2 h2 r2 => ?_)
    obtain ⟨rfl, x2⟩ := r2
    refine asg rfl rfl ?_; refine o_nil ?_; refine x_seq ?_; refine c_ret ?_; refine x_seq_ret ?_; refine ret1 (.inr rfl) rfl rfl ?_
    exact ⟨rfl, x2⟩
  · refine c_skip ?_
    refine x_seq ?_; refine c_seq ?_; refine c_reg ?_; refine mv rfl rfl (cl (vs := [str s]) rfl (Read_fn s (by omega) h) rfl (fun v3 h3 r3 => ?_))
    obtain ⟨rfl, r3⟩ := r3
    have a3 := RF.mk0 (Mod.refl _ h) r3
    refine asg rfl rfl ?_; refine o_nil ?_; refine x_seq ?_; refine c_seq ?_; refine c_reg ?_
    refine mv rfl rfl (mv rfl rfl (cl (vs := [ptr h.size 0, i64 n]) rfl (RRaw_fn a3.r n) rfl (fun v4 h4 r4 => ?_)))
    obtain ⟨rfl, r4⟩ := r4
    have a4 := a3.to r4
    refine asg rfl rfl ?_; refine o_nil ?_; refine x_seq ?_; refine c_seq ?_
    refine c_cut (α := Unit) (fun _ => [(0, str s), (1, i64 n), (5, ptr h.size 0), (6, str (taken s 0 false n)), (23, .bool (decide (¬ canTake s 0 false n)))]) (fun _ => h4) (fun _ => True) ?_ ?_
    · refine c_reg ?_
      refine mv rfl rfl (lti rfl rfl rfl (mv rfl rfl ?_))
      refine cs 18 rfl (fun c5 => ?_) (fun c5 => ?_)
      · refine gs rfl rfl rfl rfl (gs rfl rfl rfl rfl (gs rfl rfl rfl rfl (gs rfl rfl rfl rfl (pkt rfl rfl rfl ?_))))
        refine o_nil ?_
        exact x_cut () trivial ⟨rfl, rfl, rfl, rfl, by rw [decide_eq_true (show ¬ canTake s 0 false n from fun e => by have := e.2.1; omega)]; rfl, trivial⟩ rfl
      · refine gd rfl rfl (mv rfl rfl (gd rfl rfl (mv rfl rfl (gd rfl rfl (lns rfl rfl (gd rfl rfl (gti rfl rfl rfl (pkf rfl rfl rfl ?_))))))))
        refine o_nil ?_
        refine x_cut () trivial ⟨rfl, rfl, rfl, rfl, ?_, trivial⟩ rfl
        have : (n > (s.length : Int)) ↔ ¬ canTake s 0 false n := by simp only [canTake, true_and]; omega
        exact congrArg some (congrArg Value.bool (decide_eq_decide.2 this))
    intro _ _
    refine c_cond rfl (fun c5 => ?_) (fun c5 => ?_)
    · rw [if_neg c5, if_neg c5] at a4
      rw [show taken s 0 false n = [] from if_neg c5]
      refine c_seq ?_; refine c_reg ?_; refine mv rfl rfl (eqs rfl rfl rfl (mv rfl rfl ?_))
      refine ct 26 rfl rfl ?_; refine gd rfl rfl (mv rfl rfl (gd rfl rfl (cl (vs := [ptr h.size 0]) rfl (RBad_fn a4.r) rfl (fun v6 h6 r6 => ?_))))
      obtain ⟨rfl, rfl⟩ := r6
      refine pkt rfl rfl rfl (mv rfl rfl ?_)
      refine ct 30 rfl rfl ?_; refine gd rfl rfl (mv rfl rfl (gd rfl rfl (cl (vs := [ptr h.size 0]) rfl (RAt_fn a4.r) rfl (fun v7 h7 r7 => ?_))))
      obtain ⟨rfl, rfl⟩ := r7
      refine gd rfl rfl (eqi rfl rfl rfl (pkt rfl rfl rfl (mv rfl rfl ?_)))
      refine ct 35 rfl rfl ?_; refine gd rfl rfl (mv rfl rfl (gd rfl rfl (cl (vs := [ptr h.size 0]) rfl (RByte_fn a4.r) rfl (fun v8 h8 r8 => ?_))))
      rw [rByte, if_neg (noTake _ _ _), if_neg (noTake _ _ _), if_neg (noTake _ _ _)] at r8
      obtain ⟨rfl, r8⟩ := r8
      have a8 := a4.to r8
      refine gd rfl rfl (eqi rfl rfl rfl (pkt rfl rfl rfl (mv rfl rfl ?_)))
      refine ct 40 rfl rfl ?_; refine gd rfl rfl (mv rfl rfl (gd rfl rfl (cl (vs := [ptr h.size 0]) rfl (RNum_fn a8.r) rfl (fun v9 h9 r9 => ?_))))
      rw [rNum, if_pos rfl] at r9
      obtain ⟨rfl, r9⟩ := r9
      have a9 := a8.to r9
      refine gd rfl rfl (eqi rfl rfl rfl (pkt rfl rfl rfl (mv rfl rfl ?_)))
      refine ct 45 rfl rfl ?_; refine gd rfl rfl (mv rfl rfl (gd rfl rfl (cl (vs := [ptr h.size 0]) rfl (RWord_fn a9.r) rfl (fun v10 h10 r10 => ?_))))
      rw [rWord, Option.isNone_none, if_neg (noTake _ _ _), if_neg (noTake _ _ _), if_neg (noTake _ _ _)] at r10
      obtain ⟨rfl, r10⟩ := r10
      have a10 := a9.to r10
      refine gd rfl rfl (eqi rfl rfl rfl (pkt rfl rfl rfl (mv rfl rfl ?_)))
      refine ct 50 rfl rfl ?_; refine gd rfl rfl (mv rfl rfl (gd rfl rfl (cl (vs := [ptr h.size 0]) rfl (RText_fn a10.r) rfl (fun v11 h11 r11 => ?_))))
      rw [if_neg (noText _ _), if_neg (noText _ _), if_neg (noText _ _)] at r11
      obtain ⟨rfl, r11⟩ := r11
      have a11 := a10.to r11
      refine gd rfl rfl (eqs rfl rfl rfl (pkt rfl rfl rfl (mv rfl rfl ?_)))
      refine ct 55 rfl rfl ?_; refine gd rfl rfl (mv rfl rfl (gd rfl rfl (cl (vs := [ptr h.size 0, i64 0]) rfl (RRaw_fn a11.r 0) rfl (fun v12 h12 r12 => ?_))))
      rw [taken, if_neg (noTake _ _ _), if_neg (noTake _ _ _), if_neg (noTake _ _ _)] at r12
      obtain ⟨rfl, r12⟩ := r12
      have a12 := a11.to r12
      refine gd rfl rfl (eqs rfl rfl rfl (pkt rfl rfl rfl (mv rfl rfl ?_)))
      refine ct 60 rfl rfl ?_; refine gd rfl rfl (mv rfl rfl (gd rfl rfl (cl (vs := [ptr h.size 0]) rfl (REnd_fn a12.r) rfl (fun v13 h13 r13 => ?_))))
      obtain ⟨rfl, rfl⟩ := r13
      refine gd rfl rfl (nt rfl rfl (pkt rfl rfl rfl (mv rfl rfl ?_)))
      refine ct 65 rfl (by simp) ?_; refine gd rfl rfl (mv rfl rfl (gd rfl rfl (cl (vs := [ptr h.size 0]) rfl (RAt_fn a12.r) rfl (fun v14 h14 r14 => ?_))))
      obtain ⟨rfl, rfl⟩ := r14
      refine gd rfl rfl (eqi rfl rfl rfl (pkt rfl rfl rfl (mv rfl rfl ?_)))
      refine ct 70 rfl rfl ?_; refine gd rfl rfl (cl (vs := []) rfl (wakes_fn _) rfl (fun v15 h15 r15 => ?_))
      obtain ⟨rfl, x15⟩ := r15
      refine pkt rfl rfl rfl (asg rfl rfl ?_)
      refine o_nil ?_; refine x_seq ?_; refine c_ret ?_; refine x_seq_ret ?_; refine ret1 (.inr rfl) rfl rfl ?_
      exact ⟨rfl, a12.x.trans x15⟩
    · have c6 := Classical.not_not.1 c5
      have c7 := c6.2
      rw [if_pos c6, if_pos c6] at a4
      have et : taken s 0 false n = s.take n.toNat := by rw [taken, if_pos c6]; rfl
      rw [et]
      refine c_skip ?_
      refine x_seq ?_; refine c_seq ?_; refine c_seq ?_; refine c_reg ?_
      refine mv rfl rfl (mv rfl rfl (mv rfl rfl (slt rfl rfl (by omega) rfl (nes rfl rfl rfl (mv rfl rfl ?_)))))
      refine cf 78 rfl (by simp) ?_; refine gd rfl rfl (mv rfl rfl (gd rfl rfl (cl (vs := [ptr h.size 0]) rfl (RAt_fn a4.r) rfl (fun v3 h3 r3 => ?_))))
      obtain ⟨rfl, rfl⟩ := r3
      refine gd rfl rfl (mv rfl rfl (gd rfl rfl (nei rfl rfl rfl (pkf rfl rfl rfl (mv rfl rfl ?_)))))
      refine cf 84 rfl (by omega) ?_; refine gd rfl rfl (mv rfl rfl (gd rfl rfl (cl (vs := [ptr h.size 0]) rfl (RBad_fn a4.r) rfl (fun v4 h4 r4 => ?_))))
      obtain ⟨rfl, rfl⟩ := r4
      refine pkf rfl rfl rfl ?_; refine o_nil ?_; refine x_seq ?_; refine c_f rfl (by simp) ?_; refine c_skip ?_; refine x_seq ?_; refine c_seq ?_
      refine c_reg ?_
      refine mv rfl rfl (mv rfl rfl (lns rfl rfl (mv rfl rfl (sub rfl rfl (by omega) rfl (add rfl rfl (by omega) rfl (cl (vs := [ptr h.size 0, i64 ((s.length : Int) - n + 1)]) rfl (RRaw_fn a4.r _) rfl (fun v5 h5 r5 => ?_)))))))
      have c8 : ¬ canTake s (0 + n.toNat) false ((s.length : Int) - n + 1) := fun e => by have := e.2.2; omega
      rw [if_neg c8, if_neg c8] at r5
      obtain ⟨-, r5⟩ := r5
      have a5 := a4.to r5
      refine o_nil ?_; refine x_seq ?_; refine c_seq ?_; refine c_reg ?_
      refine mv rfl rfl (cl (vs := [ptr h.size 0]) rfl (RBad_fn a5.r) rfl (fun v6 h6 r6 => ?_))
      obtain ⟨rfl, rfl⟩ := r6
      refine mv rfl rfl ?_; refine ct 97 rfl rfl ?_
      refine gd rfl rfl (mv rfl rfl (gd rfl rfl (cl (vs := [ptr h.size 0]) rfl (RAt_fn a5.r) rfl (fun v7 h7 r7 => ?_))))
      obtain ⟨rfl, rfl⟩ := r7
      refine gd rfl rfl (mv rfl rfl (gd rfl rfl (eqi rfl rfl rfl (pkt rfl rfl rfl (mv rfl rfl ?_)))))
      refine ct 103 rfl (by omega) ?_; refine gd rfl rfl (mv rfl rfl (gd rfl rfl (cl (vs := [ptr h.size 0, i64 0]) rfl (RRaw_fn a5.r 0) rfl (fun v8 h8 r8 => ?_))))
      rw [taken, if_neg (noTake _ _ _), if_neg (noTake _ _ _), if_neg (noTake _ _ _)] at r8
      obtain ⟨rfl, r8⟩ := r8
      have a8 := a5.to r8
      refine gd rfl rfl (eqs rfl rfl rfl (pkt rfl rfl rfl (mv rfl rfl ?_)))
      refine ct 108 rfl rfl ?_; refine gd rfl rfl (mv rfl rfl (gd rfl rfl (cl (vs := [ptr h.size 0]) rfl (REnd_fn a8.r) rfl (fun v9 h9 r9 => ?_))))
      obtain ⟨rfl, rfl⟩ := r9
      refine gd rfl rfl (nt rfl rfl (pkt rfl rfl rfl (mv rfl rfl ?_)))
      refine ct 113 rfl (by simp) ?_; refine gd rfl rfl (cl (vs := []) rfl (wakes_fn _) rfl (fun v10 h10 r10 => ?_))
      obtain ⟨rfl, x10⟩ := r10
      refine pkt rfl rfl rfl (asg rfl rfl ?_)
      refine o_nil ?_; refine x_seq ?_; refine c_ret ?_; refine ret1 (.inr rfl) rfl rfl ?_
      exact ⟨rfl, a8.x.trans x10⟩
end Go.Proofs.Ytkgmgnjgplabhaa
