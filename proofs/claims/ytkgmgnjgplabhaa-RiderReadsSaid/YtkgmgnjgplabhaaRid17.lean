/- The walk of the law RiderWrites: both Writers, one behind the other. No condition but what each theorem says. -/
import Derived.Test.YtkgmgnjgplabhaaRid16
namespace Go.Proofs.Ytkgmgnjgplabhaa
open Go Go.Eng

/-- two Writers' blocks lie apart, and are newer than a heap -/
structure D2 (h0 : Heap) (p q : Nat) (vb vq : Value) : Prop where
  pq : p ≠ q
  np : h0.size ≤ p
  nq : h0.size ≤ q
  a : ∀ k, ownB vb k → h0.size ≤ k ∧ k ≠ q ∧ ¬ ownB vq k
  b : ∀ k, ownB vq k → h0.size ≤ k ∧ k ≠ p
theorem W.lt {h : Heap} {p : Nat} {vb : Value} {all : List UInt8} {sp : Bool} (w : W h p vb all sp) : p < h.size ∧ ∀ k, ownB vb k → k < h.size := by
  obtain ⟨xs, o, -⟩ := w.own
  exact ⟨lt_of_get w.blk, o.lt⟩
theorem Q.lt {h : Heap} {q : Nat} {vq : Value} {all : List UInt8} {sp : Bool} (w : Q h q vq all sp) : q < h.size ∧ ∀ k, ownB vq k → k < h.size := ⟨lt_of_get w.blk, w.own.lt⟩
theorem stepW {h0 h h' : Heap} {p q : Nat} {vb vb' vq : Value} {al2 : List UInt8} {sp2 : Bool} (x : Ext h0 h) (b : Q h q vq al2 sp2) (d : D2 h0 p q vb vq) (s : WS h p vb h' vb') :
    Q h' q vq al2 sp2 ∧ D2 h0 p q vb' vq ∧ Ext h0 h' := by
  have hl := b.lt
  have hs := x.size
  refine ⟨b.mod s.mod (fun e => e.elim (fun e => d.pq e.symm) (fun e => (d.a q e).2.1 rfl)) (fun k hk e => e.elim (fun e => (d.b k hk).2 e) (fun e => (d.a k e).2.2 hk)),
    ⟨d.pq, d.np, d.nq, fun k hk => (s.new k hk).elim (d.a k) (fun e => ⟨by omega, by omega, fun e2 => by have := hl.2 k e2; omega⟩), d.b⟩, over x s.mod (fun k hk => hk.elim (fun e => e ▸ d.np) (fun e => (d.a k e).1))⟩
theorem stepQ {h0 h h' : Heap} {p q : Nat} {vb vq vq' : Value} {al : List UInt8} {sp : Bool} (x : Ext h0 h) (w : W h p vb al sp) (d : D2 h0 p q vb vq) (s : WS h q vq h' vq') :
    W h' p vb al sp ∧ D2 h0 p q vb vq' ∧ Ext h0 h' := by
  have hl := w.lt
  have hs := x.size
  refine ⟨w.mod s.mod (fun e => e.elim (fun e => d.pq e) (fun e => (d.b p e).2 rfl)) (fun k hk e => e.elim (fun e => (d.a k hk).2.1 e) (fun e => (d.a k hk).2.2 e)),
    ⟨d.pq, d.np, d.nq, fun k hk => ⟨(d.a k hk).1, (d.a k hk).2.1, fun e => (s.new k e).elim (d.a k hk).2.2 (fun e => by have := hl.2 k hk; omega)⟩, fun k hk => (s.new k hk).elim (d.b k) (fun e => ⟨by omega, by omega⟩)⟩,
    over x s.mod (fun k hk => hk.elim (fun e => e ▸ d.nq) (fun e => (d.b k e).1))⟩
/-- both Writers hold the same -/
def WP (h0 h : Heap) (p q : Nat) (st : List UInt8 × Bool) : Prop := ∃ vb vq, W h p vb st.1 st.2 ∧ Q h q vq st.1 st.2 ∧ D2 h0 p q vb vq ∧ Ext h0 h
theorem WP.ext {h0 h h' : Heap} {p q : Nat} {st : List UInt8 × Bool} (a : WP h0 h p q st) (x : Ext h h') : WP h0 h' p q st := by
  obtain ⟨vb, vq, w, b, d, y⟩ := a
  exact ⟨vb, vq, w.ext x, b.mod x (fun e => e) (fun _ _ e => e), d, y.trans x⟩
/-- a call of the one, then a call of the other -/
theorem WP.two {h0 h h1 h2 : Heap} {p q : Nat} {vb vq : Value} {st st' : List UInt8 × Bool} (b : Q h q vq st.1 st.2) (d : D2 h0 p q vb vq) (x : Ext h0 h)
    (r1 : ∃ vb', W h1 p vb' st'.1 st'.2 ∧ WS h p vb h1 vb') (r2 : ∃ vq', Q h2 q vq' st'.1 st'.2 ∧ WS h1 q vq h2 vq') : WP h0 h2 p q st' := by
  obtain ⟨vb', w', s1⟩ := r1
  obtain ⟨vq', q', s2⟩ := r2
  obtain ⟨b1, d1, x1⟩ := stepW x b d s1
  obtain ⟨w2, d2, x2⟩ := stepQ x1 w' d1 s2
  exact ⟨vb', vq', w2, q', d2, x2⟩

def itemV (x : Item) : Value := .agg #[i64 x.kind, i64 x.n, str x.text]

theorem put_fn2 {h0 h : Heap} {p q : Nat} {st : List UInt8 × Bool} (a : WP h0 h p q st) (hl : st.1.length ≤ 1000000) (x : Item) (hn : -9223372036854775808 ≤ x.n ∧ x.n ≤ 9223372036854775807) :
    Does Try.prog 16 [ptr p 0, ptr q 0, itemV x] h (fun v h' => v = .tuple #[] ∧ WP h0 h' p q (putI st x)) := by
  refine fn_enter (N := 50) Try.func16 (by kernel_rfl) rfl rfl rfl (fun w0 => ?_)
  refine c_seq ?_; refine c_reg ?_; refine bx rfl nofun rfl (fun h1 n1 => ?_)
  have b5 := n1.at_
  obtain ⟨vb, vq, w, b, d, y⟩ := a
  have hw := w.lt
  have hq := b.lt
  have w1 := w.ext n1.ext
  have b1 := b.mod n1.ext (fun e => e) (fun _ _ e => e)
  have y1 := y.trans n1.ext
  have hb5 : ¬ (h.size = p ∨ ownB vb h.size) := fun e => e.elim (fun e => by omega) (fun e => by have := hw.2 _ e; omega)
  refine o_nil ?_; refine x_seq ?_; refine c_seq ?_; refine c_reg ?_; refine fa rfl rfl (ld rfl (cell b5 rfl) rfl ?_)
  refine o_nil ?_; refine x_seq ?_; refine c_blk ?_; refine c_seq ?_; refine c_reg ?_; refine eqi rfl rfl rfl (asg rfl rfl ?_)
  refine o_nil ?_; refine x_seq ?_; refine c_cond rfl (fun c2 => ?_) (fun c2 => ?_)
  · refine c_seq ?_
    refine c_reg ?_; refine mv rfl rfl (fa rfl rfl (ld rfl (cell b5 rfl) rfl (cl (vs := [ptr p 0, i64 x.n]) rfl (Byte_fn w1 x.n) rfl (fun v3 h3 r3 => ?_))))
    obtain ⟨rfl, vb', w', s1⟩ := r3
    have b5' := s1.mod.get b5 hb5
    obtain ⟨bq, dq, xq⟩ := stepW y1 b1 d s1
    refine o_nil ?_; refine x_seq ?_; refine c_reg ?_
    refine mv rfl rfl (fa rfl rfl (ld rfl (cell b5' rfl) rfl (cl (vs := [ptr q 0, i64 x.n]) rfl (QByte_fn bq (by omega) x.n) rfl (fun v4 h4 r4 => ?_))))
    obtain ⟨rfl, r4⟩ := r4
    refine o_nil ?_; refine x_blk ?_; refine ret0 (.inl rfl) rfl ?_
    have e : putI st x = (st.1 ++ [b8 x.n], st.2) := by rw [putI, if_pos c2]
    rw [e]
    exact ⟨rfl, WP.two b1 d y1 ⟨vb', w', s1⟩ r4⟩
  · refine c_seq ?_
    refine c_reg ?_; refine eqi rfl rfl rfl (asg rfl rfl ?_)
    refine o_nil ?_; refine x_seq ?_; refine c_cond rfl (fun c5 => ?_) (fun c5 => ?_)
    · refine c_seq ?_
      refine c_reg ?_; refine mv rfl rfl (fa rfl rfl (ld rfl (cell b5 rfl) rfl (cl (vs := [ptr p 0, i64 x.n]) rfl (Num_fn w1 x.n hn) rfl (fun v3 h3 r3 => ?_))))
      obtain ⟨rfl, vb', w', s1⟩ := r3
      have b5' := s1.mod.get b5 hb5
      obtain ⟨bq, dq, xq⟩ := stepW y1 b1 d s1
      refine o_nil ?_; refine x_seq ?_; refine c_reg ?_
      refine mv rfl rfl (fa rfl rfl (ld rfl (cell b5' rfl) rfl (cl (vs := [ptr q 0, i64 x.n]) rfl (QNum_fn bq (by omega) x.n) rfl (fun v4 h4 r4 => ?_))))
      obtain ⟨rfl, r4⟩ := r4
      refine o_nil ?_; refine x_blk ?_; refine ret0 (.inl rfl) rfl ?_
      have e : putI st x = (if fit32 x.n then st.1 ++ compact x.n else st.1, if fit32 x.n then st.2 else true) := by rw [putI, if_neg c2, if_pos c5]
      rw [e]
      exact ⟨rfl, WP.two b1 d y1 ⟨vb', w', s1⟩ r4⟩
    · refine c_seq ?_
      refine c_reg ?_; refine eqi rfl rfl rfl (asg rfl rfl ?_)
      refine o_nil ?_; refine x_seq ?_; refine c_cond rfl (fun c8 => ?_) (fun c8 => ?_)
      · refine c_seq ?_
        refine c_reg ?_; refine mv rfl rfl (fa rfl rfl (ld rfl (cell b5 rfl) rfl (cvi rfl rfl (cl (vs := [ptr p 0, .int .u32 (IntKind.u32.wrap x.n)]) rfl (Word_fn w1 _) rfl (fun v3 h3 r3 => ?_)))))
        obtain ⟨rfl, vb', w', s1⟩ := r3
        have b5' := s1.mod.get b5 hb5
        obtain ⟨bq, dq, xq⟩ := stepW y1 b1 d s1
        refine o_nil ?_; refine x_seq ?_; refine c_reg ?_
        refine mv rfl rfl (fa rfl rfl (ld rfl (cell b5' rfl) rfl (cvi rfl rfl (cl (vs := [ptr q 0, .int .u32 (IntKind.u32.wrap x.n)]) rfl (QWord_fn bq (by omega) _ (by rw [IntKind.wrap_u32]; omega)) rfl (fun v4 h4 r4 => ?_)))))
        obtain ⟨rfl, r4⟩ := r4
        refine o_nil ?_; refine x_blk ?_; refine ret0 (.inl rfl) rfl ?_
        have e : putI st x = (st.1 ++ wordb (IntKind.u32.wrap x.n), st.2) := by rw [putI, if_neg c2, if_neg c5, if_pos c8]
        rw [e]
        exact ⟨rfl, WP.two b1 d y1 ⟨vb', w', s1⟩ r4⟩
      · refine c_seq ?_
        refine c_reg ?_; refine eqi rfl rfl rfl (asg rfl rfl ?_)
        refine o_nil ?_; refine x_seq ?_; refine c_cond rfl (fun c11 => ?_) (fun c11 => ?_)
        · refine c_seq ?_
          refine c_reg ?_; refine mv rfl rfl (fa rfl rfl (ld rfl (cell b5 rfl) rfl (cl (vs := [ptr p 0, str x.text]) rfl (Text_fn w1 x.text) rfl (fun v3 h3 r3 => ?_))))
          obtain ⟨rfl, vb', w', s1⟩ := r3
          have b5' := s1.mod.get b5 hb5
          obtain ⟨bq, dq, xq⟩ := stepW y1 b1 d s1
          refine o_nil ?_; refine x_seq ?_; refine c_reg ?_
          refine mv rfl rfl (fa rfl rfl (ld rfl (cell b5' rfl) rfl (cl (vs := [ptr q 0, str x.text]) rfl (QText_fn bq (by omega) x.text) rfl (fun v4 h4 r4 => ?_))))
          obtain ⟨rfl, r4⟩ := r4
          refine o_nil ?_; refine x_blk ?_; refine ret0 (.inl rfl) rfl ?_
          have e : putI st x = (if textOk x.text then st.1 ++ (x.text ++ [0]) else st.1, if textOk x.text then st.2 else true) := by rw [putI, if_neg c2, if_neg c5, if_neg c8, if_pos c11]
          rw [e]
          exact ⟨rfl, WP.two b1 d y1 ⟨vb', w', s1⟩ r4⟩
        · refine c_skip ?_
          refine x_blk ?_; refine ret0 (.inl rfl) rfl ?_
          have e : putI st x = st := by rw [putI, if_neg c2, if_neg c5, if_neg c8, if_neg c11]
          rw [e]
          exact ⟨rfl, vb, vq, w1, b1, d, y1⟩

theorem putI_len (st : List UInt8 × Bool) (x : Item) : (putI st x).1.length ≤ st.1.length + 100 := by
  have hc := cg_len 10 x.n
  unfold putI
  split
  · simp
  · split
    · simp only
      split
      · unfold compact; simp; omega
      · simp
    · split
      · simp [wordb]
      · split
        · simp only
          split
          · rename_i ht; have := ht.1; simp; omega
          · simp
        · simp

set_option maxHeartbeats 800000 in
theorem Writes_fn (a : Option Addr) (xs : List Item) (c : Nat) (h : Heap) (hx : ItemsAt h a xs) :
    Does Try.prog 4 [.slice a xs.length c] h (fun v h' => v = .bool true ∧ Ext h h') := by
  refine fn_enter (N := 61) Try.func4 (by kernel_rfl) rfl rfl rfl (fun w0 => ?_)
  refine c_seq ?_; refine c_reg ?_; refine asg rfl rfl ?_; refine o_nil ?_; refine x_seq ?_; refine c_seq ?_; refine c_reg ?_
  refine cl (vs := []) rfl (Write_fn h) rfl (fun v1 h1 r1 => ?_)
  obtain ⟨rfl, w1, x1⟩ := r1
  refine bld (vs := []) (v := .agg #[.slice none 0 0, .bool false]) rfl (fun _ => by kernel_rfl) rfl (bx rfl nofun rfl (fun h2 n2 => ?_))
  have wp2 : WP h h2 h.size h1.size ([], false) := by
    have hs := x1.size
    have hw := w1.lt
    exact ⟨_, _, w1.ext n2.ext, ⟨n2.at_, Owns.nil _ _ _, by simp [ownB, Value.ownBlock]⟩, ⟨by omega, by omega, hs, fun k hk => by simp [ownB, Value.ownBlock] at hk, fun k hk => by simp [ownB, Value.ownBlock] at hk⟩, x1.trans n2.ext⟩
  generalize hp : h.size = p at *
  generalize hq : h1.size = q at *
  refine asg rfl rfl (asg rfl rfl ?_)
  refine o_nil ?_; refine x_seq ?_; refine c_seq ?_; refine c_seq ?_; refine c_reg ?_; refine mv rfl rfl (eqpn rfl rfl rfl ?_)
  refine o_nil ?_; refine x_seq ?_; refine c_f rfl (by simp) ?_; refine c_skip ?_; refine x_seq ?_; refine c_seq ?_; refine c_seq ?_; refine c_reg ?_
  refine asg rfl rfl ?_; refine o_nil ?_; refine x_seq ?_; refine c_blk ?_
  refine c_loop (α := Nat × (List UInt8 × Bool) × Heap) (fun y => [(0, .slice a xs.length c), (3, ptr p 0), (4, ptr q 0), (5, i64 (y.1 : Nat))]) (fun y => y.2.2)
    (fun y => y.1 ≤ 200 ∧ y.1 ≤ xs.length ∧ y.2.1.1.length ≤ 100 * y.1 ∧ WP h y.2.2 p q y.2.1) (fun y => xs.length - y.1) (0, ([], false), h2) ⟨by simp, by simp, by simp, wp2⟩ ⟨rfl, rfl, rfl, rfl, trivial⟩ rfl (fun y hy => ?_)
  obtain ⟨i, st, h4⟩ := y
  obtain ⟨hi2, hi, hlen, wp4⟩ := hy
  simp only at hi2 hi hlen wp4
  refine c_seq ?_
  refine c_cut (α := Unit) (fun _ => [(0, .slice a xs.length c), (3, ptr p 0), (4, ptr q 0), (5, i64 (i : Nat)), (22, .bool (decide (i < xs.length ∧ i < 200)))]) (fun _ => h4) (fun _ => True) ?_ ?_
  · refine c_reg ?_; refine mv rfl rfl (mv rfl rfl (lnl rfl rfl (lti rfl rfl rfl (mv rfl rfl ?_))))
    refine cs 19 rfl (fun c3 => ?_) (fun c3 => ?_)
    · have c3' : (i : Int) < xs.length := c3
      refine gd rfl rfl (mv rfl rfl (gd rfl rfl (lti rfl rfl rfl (pkt rfl rfl rfl ?_))))
      refine o_nil ?_
      refine x_cut () trivial ⟨rfl, rfl, rfl, rfl, ?_, trivial⟩ rfl
      have : ((i : Int) < 200) ↔ (i < xs.length ∧ i < 200) := by omega
      exact congrArg some (congrArg Value.bool (decide_eq_decide.2 this))
    · have c3' : ¬ (i : Int) < xs.length := c3
      refine gs rfl rfl rfl rfl (gs rfl rfl rfl rfl (pkf rfl rfl rfl ?_))
      refine o_nil ?_
      exact x_cut () trivial ⟨rfl, rfl, rfl, rfl, by rw [decide_eq_false (show ¬ (i < xs.length ∧ i < 200) from fun e => by omega)]; rfl, trivial⟩ rfl
  intro _ _
  refine c_cond rfl (fun c4 => ?_) (fun c4 => ?_)
  · obtain ⟨hil, hi200⟩ := c4
    have hgi : xs[i]? = some xs[i] := List.getElem?_eq_getElem hil
    generalize xs[i] = x at *
    obtain ⟨hn, b, o, rfl, hbs, k0, k1, k2⟩ := hx i x hgi
    have x4 : Ext h h4 := by obtain ⟨_, _, _, _, _, e⟩ := wp4; exact e
    have k0 := x4.cell k0 (fun e => e)
    have k1 := x4.cell k1 (fun e => e)
    have k2 := x4.cell k2 (fun e => e)
    have row : Go.Eng.rowAt h4 b (o + i * 3) [i64 x.kind, i64 x.n, str x.text] := fun j v hv => by
      match j with
      | 0 => simp at hv; subst hv; exact k0
      | 1 => simp at hv; subst hv; exact k1
      | 2 => simp at hv; subst hv; exact k2
      | j + 3 => simp at hv
    refine c_skip ?_
    refine x_seq ?_; refine c_seq ?_; refine c_blk ?_; refine c_seq ?_; refine c_seq ?_; refine c_reg ?_
    refine mv rfl rfl (mv rfl rfl (ixs rfl rfl (by omega) rfl (fa rfl rfl (ld rfl k2 rfl (lns rfl rfl (gti rfl rfl rfl ?_))))))
    refine o_nil ?_; refine x_seq ?_; refine c_cond rfl (fun c5 => ?_) (fun c5 => ?_)
    · refine c_seq ?_
      refine c_reg ?_; refine cl (vs := []) rfl (wakes_fn _) rfl (fun v6 h6 r6 => ?_)
      obtain ⟨rfl, x6⟩ := r6
      refine asg rfl rfl ?_; refine o_nil ?_; refine x_seq ?_; refine c_ret ?_; refine x_seq_ret ?_; refine x_blk_ret ?_; refine x_seq_ret ?_
      refine x_loop_ret ?_; refine x_blk_ret ?_; refine x_seq_ret ?_; refine ret1 (.inr rfl) rfl rfl ?_
      exact ⟨rfl, x4.trans x6⟩
    · refine c_skip ?_
      refine x_seq ?_; refine c_reg ?_
      refine mv rfl rfl (mv rfl rfl (mv rfl rfl (mv rfl rfl (ixs rfl rfl (by omega) rfl (ldn rfl rfl row rfl (cl (vs := [ptr p 0, ptr q 0, itemV x]) rfl (put_fn2 wp4 (by omega) x hn) rfl (fun v7 h7 r7 => ?_)))))))
      obtain ⟨rfl, wp7⟩ := r7
      have hl7 := putI_len st x
      refine o_nil ?_; refine x_blk ?_; refine x_seq ?_; refine c_reg ?_; refine mv rfl rfl (add rfl rfl (by omega) rfl (asg rfl rfl ?_))
      refine o_nil ?_
      exact x_loop (i + 1, putI st x, h7) ⟨by simp only; omega, hil, by simp only; omega, wp7⟩ (by simp only; omega) ⟨rfl, rfl, rfl, rfl, trivial⟩ rfl
  · obtain ⟨vb, vq, w, b, d, x4⟩ := wp4
    refine c_exit ?_
    refine x_seq_exit ?_; refine x_loop_exit ?_; refine x_blk_hit ?_; refine x_seq ?_; refine c_seq ?_; refine c_reg ?_
    refine mv rfl rfl (cl (vs := [ptr p 0]) rfl (Bytes_fn w) rfl (fun v8 h8 r8 => ?_))
    obtain ⟨rfl, rfl⟩ := r8
    refine mv rfl rfl (ext rfl rfl rfl (ext rfl rfl rfl (asg rfl rfl (asg rfl rfl ?_))))
    refine o_nil ?_; refine x_seq ?_; refine c_seq ?_; refine c_reg ?_
    refine mv rfl rfl (cl (vs := [ptr q 0]) rfl (QBytes_fn b) rfl (fun v9 h9 r9 => ?_))
    obtain ⟨rfl, rfl⟩ := r9
    refine mv rfl rfl (ext rfl rfl rfl (ext rfl rfl rfl (asg rfl rfl (asg rfl rfl ?_))))
    refine o_nil ?_; refine x_seq ?_; refine c_seq ?_; refine c_reg ?_; refine mv rfl rfl (mv rfl rfl (eqs rfl rfl rfl (mv rfl rfl ?_)))
    refine ct 53 rfl rfl ?_
    refine gd rfl rfl (mv rfl rfl (gd rfl rfl (mv rfl rfl (gd rfl rfl (eqi rfl rfl rfl (pkt rfl rfl rfl (mv rfl rfl ?_)))))))
    refine ct 58 rfl rfl ?_
    refine gd rfl rfl (cl (vs := []) rfl (wakes_fn _) rfl (fun v12 h12 r12 => ?_))
    obtain ⟨rfl, x12⟩ := r12
    refine pkt rfl rfl rfl (asg rfl rfl ?_)
    refine o_nil ?_; refine x_seq ?_; refine c_ret ?_; refine ret1 (.inr rfl) rfl rfl ?_
    exact ⟨rfl, x4.trans x12⟩
end Go.Proofs.Ytkgmgnjgplabhaa
