/- The walks of the reference's reading of a count, a flag, an object. The walk of the reference's reading of an object. The walk of the reference's reading of a type. No condition but what each theorem says. -/
import Derived.Test.YtgnkfegkdjfnjaaGreatSqa
import Derived.Test.YtgnkfegkdjfnjaaGreatRwq
namespace Go.Proofs.YtgnkfegkdjfnjaaGreat
/-! The walks of the reference's reading of a count, a flag, an object. No condition but what each theorem says. -/
section
open Go Go.Eng

/-- the reference's reader at block x, over its Reader at block q -/
structure RdX (h : Heap) (x q : Nat) (s : Bytes) (p : PS) : Prop where
  blk : h[x]? = some (.cells #[ptr q 0] 64 (0, 0))
  rd : R.RQ h q s p.1 p.2
  ne : x ≠ q
theorem RdX.mod {S : Nat → Prop} {h h' : Heap} {x q : Nat} {s : Bytes} {p : PS} (r : RdX h x q s p) (m : Go.Eng.Mod S h h') (hx : ¬ S x) (hq : ¬ S q) : RdX h' x q s p := ⟨m.get r.blk hx, r.rd.mod m hq, r.ne⟩
theorem RdX.to {h h' : Heap} {x q : Nat} {s : Bytes} {p p' : PS} (r : RdX h x q s p) (a : R.QAfter h q s p'.1 p'.2 h') : RdX h' x q s p' ∧ Go.Eng.Mod (· = q) h h' := ⟨⟨a.2.get r.blk r.ne, a.1, r.ne⟩, a.2⟩
theorem RdX.lx {h : Heap} {x q : Nat} {s : Bytes} {p : PS} (r : RdX h x q s p) : x < h.size := lt_of_get r.blk
theorem RdX.lq {h : Heap} {x q : Nat} {s : Bytes} {p : PS} (r : RdX h x q s p) : q < h.size := lt_of_get r.rd.blk
theorem RdX.cell {h : Heap} {x q : Nat} {s : Bytes} {p : PS} (r : RdX h x q s p) : cellAt h x 0 = some (ptr q 0) := Go.Eng.cell r.blk rfl
variable {h : Heap} {x q : Nat} {s : Bytes} {p : PS}
theorem xbyte_fn (r : RdX h x q s p) : Does Tryz.prog 53 [ptr q 0] h (fun v h' => v = i64 (pByte s p).1 ∧ RdX h' x q s (pByte s p).2 ∧ Go.Eng.Mod (· = q) h h') := (R.QByteR_fn r.rd).mono fun _ _ a => ⟨a.1, r.to (p' := (pByte s p).2) a.2⟩
theorem xtext_fn (r : RdX h x q s p) : Does Tryz.prog 24 [ptr q 0] h (fun v h' => v = str (pText s p).1 ∧ RdX h' x q s (pText s p).2 ∧ Go.Eng.Mod (· = q) h h') := (R.QTextR_fn r.rd).mono fun _ _ a => ⟨a.1, r.to (p' := (pText s p).2) a.2⟩
theorem xnum_fn (r : RdX h x q s p) : Does Tryz.prog 51 [ptr q 0] h (fun v h' => v = i64 (pNum s p).1 ∧ RdX h' x q s (pNum s p).2 ∧ Go.Eng.Mod (· = q) h h') := (R.QNumR_fn r.rd).mono fun _ _ a => ⟨a.1, r.to (p' := (pNum s p).2) a.2⟩
theorem xword_fn (r : RdX h x q s p) : Does Tryz.prog 25 [ptr q 0] h (fun v h' => v = .int .u32 (pWord s p).1 ∧ RdX h' x q s (pWord s p).2 ∧ Go.Eng.Mod (· = q) h h') := (R.QWordR_fn r.rd).mono fun _ _ a => ⟨a.1, r.to (p' := (pWord s p).2) a.2⟩
theorem xspoil_fn (r : RdX h x q s p) : Does Tryz.prog 52 [ptr q 0] h (fun v h' => v = .tuple #[] ∧ RdX h' x q s (p.1, true) ∧ Go.Eng.Mod (· = q) h h') := by
  have b0 := r.rd.blk
  refine fn_enter (N := 5) Tryz.func52 (by kernel_rfl) rfl rfl rfl (fun w0 => ?_)
  refine c_reg ?_; refine mv rfl rfl (nck rfl rfl (fa rfl rfl (st rfl rfl rfl b0 rfl nofun (fun h1 u1 => ?_))))
  have s1 : h1.size = h.size := u1.size
  refine o_nil ?_; refine ret0 (.inl rfl) rfl ?_
  exact ⟨rfl, ⟨u1.mod.get r.blk r.ne, ⟨u1.at_, r.rd.le, r.rd.len⟩, r.ne⟩, u1.mod⟩
theorem xbad_fn (r : RdX h x q s p) : Does Tryz.prog 27 [ptr q 0] h (fun v h' => h' = h ∧ v = .bool p.2) := R.QBad_fn r.rd
theorem xend_fn (r : RdX h x q s p) : Does Tryz.prog 30 [ptr q 0] h (fun v h' => h' = h ∧ v = .bool (decide (p.2 = false ∧ p.1 = s.length))) := R.QEnd_fn r.rd
/-- a reader whose blocks were there at h0; nothing else of h0 has changed -/
structure RdK (h0 : Heap) (x q : Nat) (s : Bytes) (p : PS) (h : Heap) : Prop where
  rx : RdX h x q s p
  m : Go.Eng.Mod (· = q) h0 h
  lx : x < h0.size
  lq : q < h0.size
theorem RdK.start (r : RdX h x q s p) : RdK h x q s p h := ⟨r, Go.Eng.Mod.refl _ _, r.lx, r.lq⟩
theorem RdK.n {h0 : Heap} (k : RdK h0 x q s p h) : h0.size ≤ h.size := k.m.size
theorem RdK.ext {h0 h' : Heap} (k : RdK h0 x q s p h) (e : Ext h h') : RdK h0 x q s p h' := ⟨k.rx.mod (e.mod (fun _ => False)) (fun e => e) (fun e => e), k.m.trans (e.mod _), k.lx, k.lq⟩
theorem RdK.upd {h0 h' : Heap} {b : Nat} {c : Obj} (k : RdK h0 x q s p h) (u : Upd h b c h') (hb : h0.size ≤ b) : RdK h0 x q s p h' :=
  ⟨k.rx.mod u.mod (fun e => by have e : x = b := e; have := k.lx; omega) (fun e => by have e : q = b := e; have := k.lq; omega), k.m.upd u (.inr hb), k.lx, k.lq⟩
theorem RdK.call {h0 h' : Heap} {p' : PS} (k : RdK h0 x q s p h) (r : RdX h' x q s p' ∧ Go.Eng.Mod (· = q) h h') : RdK h0 x q s p' h' := ⟨r.1, k.m.trans r.2, k.lx, k.lq⟩
theorem RdK.app {S : Nat → Prop} {h0 h' : Heap} (k : RdK h0 x q s p h) (m : Go.Eng.Mod S h h') (hS : ∀ b, S b → h0.size ≤ b) : RdK h0 x q s p h' :=
  ⟨k.rx.mod m (fun e => by have := hS _ e; have := k.lx; omega) (fun e => by have := hS _ e; have := k.lq; omega), k.m.andMod m (fun b e => .inr (hS b e)), k.lx, k.lq⟩
theorem xcount_fn (r : RdX h x q s p) (most : Int) : Does Tryz.prog 26 [ptr x 0, i64 most] h (fun v h' => v = i64 (rCount s most p).1 ∧ RdX h' x q s (rCount s most p).2 ∧ Go.Eng.Mod (· = q) h h') := by
  have k0 := RdK.start r
  refine fn_enter (N := 24) Tryz.func26 (by kernel_rfl) rfl rfl rfl (fun w0 => ?_)
  refine c_seq ?_; refine c_reg ?_; refine asg rfl rfl ?_; refine o_nil ?_; refine x_seq ?_; refine c_seq ?_; refine c_reg ?_
  refine mv rfl rfl (nck rfl rfl (fa rfl rfl (ld rfl k0.rx.cell rfl (cl (vs := [ptr q 0]) rfl (xnum_fn k0.rx) rfl (fun v1 h1 r1 => ?_)))))
  obtain ⟨rfl, r1⟩ := r1
  have s1 : h.size ≤ h1.size := r1.2.size
  have k_1 := k0.call r1
  refine asg rfl rfl ?_; refine o_nil ?_; refine x_seq ?_
  refine c_seq ?_; refine c_seq ?_; refine c_reg ?_
  refine mv rfl rfl (lti rfl rfl rfl (mv rfl rfl (gqf rfl rfl rfl (fun e => mv rfl rfl) (gqf rfl rfl rfl (fun e => mv rfl rfl) (gqf rfl rfl rfl (fun e => gti (cg rfl e) (cg rfl e) rfl) ?_)))))
  refine pko rfl rfl rfl rfl ?_; refine o_nil ?_; refine x_seq ?_; refine c_cond rfl (fun c2 => ?_) (fun c2 => ?_)
  · refine c_seq ?_; refine c_reg ?_
    refine mv rfl rfl (nck rfl rfl (fa rfl rfl (ld rfl k_1.rx.cell rfl (cl (vs := [ptr q 0]) rfl (xspoil_fn k_1.rx) rfl (fun v3 h3 r3 => ?_)))))
    obtain ⟨rfl, r3⟩ := r3
    have s3 : h1.size ≤ h3.size := r3.2.size
    have k_3 := k_1.call r3
    refine o_nil ?_; refine x_seq ?_; refine c_seq ?_; refine c_reg ?_; refine asg rfl rfl ?_; refine o_nil ?_; refine x_seq ?_; refine c_ret ?_
    refine x_seq_ret ?_; refine ret1 (.inr rfl) rfl rfl ?_
    have e : rCount s most p = (0, (pNum s p).2.1, true) := if_pos c2
    rw [e]
    exact ⟨rfl, (k_3).rx, (k_3).m⟩
  · refine c_skip ?_; refine x_seq ?_; refine c_seq ?_; refine c_reg ?_; refine mv rfl rfl (asg rfl rfl ?_)
    refine o_nil ?_; refine x_seq ?_; refine c_ret ?_; refine ret1 (.inr rfl) rfl rfl ?_
    have e : rCount s most p = pNum s p := if_neg c2
    rw [e]
    exact ⟨rfl, (k_1).rx, (k_1).m⟩
theorem xflag_fn (r : RdX h x q s p) : Does Tryz.prog 54 [ptr x 0] h (fun v h' => v = .bool (rFlag s p).1 ∧ RdX h' x q s (rFlag s p).2 ∧ Go.Eng.Mod (· = q) h h') := by
  have k0 := RdK.start r
  refine fn_enter (N := 18) Tryz.func54 (by kernel_rfl) rfl rfl rfl (fun w0 => ?_)
  refine c_seq ?_; refine c_reg ?_; refine asg rfl rfl ?_; refine o_nil ?_; refine x_seq ?_; refine c_seq ?_; refine c_reg ?_
  refine mv rfl rfl (nck rfl rfl (fa rfl rfl (ld rfl k0.rx.cell rfl (cl (vs := [ptr q 0]) rfl (xbyte_fn k0.rx) rfl (fun v1 h1 r1 => ?_)))))
  obtain ⟨rfl, r1⟩ := r1
  have s1 : h.size ≤ h1.size := r1.2.size
  have k_1 := k0.call r1
  refine asg rfl rfl ?_; refine o_nil ?_; refine x_seq ?_
  refine c_seq ?_; refine c_seq ?_; refine c_reg ?_; refine mv rfl rfl (gti rfl rfl rfl ?_)
  refine o_nil ?_; refine x_seq ?_; refine c_cond rfl (fun c2 => ?_) (fun c2 => ?_)
  · refine c_reg ?_
    refine mv rfl rfl (nck rfl rfl (fa rfl rfl (ld rfl k_1.rx.cell rfl (cl (vs := [ptr q 0]) rfl (xspoil_fn k_1.rx) rfl (fun v3 h3 r3 => ?_)))))
    obtain ⟨rfl, r3⟩ := r3
    have s3 : h1.size ≤ h3.size := r3.2.size
    have k_3 := k_1.call r3
    refine o_nil ?_; refine x_seq ?_; refine c_seq ?_; refine c_reg ?_; refine mv rfl rfl (eqi rfl rfl rfl (asg rfl rfl ?_))
    refine o_nil ?_; refine x_seq ?_; refine c_ret ?_; refine ret1 (.inr rfl) rfl rfl ?_
    have e : rFlag s p = (decide ((pByte s p).1 = 1), (pByte s p).2.1, true) := by
     unfold rFlag; rw [if_pos c2]
    rw [e]
    exact ⟨rfl, (k_3).rx, (k_3).m⟩
  · refine c_skip ?_; refine x_seq ?_; refine c_seq ?_; refine c_reg ?_; refine mv rfl rfl (eqi rfl rfl rfl (asg rfl rfl ?_))
    refine o_nil ?_; refine x_seq ?_; refine c_ret ?_; refine ret1 (.inr rfl) rfl rfl ?_
    have e : rFlag s p = (decide ((pByte s p).1 = 1), (pByte s p).2) := by
     unfold rFlag; rw [if_neg c2]
    rw [e]
    exact ⟨rfl, (k_1).rx, (k_1).m⟩
end

/-! The walk of the reference's reading of an object. No condition but what each theorem says. -/
section
open Go Go.Eng

theorem xword1_fn {n : Int} (hn : in64 n) (h : Heap) : Does Tryz.prog 55 [i64 n] h (fun v h' => h' = h ∧ v = .int .u32 (IntKind.u32.wrap n)) := by
  have hn' : -9223372036854775808 ≤ n ∧ n ≤ 9223372036854775807 := hn
  have ht : n.tmod 4294967296 = n - 4294967296 * n.tdiv 4294967296 := by have := Int.mul_tdiv_add_tmod n 4294967296; omega
  have h1 := Int.tmod_lt_of_pos n (show (0 : Int) < 4294967296 by decide)
  have h2 : -4294967296 < n.tmod 4294967296 := by
    have h3 := Int.tmod_lt_of_pos (-n) (show (0 : Int) < 4294967296 by decide)
    rw [Int.neg_tmod] at h3
    omega
  refine fn_enter (N := 11) Tryz.func55 (by kernel_rfl) rfl rfl rfl (fun w0 => ?_)
  refine c_seq ?_; refine c_reg ?_; refine asg rfl rfl ?_; refine o_nil ?_; refine x_seq ?_; refine c_seq ?_; refine c_reg ?_
  refine mv rfl rfl (rem rfl rfl (by decide) rfl (asg rfl rfl ?_))
  refine o_nil ?_; refine x_seq ?_
  refine c_seq ?_; refine c_seq ?_; refine c_reg ?_; refine mv rfl rfl (lti rfl rfl rfl ?_)
  refine o_nil ?_; refine x_seq ?_; refine c_cond rfl (fun c1 => ?_) (fun c1 => ?_)
  · refine c_reg ?_; refine mv rfl rfl (add rfl rfl (by omega) rfl (asg rfl rfl ?_))
    refine o_nil ?_; refine x_seq ?_; refine c_seq ?_; refine c_reg ?_; refine mv rfl rfl (cvi rfl rfl (asg rfl rfl ?_))
    refine o_nil ?_; refine x_seq ?_; refine c_ret ?_; refine ret1 (.inr rfl) rfl rfl ?_
    refine ⟨rfl, congrArg (Value.int .u32) ?_⟩
    simp only [IntKind.wrap, IntKind.bits, IntKind.signed]
    simp
    omega
  · refine c_skip ?_; refine x_seq ?_; refine c_seq ?_; refine c_reg ?_; refine mv rfl rfl (cvi rfl rfl (asg rfl rfl ?_))
    refine o_nil ?_; refine x_seq ?_; refine c_ret ?_; refine ret1 (.inr rfl) rfl rfl ?_
    refine ⟨rfl, congrArg (Value.int .u32) ?_⟩
    simp only [IntKind.wrap, IntKind.bits, IntKind.signed]
    simp
    omega
variable {h : Heap} {x q : Nat} {s : Bytes} {p : PS}
set_option maxHeartbeats 1000000 in
theorem xobj_fn (r : RdX h x q s p) : Does Tryz.prog 29 [ptr x 0] h (fun v h' => v = objV (pOb s p).1 ∧ RdX h' x q s (pOb s p).2 ∧ Go.Eng.Mod (· = q) h h') := by
  have k0 := RdK.start r
  have lx := k0.lx
  have lq := k0.lq
  refine fn_enter (N := 61) Tryz.func29 (by kernel_rfl) rfl rfl rfl (fun w0 => ?_)
  refine c_seq ?_; refine c_reg ?_; refine alc nofun rfl (fun h1 n1 => ?_)
  have s1 : h1.size = h.size + 1 := n1.size
  have k_1 := k0.ext n1.ext
  have b2_1 := n1.at_
  refine o_nil ?_; refine x_seq ?_; refine c_seq ?_; refine c_reg ?_
  refine mv rfl rfl (nck rfl rfl (fa rfl rfl (ld rfl k_1.rx.cell rfl (cl (vs := [ptr q 0]) rfl (xbyte_fn k_1.rx) rfl (fun v2 h2 r2 => ?_)))))
  obtain ⟨rfl, r2⟩ := r2
  have s2 : h1.size ≤ h2.size := r2.2.size
  have k_2 := k_1.call r2
  have b2_2 := r2.2.get b2_1 (fun e => by have e : _ = q := e; omega)
  refine bld (vs := [(0, i64 (pByte s p).1)]) (v := .agg #[i64 (pByte s p).1, str [], i64 0, i64 0, i64 0, str [], i64 0]) rfl (fun _ => by kernel_rfl) rfl (alc nofun rfl (fun h3 n3 => ?_))
  have s3 : h3.size = h2.size + 1 := n3.size
  have k_3 := k_2.ext n3.ext
  have b2_3 := n3.ext.get b2_2
  have b3_3 := n3.at_
  refine stw rfl rfl rfl (ones rfl) b3_3 rfl nofun (fun h4 u4 => ?_)
  have s4 : h4.size = h3.size := u4.size
  have k_4 := k_3.upd u4 (by omega)
  have b2_4 := u4.ne b2_3 (by omega)
  have b3_4 := u4.at_
  refine o_nil ?_; refine x_seq ?_; refine c_seq ?_; refine c_reg ?_
  refine mv rfl rfl (nck rfl rfl (fa rfl rfl (ld rfl k_4.rx.cell rfl (cl (vs := [ptr q 0]) rfl (xtext_fn k_4.rx) rfl (fun v5 h5 r5 => ?_)))))
  obtain ⟨rfl, r5⟩ := r5
  have s5 : h4.size ≤ h5.size := r5.2.size
  have k_5 := k_4.call r5
  have b2_5 := r5.2.get b2_4 (fun e => by have e : _ = q := e; omega)
  have b3_5 := r5.2.get b3_4 (fun e => by have e : _ = q := e; omega)
  refine fa rfl rfl (st rfl rfl rfl b3_5 rfl nofun (fun h6 u6 => ?_))
  have s6 : h6.size = h5.size := u6.size
  have k_6 := k_5.upd u6 (by omega)
  have b2_6 := u6.ne b2_5 (by omega)
  have b3_6 := u6.at_
  refine o_nil ?_; refine x_seq ?_; refine c_seq ?_; refine c_reg ?_
  refine mv rfl rfl (nck rfl rfl (fa rfl rfl (ld rfl k_6.rx.cell rfl (cl (vs := [ptr q 0]) rfl (xnum_fn k_6.rx) rfl (fun v7 h7 r7 => ?_)))))
  obtain ⟨rfl, r7⟩ := r7
  have s7 : h6.size ≤ h7.size := r7.2.size
  have k_7 := k_6.call r7
  have b2_7 := r7.2.get b2_6 (fun e => by have e : _ = q := e; omega)
  have b3_7 := r7.2.get b3_6 (fun e => by have e : _ = q := e; omega)
  refine fa rfl rfl (st rfl rfl rfl b3_7 rfl nofun (fun h8 u8 => ?_))
  have s8 : h8.size = h7.size := u8.size
  have k_8 := k_7.upd u8 (by omega)
  have b2_8 := u8.ne b2_7 (by omega)
  have b3_8 := u8.at_
  refine o_nil ?_; refine x_seq ?_; refine c_seq ?_; refine c_reg ?_
  refine mv rfl rfl (nck rfl rfl (fa rfl rfl (ld rfl k_8.rx.cell rfl (cl (vs := [ptr q 0]) rfl (xbyte_fn k_8.rx) rfl (fun v9 h9 r9 => ?_)))))
  obtain ⟨rfl, r9⟩ := r9
  have s9 : h8.size ≤ h9.size := r9.2.size
  have k_9 := k_8.call r9
  have b2_9 := r9.2.get b2_8 (fun e => by have e : _ = q := e; omega)
  have b3_9 := r9.2.get b3_8 (fun e => by have e : _ = q := e; omega)
  refine fa rfl rfl (fa rfl rfl (st rfl rfl rfl b3_9 rfl nofun (fun h10 u10 => ?_)))
  have s10 : h10.size = h9.size := u10.size
  have k_10 := k_9.upd u10 (by omega)
  have b2_10 := u10.ne b2_9 (by omega)
  have b3_10 := u10.at_
  refine o_nil ?_; refine x_seq ?_; refine c_seq ?_; refine c_reg ?_
  refine mv rfl rfl (nck rfl rfl (fa rfl rfl (ld rfl k_10.rx.cell rfl (cl (vs := [ptr q 0]) rfl (xnum_fn k_10.rx) rfl (fun v11 h11 r11 => ?_)))))
  obtain ⟨rfl, r11⟩ := r11
  have s11 : h10.size ≤ h11.size := r11.2.size
  have k_11 := k_10.call r11
  have b2_11 := r11.2.get b2_10 (fun e => by have e : _ = q := e; omega)
  have b3_11 := r11.2.get b3_10 (fun e => by have e : _ = q := e; omega)
  refine fa rfl rfl (fa rfl rfl (st rfl rfl rfl b3_11 rfl nofun (fun h12 u12 => ?_)))
  have s12 : h12.size = h11.size := u12.size
  have k_12 := k_11.upd u12 (by omega)
  have b2_12 := u12.ne b2_11 (by omega)
  have b3_12 := u12.at_
  refine o_nil ?_; refine x_seq ?_
  refine c_seq ?_; refine c_seq ?_; refine c_reg ?_; refine fa rfl rfl (fa rfl rfl (ld rfl (cell b3_12 rfl) rfl (eqi rfl rfl rfl ?_)))
  refine o_nil ?_; refine x_seq ?_; refine c_cond rfl (fun c13 => ?_) (fun c13 => ?_)
  · refine c_reg ?_
    refine fa rfl rfl (fa rfl rfl (ld rfl (cell b3_12 rfl) rfl (cl (vs := [i64 (pNum s (pByte s (pNum s (pText s (pByte s p).2).2).2).2).1]) rfl ((xword1_fn (pNum_in _ _) _)) rfl (fun v14 h14 r14 => ?_))))
    obtain ⟨rfl, rfl⟩ := r14
    have hw : IntKind.i64.wrap (IntKind.u32.wrap (pNum s (pByte s (pNum s (pText s (pByte s p).2).2).2).2).1) = IntKind.u32.wrap (pNum s (pByte s (pNum s (pText s (pByte s p).2).2).2).2).1 := by
     refine w64 ?_
     simp only [IntKind.wrap, IntKind.bits, IntKind.signed]
     simp
     omega
    have k_14 := (k_12)
    have b2_14 := (b2_12)
    have b3_14 := (b3_12)
    refine cvi rfl rfl (fa rfl rfl (fa rfl rfl (st rfl rfl rfl b3_14 rfl nofun (fun h15 u15 => ?_))))
    have s15 : h15.size = h14.size := u15.size
    have k_15 := k_14.upd u15 (by omega)
    have b2_15 := u15.ne b2_14 (by omega)
    have b3_15 := u15.at_
    refine o_nil ?_; refine x_seq ?_; refine c_seq ?_; refine c_reg ?_
    refine mv rfl rfl (nck rfl rfl (fa rfl rfl (ld rfl k_15.rx.cell rfl (cl (vs := [ptr q 0]) rfl (xtext_fn k_15.rx) rfl (fun v16 h16 r16 => ?_)))))
    obtain ⟨rfl, r16⟩ := r16
    have s16 : h15.size ≤ h16.size := r16.2.size
    have k_16 := k_15.call r16
    have b2_16 := r16.2.get b2_15 (fun e => by have e : _ = q := e; omega)
    have b3_16 := r16.2.get b3_15 (fun e => by have e : _ = q := e; omega)
    refine fa rfl rfl (fa rfl rfl (st rfl rfl rfl b3_16 rfl nofun (fun h17 u17 => ?_)))
    have s17 : h17.size = h16.size := u17.size
    have k_17 := k_16.upd u17 (by omega)
    have b2_17 := u17.ne b2_16 (by omega)
    have b3_17 := u17.at_
    refine o_nil ?_; refine x_seq ?_; refine c_seq ?_; refine c_reg ?_
    refine mv rfl rfl (nck rfl rfl (fa rfl rfl (ld rfl k_17.rx.cell rfl (cl (vs := [ptr q 0]) rfl (xnum_fn k_17.rx) rfl (fun v18 h18 r18 => ?_)))))
    obtain ⟨rfl, r18⟩ := r18
    have s18 : h17.size ≤ h18.size := r18.2.size
    have k_18 := k_17.call r18
    have b2_18 := r18.2.get b2_17 (fun e => by have e : _ = q := e; omega)
    have b3_18 := r18.2.get b3_17 (fun e => by have e : _ = q := e; omega)
    refine fa rfl rfl (st rfl rfl rfl b3_18 rfl nofun (fun h19 u19 => ?_))
    have s19 : h19.size = h18.size := u19.size
    have k_19 := k_18.upd u19 (by omega)
    have b2_19 := u19.ne b2_18 (by omega)
    have b3_19 := u19.at_
    refine o_nil ?_; refine x_seq ?_; refine c_seq ?_; refine c_reg ?_
    refine ldn rfl rfl (row_blk b3_19) rfl (stw rfl rfl rfl (ones rfl) b2_19 rfl nofun (fun h20 u20 => ?_))
    have s20 : h20.size = h19.size := u20.size
    have k_20 := k_19.upd u20 (by omega)
    have b3_20 := u20.ne b3_19 (by omega)
    have b2_20 := u20.at_
    refine o_nil ?_; refine x_seq ?_; refine c_ret ?_; refine retc1 (.inr rfl) rfl rfl rfl (row_blk b2_20) ?_
    refine ⟨?_, (k_20).rx, (k_20).m⟩
    rw [hw]
    show _ = objV _
    have c13 : (pByte s (pNum s (pText s (pByte s p).2).2).2).1 = 4 := c13
    simp only [pOb, if_pos c13]
    rfl
  · refine c_skip ?_; refine x_seq ?_; refine c_seq ?_; refine c_reg ?_
    refine mv rfl rfl (nck rfl rfl (fa rfl rfl (ld rfl k_12.rx.cell rfl (cl (vs := [ptr q 0]) rfl (xtext_fn k_12.rx) rfl (fun v21 h21 r21 => ?_)))))
    obtain ⟨rfl, r21⟩ := r21
    have s21 : h12.size ≤ h21.size := r21.2.size
    have k_21 := k_12.call r21
    have b2_21 := r21.2.get b2_12 (fun e => by have e : _ = q := e; omega)
    have b3_21 := r21.2.get b3_12 (fun e => by have e : _ = q := e; omega)
    refine fa rfl rfl (fa rfl rfl (st rfl rfl rfl b3_21 rfl nofun (fun h22 u22 => ?_)))
    have s22 : h22.size = h21.size := u22.size
    have k_22 := k_21.upd u22 (by omega)
    have b2_22 := u22.ne b2_21 (by omega)
    have b3_22 := u22.at_
    refine o_nil ?_; refine x_seq ?_; refine c_seq ?_; refine c_reg ?_
    refine mv rfl rfl (nck rfl rfl (fa rfl rfl (ld rfl k_22.rx.cell rfl (cl (vs := [ptr q 0]) rfl (xnum_fn k_22.rx) rfl (fun v23 h23 r23 => ?_)))))
    obtain ⟨rfl, r23⟩ := r23
    have s23 : h22.size ≤ h23.size := r23.2.size
    have k_23 := k_22.call r23
    have b2_23 := r23.2.get b2_22 (fun e => by have e : _ = q := e; omega)
    have b3_23 := r23.2.get b3_22 (fun e => by have e : _ = q := e; omega)
    refine fa rfl rfl (st rfl rfl rfl b3_23 rfl nofun (fun h24 u24 => ?_))
    have s24 : h24.size = h23.size := u24.size
    have k_24 := k_23.upd u24 (by omega)
    have b2_24 := u24.ne b2_23 (by omega)
    have b3_24 := u24.at_
    refine o_nil ?_; refine x_seq ?_; refine c_seq ?_; refine c_reg ?_
    refine ldn rfl rfl (row_blk b3_24) rfl (stw rfl rfl rfl (ones rfl) b2_24 rfl nofun (fun h25 u25 => ?_))
    have s25 : h25.size = h24.size := u25.size
    have k_25 := k_24.upd u25 (by omega)
    have b3_25 := u25.ne b3_24 (by omega)
    have b2_25 := u25.at_
    refine o_nil ?_; refine x_seq ?_; refine c_ret ?_; refine retc1 (.inr rfl) rfl rfl rfl (row_blk b2_25) ?_
    refine ⟨?_, (k_25).rx, (k_25).m⟩
    have c13 : ¬ (pByte s (pNum s (pText s (pByte s p).2).2).2).1 = 4 := c13
    simp only [pOb, if_neg c13]
    rfl
end

/-! The walk of the reference's reading of a type. No condition but what each theorem says. -/
section
open Go Go.Eng

/-- so far i of n are read -/
def Mid {α : Type} (g : PS → α × PS) (n : Nat) (p0 : PS) (i : Nat) (xs : List α) (p : PS) : Prop := xs.length = i ∧ i ≤ n ∧ pMany g n p0 = (xs ++ (pMany g (n - i) p).1, (pMany g (n - i) p).2)
theorem Mid.start {α : Type} {g : PS → α × PS} {n : Nat} {p0 : PS} : Mid g n p0 0 [] p0 := ⟨rfl, Nat.zero_le _, rfl⟩
theorem Mid.step {α : Type} {g : PS → α × PS} {n i : Nat} {p0 p : PS} {xs : List α} (a : Mid g n p0 i xs p) (hi : i < n) (hb : p.2 = false) : Mid g n p0 (i + 1) (xs ++ [(g p).1]) (g p).2 := by
  obtain ⟨h1, h2, h3⟩ := a
  refine ⟨by simp [h1], hi, ?_⟩
  rw [h3, show n - i = (n - (i + 1)) + 1 by omega, pMany, if_neg (by rw [hb]; decide), List.append_assoc]
  rfl
theorem Mid.stop {α : Type} {g : PS → α × PS} {n i : Nat} {p0 p : PS} {xs : List α} (a : Mid g n p0 i xs p) (hb : ¬ (i < n ∧ p.2 = false)) : pMany g n p0 = (xs, p) := by
  obtain ⟨h1, h2, h3⟩ := a
  rw [h3]
  by_cases hi : i < n
  · have : p.2 = true := by cases e : p.2; exact absurd ⟨hi, e⟩ hb; rfl
    obtain ⟨k, hk⟩ : ∃ k, n - i = k + 1 := ⟨n - i - 1, by omega⟩
    rw [hk, pMany, if_pos this, List.append_nil]
  · rw [show n - i = 0 by omega, pMany, List.append_nil]
/-- a list in a block of its own -/
structure OwnQ {α : Type} (h : Heap) (E sz : Nat) (R : α → List Value → Prop) (b0 : Nat) (v : Value) (xs : List α) : Prop where
  o : OwnS h E sz R v xs
  b : ∀ b, ownB v b → b = b0
theorem OwnQ.mod {α : Type} {h h' : Heap} {E sz b0 : Nat} {R : α → List Value → Prop} {v : Value} {xs : List α} {S : Nat → Prop} (a : OwnQ h E sz R b0 v xs) (m : Go.Eng.Mod S h h') (hS : ¬ S b0) : OwnQ h' E sz R b0 v xs :=
  ⟨OwnS.mono a.o m (fun b e e' => hS (a.b b e ▸ e')) (fun _ _ w => w), a.b⟩
theorem own1 (v : Value) (d : Nat) : (∀ b, ownB v b → b = v.ownBlock.getD d) ∧ (ownB v (v.ownBlock.getD d) ∨ v.ownBlock.getD d = d) := by
  unfold ownB
  cases e : v.ownBlock with
  | none => exact ⟨(fun b h => by cases h), .inr rfl⟩
  | some k => exact ⟨(fun b h => by cases h; rfl), .inl rfl⟩
theorem rCount_in {s : Bytes} {most : Int} {p : PS} (h : 0 ≤ most) : 0 ≤ (rCount s most p).1 ∧ (rCount s most p).1 ≤ most := by
  unfold rCount
  split
  · exact ⟨Int.le_refl _, h⟩
  · omega
/-- a type's place before its lists, and the type with these lists -/
def tyP (s : Bytes) (p : PS) : PS := (pNum s (pNum s (pNum s (pNum s (pNum s (pText s (pText s (pByte s p).2).2).2).2).2).2).2).2
def tyOf (s : Bytes) (p : PS) (fs : List Fld) (ps : List Par) : Ty :=
  let a1 := pByte s p
  let a2 := pText s a1.2
  let a3 := pText s a2.2
  let a4 := pNum s a3.2
  let a5 := pNum s a4.2
  let a6 := pNum s a5.2
  let a7 := pNum s a6.2
  let a8 := pNum s a7.2
  ⟨a1.1, a2.1, a3.1, a4.1, a5.1, a6.1, fs, ps, a7.1, a8.1⟩
theorem rTy_eq {s : Bytes} {p pf : PS} {fs : List Fld} (h : rEach s 64 (rFld s) (tyP s p) = (fs, pf)) {ps : List Par} {pp : PS} (h' : rEach s 64 (rPar s) pf = (ps, pp)) : rTy s p = (tyOf s p fs ps, pp) := by
  unfold tyP at h
  simp only [rTy, h, h', tyOf]
def zTy : Array Value := #[i64 0, str [], str [], i64 0, i64 0, i64 0, .slice none 0 0, .slice none 0 0, i64 0, i64 0]
variable {h : Heap} {x q : Nat} {s : Bytes} {p : PS}
set_option maxHeartbeats 2000000 in
theorem xtyp_fn (r : RdX h x q s p) : Does Tryz.prog 28 [ptr x 0] h (fun v h' => ∃ vf vp, v = .agg (tyCells (rTy s p).1 vf vp).toArray ∧ OwnS h' 86 3 (fldR h') vf (rTy s p).1.fields ∧ OwnS h' 88 2 (parR h') vp (rTy s p).1.params ∧
      (∀ b, ownB vf b → h.size ≤ b) ∧ (∀ b, ownB vp b → h.size ≤ b) ∧ RdX h' x q s (rTy s p).2 ∧ Go.Eng.Mod (· = q) h h') := by
  have hmx : maxLen = 9223372036854775807 := by decide
  have k0 := RdK.start r
  have lx := k0.lx
  have lq := k0.lq
  have nxq := r.ne
  refine fn_enter (N := 124) Tryz.func28 (by kernel_rfl) rfl rfl rfl (fun w0 => ?_)
  refine c_seq ?_; refine c_reg ?_; refine alc nofun rfl (fun h1 n1 => ?_)
  have s1 : h1.size = h.size + 1 := n1.size
  have k_1 := k0.ext n1.ext
  have b2_1 := n1.at_
  refine o_nil ?_; refine x_seq ?_; refine c_seq ?_; refine c_reg ?_
  refine mv rfl rfl (nck rfl rfl (fa rfl rfl (ld rfl k_1.rx.cell rfl (cl (vs := [ptr q 0]) rfl (xbyte_fn k_1.rx) rfl (fun v2 h2 r2 => ?_)))))
  obtain ⟨rfl, r2⟩ := r2
  have s2 : h1.size ≤ h2.size := r2.2.size
  have k_2 := k_1.call r2
  have b2_2 := r2.2.get b2_1 (fun e => by have e : _ = q := e; omega)
  refine bld (vs := [(0, i64 (pByte s p).1)]) (v := .agg #[i64 (pByte s p).1, str [], str [], i64 0, i64 0, i64 0, .slice none 0 0, .slice none 0 0, i64 0, i64 0]) rfl (fun _ => by kernel_rfl) rfl ?_
  refine alc nofun rfl (fun h3 n3 => ?_)
  have s3 : h3.size = h2.size + 1 := n3.size
  have k_3 := k_2.ext n3.ext
  have b2_3 := n3.ext.get b2_2
  have b3_3 := n3.at_
  refine stw rfl rfl rfl (ones rfl) b3_3 rfl nofun (fun h4 u4 => ?_)
  have s4 : h4.size = h3.size := u4.size
  have k_4 := k_3.upd u4 (by omega)
  have b2_4 := u4.ne b2_3 (by omega)
  have b3_4 := u4.at_
  refine o_nil ?_; refine x_seq ?_; refine c_seq ?_; refine c_reg ?_
  refine mv rfl rfl (nck rfl rfl (fa rfl rfl (ld rfl k_4.rx.cell rfl (cl (vs := [ptr q 0]) rfl (xtext_fn k_4.rx) rfl (fun v5 h5 r5 => ?_)))))
  obtain ⟨rfl, r5⟩ := r5
  have s5 : h4.size ≤ h5.size := r5.2.size
  have k_5 := k_4.call r5
  have b2_5 := r5.2.get b2_4 (fun e => by have e : _ = q := e; omega)
  have b3_5 := r5.2.get b3_4 (fun e => by have e : _ = q := e; omega)
  refine fa rfl rfl (st rfl rfl rfl b3_5 rfl nofun (fun h6 u6 => ?_))
  have s6 : h6.size = h5.size := u6.size
  have k_6 := k_5.upd u6 (by omega)
  have b2_6 := u6.ne b2_5 (by omega)
  have b3_6 := u6.at_
  refine o_nil ?_; refine x_seq ?_; refine c_seq ?_; refine c_reg ?_
  refine mv rfl rfl (nck rfl rfl (fa rfl rfl (ld rfl k_6.rx.cell rfl (cl (vs := [ptr q 0]) rfl (xtext_fn k_6.rx) rfl (fun v7 h7 r7 => ?_)))))
  obtain ⟨rfl, r7⟩ := r7
  have s7 : h6.size ≤ h7.size := r7.2.size
  have k_7 := k_6.call r7
  have b2_7 := r7.2.get b2_6 (fun e => by have e : _ = q := e; omega)
  have b3_7 := r7.2.get b3_6 (fun e => by have e : _ = q := e; omega)
  refine fa rfl rfl (st rfl rfl rfl b3_7 rfl nofun (fun h8 u8 => ?_))
  have s8 : h8.size = h7.size := u8.size
  have k_8 := k_7.upd u8 (by omega)
  have b2_8 := u8.ne b2_7 (by omega)
  have b3_8 := u8.at_
  refine o_nil ?_; refine x_seq ?_; refine c_seq ?_; refine c_reg ?_
  refine mv rfl rfl (nck rfl rfl (fa rfl rfl (ld rfl k_8.rx.cell rfl (cl (vs := [ptr q 0]) rfl (xnum_fn k_8.rx) rfl (fun v9 h9 r9 => ?_)))))
  obtain ⟨rfl, r9⟩ := r9
  have s9 : h8.size ≤ h9.size := r9.2.size
  have k_9 := k_8.call r9
  have b2_9 := r9.2.get b2_8 (fun e => by have e : _ = q := e; omega)
  have b3_9 := r9.2.get b3_8 (fun e => by have e : _ = q := e; omega)
  refine fa rfl rfl (st rfl rfl rfl b3_9 rfl nofun (fun h10 u10 => ?_))
  have s10 : h10.size = h9.size := u10.size
  have k_10 := k_9.upd u10 (by omega)
  have b2_10 := u10.ne b2_9 (by omega)
  have b3_10 := u10.at_
  refine o_nil ?_; refine x_seq ?_; refine c_seq ?_; refine c_reg ?_
  refine mv rfl rfl (nck rfl rfl (fa rfl rfl (ld rfl k_10.rx.cell rfl (cl (vs := [ptr q 0]) rfl (xnum_fn k_10.rx) rfl (fun v11 h11 r11 => ?_)))))
  obtain ⟨rfl, r11⟩ := r11
  have s11 : h10.size ≤ h11.size := r11.2.size
  have k_11 := k_10.call r11
  have b2_11 := r11.2.get b2_10 (fun e => by have e : _ = q := e; omega)
  have b3_11 := r11.2.get b3_10 (fun e => by have e : _ = q := e; omega)
  refine fa rfl rfl (st rfl rfl rfl b3_11 rfl nofun (fun h12 u12 => ?_))
  have s12 : h12.size = h11.size := u12.size
  have k_12 := k_11.upd u12 (by omega)
  have b2_12 := u12.ne b2_11 (by omega)
  have b3_12 := u12.at_
  refine o_nil ?_; refine x_seq ?_; refine c_seq ?_; refine c_reg ?_
  refine mv rfl rfl (nck rfl rfl (fa rfl rfl (ld rfl k_12.rx.cell rfl (cl (vs := [ptr q 0]) rfl (xnum_fn k_12.rx) rfl (fun v13 h13 r13 => ?_)))))
  obtain ⟨rfl, r13⟩ := r13
  have s13 : h12.size ≤ h13.size := r13.2.size
  have k_13 := k_12.call r13
  have b2_13 := r13.2.get b2_12 (fun e => by have e : _ = q := e; omega)
  have b3_13 := r13.2.get b3_12 (fun e => by have e : _ = q := e; omega)
  refine fa rfl rfl (st rfl rfl rfl b3_13 rfl nofun (fun h14 u14 => ?_))
  have s14 : h14.size = h13.size := u14.size
  have k_14 := k_13.upd u14 (by omega)
  have b2_14 := u14.ne b2_13 (by omega)
  have b3_14 := u14.at_
  refine o_nil ?_; refine x_seq ?_; refine c_seq ?_; refine c_reg ?_
  refine mv rfl rfl (nck rfl rfl (fa rfl rfl (ld rfl k_14.rx.cell rfl (cl (vs := [ptr q 0]) rfl (xnum_fn k_14.rx) rfl (fun v15 h15 r15 => ?_)))))
  obtain ⟨rfl, r15⟩ := r15
  have s15 : h14.size ≤ h15.size := r15.2.size
  have k_15 := k_14.call r15
  have b2_15 := r15.2.get b2_14 (fun e => by have e : _ = q := e; omega)
  have b3_15 := r15.2.get b3_14 (fun e => by have e : _ = q := e; omega)
  refine fa rfl rfl (st rfl rfl rfl b3_15 rfl nofun (fun h16 u16 => ?_))
  have s16 : h16.size = h15.size := u16.size
  have k_16 := k_15.upd u16 (by omega)
  have b2_16 := u16.ne b2_15 (by omega)
  have b3_16 := u16.at_
  refine o_nil ?_; refine x_seq ?_; refine c_seq ?_; refine c_reg ?_
  refine mv rfl rfl (nck rfl rfl (fa rfl rfl (ld rfl k_16.rx.cell rfl (cl (vs := [ptr q 0]) rfl (xnum_fn k_16.rx) rfl (fun v17 h17 r17 => ?_)))))
  obtain ⟨rfl, r17⟩ := r17
  have s17 : h16.size ≤ h17.size := r17.2.size
  have k_17 := k_16.call r17
  have b2_17 := r17.2.get b2_16 (fun e => by have e : _ = q := e; omega)
  have b3_17 := r17.2.get b3_16 (fun e => by have e : _ = q := e; omega)
  refine fa rfl rfl (st rfl rfl rfl b3_17 rfl nofun (fun h18 u18 => ?_))
  have s18 : h18.size = h17.size := u18.size
  have k_18 := k_17.upd u18 (by omega)
  have b2_18 := u18.ne b2_17 (by omega)
  have b3_18 := u18.at_
  refine o_nil ?_; refine x_seq ?_; refine c_seq ?_; refine c_reg ?_
  refine mv rfl rfl (cl (vs := [ptr x 0, i64 64]) rfl (xcount_fn k_18.rx 64) rfl (fun v19 h19 r19 => ?_))
  obtain ⟨rfl, r19⟩ := r19
  have s19 : h18.size ≤ h19.size := r19.2.size
  have k_19 := k_18.call r19
  have b2_19 := r19.2.get b2_18 (fun e => by have e : _ = q := e; omega)
  have b3_19 := r19.2.get b3_18 (fun e => by have e : _ = q := e; omega)
  refine asg rfl rfl ?_; refine o_nil ?_; refine x_seq ?_
  refine c_seq ?_; refine c_seq ?_; refine c_reg ?_; refine asg rfl rfl ?_; refine o_nil ?_; refine x_seq ?_; refine c_blk ?_
  have hM := rCount_in (s := s) (p := tyP s p) (show (0 : Int) ≤ 64 by decide)
  refine c_loop (α := Nat × List Fld × Value × Nat × PS × Heap) (fun z => [(0, ptr x 0), (2, ptr h.size 0), (3, ptr h2.size 0), (4, i64 (rCount s 64 (tyP s p)).1), (5, i64 (z.1 : Nat))]) (fun z => z.2.2.2.2.2)
    (fun z => Mid (rFld s) (rCount s 64 (tyP s p)).1.toNat (rCount s 64 (tyP s p)).2 z.1 z.2.1 z.2.2.2.2.1 ∧ RdK h x q s z.2.2.2.2.1 z.2.2.2.2.2 ∧ z.2.2.2.2.2[h.size]? = some (.cells zTy 52 (0, 0)) ∧
      z.2.2.2.2.2[h2.size]? = some (.cells (tyCells (tyOf s p z.2.1 []) z.2.2.1 (.slice none 0 0)).toArray 52 (0, 0)) ∧ OwnQ z.2.2.2.2.2 86 3 (fldR h) z.2.2.2.1 z.2.2.1 z.2.1 ∧ (∀ b, ownB z.2.2.1 b → h3.size ≤ b ∧ b < z.2.2.2.2.2.size) ∧
      (z.2.2.2.1 ≠ q ∧ z.2.2.2.1 ≠ h.size ∧ z.2.2.2.1 ≠ h2.size ∧ z.2.2.2.1 < z.2.2.2.2.2.size) ∧ h19.size ≤ z.2.2.2.2.2.size) (fun z => (rCount s 64 (tyP s p)).1.toNat - z.1) (0, [], .slice none 0 0, x, (rCount s 64 (tyP s p)).2, h19)
    ⟨Mid.start, k_19, b2_19, b3_19, ⟨OwnS.nil _ _ _ _, (fun b e => by cases e)⟩, (fun b e => by cases e), ⟨r.ne, by simp only; omega, by simp only; omega, by simp only; omega⟩, Nat.le_refl _⟩ ⟨rfl, rfl, rfl, rfl, rfl, trivial⟩ rfl (fun z hz => ?_)
  obtain ⟨i, xs, vf, b0, pc, g1_⟩ := z
  obtain ⟨hmid, kl, hb2, hb3, ho, hvf, hb0, hg1⟩ := hz
  simp only at hmid kl hb2 hb3 ho hvf hb0 hg1
  change SC _ _ _ _ g1_
  refine c_seq ?_; refine c_seq ?_; refine c_reg ?_
  refine mv rfl rfl (mv rfl rfl (lti rfl rfl rfl (mv rfl rfl (gqt rfl rfl rfl (fun e => mv rfl rfl) (gqt rfl rfl rfl (fun e => nck (cg rfl e) rfl) (gqt rfl rfl rfl (fun e => fa (cg rfl e) rfl) ?_))))))
  refine gqt rfl rfl rfl (fun e => ld (cg rfl e) kl.rx.cell rfl) (gqt rfl rfl rfl (fun e => clp (xbad_fn kl.rx) (a1 (cg rfl e)) rfl) (gqt rfl rfl rfl (fun e => nt (cg rfl e) rfl) ?_))
  refine pka rfl rfl rfl rfl ?_; refine o_nil ?_; refine x_seq ?_; refine c_cond rfl (fun c20 => ?_) (fun c20 => ?_)
  · have hi : i < (rCount s 64 (tyP s p)).1.toNat := by have := c20.1; omega
    have hbad : pc.2 = false := by simpa using c20.2
    refine c_skip ?_; refine x_seq ?_
    refine c_seq ?_; refine c_blk ?_; refine c_seq ?_; refine c_reg ?_
    refine mv rfl rfl (nck rfl rfl (fa rfl rfl (ld rfl kl.rx.cell rfl (cl (vs := [ptr q 0]) rfl (xtext_fn kl.rx) rfl (fun v21 h21 r21 => ?_)))))
    obtain ⟨rfl, r21⟩ := r21
    have s21 : g1_.size ≤ h21.size := r21.2.size
    have k_21 := kl.call r21
    have hb2_21 := r21.2.get hb2 (fun e => by have e : _ = q := e; omega)
    have hb3_21 := r21.2.get hb3 (fun e => by have e : _ = q := e; omega)
    have ho_21 := ho.mod r21.2 (fun e => by have e : _ = q := e; omega)
    refine bld (vs := [(0, str (pText s pc).1)]) (v := .agg #[str (pText s pc).1, .bool false, i64 0]) rfl (fun _ => by kernel_rfl) rfl (alc nofun rfl (fun h22 n22 => ?_))
    have s22 : h22.size = h21.size + 1 := n22.size
    have k_22 := k_21.ext n22.ext
    have hb2_22 := n22.ext.get hb2_21
    have hb3_22 := n22.ext.get hb3_21
    have ho_22 := ho_21.mod n22.ext (fun e => e)
    have b6_22 := n22.at_
    refine stw rfl rfl rfl (ones rfl) b6_22 rfl nofun (fun h23 u23 => ?_)
    have s23 : h23.size = h22.size := u23.size
    have k_23 := k_22.upd u23 (by omega)
    have hb2_23 := u23.ne hb2_22 (by omega)
    have hb3_23 := u23.ne hb3_22 (by omega)
    have ho_23 := ho_22.mod u23.mod (fun e => by have := e; omega)
    have b6_23 := u23.at_
    refine o_nil ?_; refine x_seq ?_; refine c_seq ?_; refine c_reg ?_
    refine mv rfl rfl (cl (vs := [ptr x 0]) rfl (xflag_fn k_23.rx) rfl (fun v24 h24 r24 => ?_))
    obtain ⟨rfl, r24⟩ := r24
    have s24 : h23.size ≤ h24.size := r24.2.size
    have k_24 := k_23.call r24
    have hb2_24 := r24.2.get hb2_23 (fun e => by have e : _ = q := e; omega)
    have hb3_24 := r24.2.get hb3_23 (fun e => by have e : _ = q := e; omega)
    have ho_24 := ho_23.mod r24.2 (fun e => by have e : _ = q := e; omega)
    have b6_24 := r24.2.get b6_23 (fun e => by have e : _ = q := e; omega)
    refine fa rfl rfl (st rfl rfl rfl b6_24 rfl nofun (fun h25 u25 => ?_))
    have s25 : h25.size = h24.size := u25.size
    have k_25 := k_24.upd u25 (by omega)
    have hb2_25 := u25.ne hb2_24 (by omega)
    have hb3_25 := u25.ne hb3_24 (by omega)
    have ho_25 := ho_24.mod u25.mod (fun e => by have := e; omega)
    have b6_25 := u25.at_
    refine o_nil ?_; refine x_seq ?_; refine c_seq ?_; refine c_reg ?_
    refine mv rfl rfl (nck rfl rfl (fa rfl rfl (ld rfl k_25.rx.cell rfl (cl (vs := [ptr q 0]) rfl (xnum_fn k_25.rx) rfl (fun v26 h26 r26 => ?_)))))
    obtain ⟨rfl, r26⟩ := r26
    have s26 : h25.size ≤ h26.size := r26.2.size
    have k_26 := k_25.call r26
    have hb2_26 := r26.2.get hb2_25 (fun e => by have e : _ = q := e; omega)
    have hb3_26 := r26.2.get hb3_25 (fun e => by have e : _ = q := e; omega)
    have ho_26 := ho_25.mod r26.2 (fun e => by have e : _ = q := e; omega)
    have b6_26 := r26.2.get b6_25 (fun e => by have e : _ = q := e; omega)
    refine fa rfl rfl (st rfl rfl rfl b6_26 rfl nofun (fun h27 u27 => ?_))
    have s27 : h27.size = h26.size := u27.size
    have k_27 := k_26.upd u27 (by omega)
    have hb2_27 := u27.ne hb2_26 (by omega)
    have hb3_27 := u27.ne hb3_26 (by omega)
    have ho_27 := ho_26.mod u27.mod (fun e => by have := e; omega)
    have b6_27 := u27.at_
    refine o_nil ?_; refine x_seq ?_; refine c_reg ?_
    refine fa rfl rfl (ld rfl (cell hb3_27 rfl) rfl (ldn rfl rfl (row_blk b6_27) rfl (bsl (vs := [(0, .agg #[str (rFld s pc).1.name, .bool (rFld s pc).1.exp, i64 (rFld s pc).1.type])]) (cs := #[str (rFld s pc).1.name, .bool (rFld s pc).1.exp, i64 (rFld s pc).1.type]) (E := 86) rfl (fun _ => by kernel_rfl) nofun rfl (fun h28 n28 => ?_))))
    obtain ⟨css, o28, q1, q2, q3⟩ := (ho_27.mod n28.ext (fun e => e)).o
    have hxl := hmid.1
    have s28 : h28.size = h27.size + 1 := n28.size
    have k_28 := k_27.ext n28.ext
    have hb2_28 := n28.ext.get hb2_27
    have hb3_28 := n28.ext.get hb3_27
    have ho_28 := ho_27.mod n28.ext (fun e => e)
    have b6_28 := n28.ext.get b6_27
    refine app U_sl rfl rfl o28 (Src.slice (size := 3) (m := 1) rfl (row_blk n28.at_)) rfl (ones rfl) (by omega) (by omega) nofun rfl (fun v29 h29 o29 m29 f29 => ?_)
    obtain ⟨a29, c29, rfl⟩ := o29.form
    obtain ⟨bb, w1, w2⟩ : ∃ bb, (∀ b, ownB (.slice a29 (xs.length + 1) c29) b → b = bb) ∧ (ownB (.slice a29 (xs.length + 1) c29) bb ∨ bb = x) := ⟨_, own1 _ x⟩
    have key : ∀ b, ownB (.slice a29 (xs.length + 1) c29) b → h3.size ≤ b ∧ b < h29.size := fun b e => ⟨(f29 b e).elim (fun e => (hvf b e).1) (fun e => by omega), o29.lt b e⟩
    have hm29 := m29.size
    have hbb : bb ≠ q ∧ bb ≠ h.size ∧ bb ≠ h2.size ∧ bb < h29.size := by
     rcases w2 with e | e
     · have := key _ e; omega
     · omega
    have s29 : h28.size ≤ h29.size := m29.size
    have k_29 := (k_28.app m29 (fun b e => by have := hvf b e; omega))
    have hb2_29 := (m29.get hb2_28 (fun e => by have := hvf _ e; omega))
    have hb3_29 := (m29.get hb3_28 (fun e => by have := hvf _ e; omega))
    have b6_29 := (m29.get b6_28 (fun e => by have := hvf _ e; omega))
    refine fa rfl rfl (st rfl rfl rfl hb3_29 rfl nofun (fun h30 u30 => ?_))
    have s30 : h30.size = h29.size := u30.size
    have k_30 := k_29.upd u30 (by omega)
    have hb2_30 := u30.ne hb2_29 (by omega)
    have b6_30 := u30.ne b6_29 (by omega)
    have hb3_30 := u30.at_
    refine o_nil ?_; refine x_blk ?_; refine x_seq ?_; refine c_reg ?_; refine mv rfl rfl (add rfl rfl (by omega) rfl (asg rfl rfl ?_))
    refine o_nil ?_
    have O30 : OwnS h30 86 3 (fldR h) (.slice a29 (xs.length + 1) c29) (xs ++ [(rFld s pc).1]) := OwnS.mono (OwnS.snoc q1 q2 q3 o29 rfl ⟨rfl, by have := pText_len s pc; show (pText s pc).1.length ≤ maxLen; omega, pNum_in _ _⟩) u30.mod (fun b e e' => by have := key b e; have e' : b = h2.size := e'; omega) (fun _ _ w => w)
    exact x_loop (i + 1, xs ++ [(rFld s pc).1], .slice a29 (xs.length + 1) c29, bb, (rFld s pc).2, h30) ⟨hmid.step hi hbad, k_30, hb2_30, hb3_30, ⟨O30, w1⟩, (fun b e => by have := key b e; simp only; omega), by simp only; omega, by simp only; omega⟩ (by simp only; omega) ⟨rfl, rfl, rfl, rfl, rfl, trivial⟩ rfl
  · have hend : rEach s 64 (rFld s) (tyP s p) = (xs, pc) := hmid.stop (fun e => c20 ⟨by have := e.1; simp only; omega, by rw [e.2]; decide⟩)
    refine c_exit ?_; refine x_seq_exit ?_; refine x_loop_exit ?_; refine x_blk_hit ?_; refine x_seq ?_; refine c_seq ?_; refine c_reg ?_
    refine mv rfl rfl (cl (vs := [ptr x 0, i64 64]) rfl (xcount_fn kl.rx 64) rfl (fun v31 h31 r31 => ?_))
    obtain ⟨rfl, r31⟩ := r31
    have s31 : g1_.size ≤ h31.size := r31.2.size
    have k_31 := kl.call r31
    have hb2_31 := r31.2.get hb2 (fun e => by have e : _ = q := e; omega)
    have hb3_31 := r31.2.get hb3 (fun e => by have e : _ = q := e; omega)
    have ho_31 := ho.mod r31.2 (fun e => by have e : _ = q := e; omega)
    refine asg rfl rfl ?_; refine o_nil ?_; refine x_seq ?_
    refine c_seq ?_; refine c_seq ?_; refine c_reg ?_; refine asg rfl rfl ?_; refine o_nil ?_; refine x_seq ?_; refine c_blk ?_
    have hM2 := rCount_in (s := s) (p := pc) (show (0 : Int) ≤ 64 by decide)
    refine c_loop (α := Nat × List Par × Value × Nat × PS × Heap) (fun z => [(0, ptr x 0), (2, ptr h.size 0), (3, ptr h2.size 0), (4, i64 (rCount s 64 pc).1), (7, i64 (z.1 : Nat))]) (fun z => z.2.2.2.2.2)
      (fun z => Mid (rPar s) (rCount s 64 pc).1.toNat (rCount s 64 pc).2 z.1 z.2.1 z.2.2.2.2.1 ∧ RdK h x q s z.2.2.2.2.1 z.2.2.2.2.2 ∧ z.2.2.2.2.2[h.size]? = some (.cells zTy 52 (0, 0)) ∧
        z.2.2.2.2.2[h2.size]? = some (.cells (tyCells (tyOf s p xs z.2.1) vf z.2.2.1).toArray 52 (0, 0)) ∧ OwnQ z.2.2.2.2.2 86 3 (fldR h) b0 vf xs ∧ OwnQ z.2.2.2.2.2 88 2 (parR h) z.2.2.2.1 z.2.2.1 z.2.1 ∧ (∀ b, ownB z.2.2.1 b → h31.size ≤ b ∧ b < z.2.2.2.2.2.size) ∧
        (z.2.2.2.1 ≠ q ∧ z.2.2.2.1 ≠ h.size ∧ z.2.2.2.1 ≠ h2.size ∧ z.2.2.2.1 < z.2.2.2.2.2.size) ∧ h31.size ≤ z.2.2.2.2.2.size) (fun z => (rCount s 64 pc).1.toNat - z.1) (0, [], .slice none 0 0, x, (rCount s 64 pc).2, h31)
      ⟨Mid.start, k_31, hb2_31, hb3_31, ho_31, ⟨OwnS.nil _ _ _ _, (fun b e => by cases e)⟩, (fun b e => by cases e), ⟨r.ne, by simp only; omega, by simp only; omega, by simp only; omega⟩, Nat.le_refl _⟩ ⟨rfl, rfl, rfl, rfl, rfl, trivial⟩ rfl (fun z hz => ?_)
    obtain ⟨j, ps, vp, bp, pd, g2_⟩ := z
    obtain ⟨jmid, kl2, jb2, jb3, jo, jp, hvp, hbp, hg2⟩ := hz
    simp only at jmid kl2 jb2 jb3 jo jp hvp hbp hg2
    change SC _ _ _ _ g2_
    refine c_seq ?_; refine c_seq ?_; refine c_reg ?_
    refine mv rfl rfl (mv rfl rfl (lti rfl rfl rfl (mv rfl rfl (gqt rfl rfl rfl (fun e => mv rfl rfl) (gqt rfl rfl rfl (fun e => nck (cg rfl e) rfl) (gqt rfl rfl rfl (fun e => fa (cg rfl e) rfl) ?_))))))
    refine gqt rfl rfl rfl (fun e => ld (cg rfl e) kl2.rx.cell rfl) (gqt rfl rfl rfl (fun e => clp (xbad_fn kl2.rx) (a1 (cg rfl e)) rfl) (gqt rfl rfl rfl (fun e => nt (cg rfl e) rfl) ?_))
    refine pka rfl rfl rfl rfl ?_; refine o_nil ?_; refine x_seq ?_; refine c_cond rfl (fun c32 => ?_) (fun c32 => ?_)
    · have hj : j < (rCount s 64 pc).1.toNat := by have := c32.1; omega
      have hbad : pd.2 = false := by simpa using c32.2
      refine c_skip ?_; refine x_seq ?_
      refine c_seq ?_; refine c_blk ?_; refine c_seq ?_; refine c_reg ?_
      refine mv rfl rfl (cl (vs := [ptr x 0]) rfl (xflag_fn kl2.rx) rfl (fun v33 h33 r33 => ?_))
      obtain ⟨rfl, r33⟩ := r33
      have s33 : g2_.size ≤ h33.size := r33.2.size
      have k_33 := kl2.call r33
      have jb2_33 := r33.2.get jb2 (fun e => by have e : _ = q := e; omega)
      have jb3_33 := r33.2.get jb3 (fun e => by have e : _ = q := e; omega)
      have jo_33 := jo.mod r33.2 (fun e => by have e : _ = q := e; omega)
      have jp_33 := jp.mod r33.2 (fun e => by have e : _ = q := e; omega)
      refine bld (vs := [(0, .bool (rPar s pd).1.byVar)]) (v := .agg #[.bool (rPar s pd).1.byVar, i64 0]) rfl (fun _ => by kernel_rfl) rfl (alc nofun rfl (fun h34 n34 => ?_))
      have s34 : h34.size = h33.size + 1 := n34.size
      have k_34 := k_33.ext n34.ext
      have jb2_34 := n34.ext.get jb2_33
      have jb3_34 := n34.ext.get jb3_33
      have jo_34 := jo_33.mod n34.ext (fun e => e)
      have jp_34 := jp_33.mod n34.ext (fun e => e)
      have b8_34 := n34.at_
      refine stw rfl rfl rfl (ones rfl) b8_34 rfl nofun (fun h35 u35 => ?_)
      have s35 : h35.size = h34.size := u35.size
      have k_35 := k_34.upd u35 (by omega)
      have jb2_35 := u35.ne jb2_34 (by omega)
      have jb3_35 := u35.ne jb3_34 (by omega)
      have jo_35 := jo_34.mod u35.mod (fun e => by have := e; omega)
      have jp_35 := jp_34.mod u35.mod (fun e => by have := e; omega)
      have b8_35 := u35.at_
      refine o_nil ?_; refine x_seq ?_; refine c_seq ?_; refine c_reg ?_
      refine mv rfl rfl (nck rfl rfl (fa rfl rfl (ld rfl k_35.rx.cell rfl (cl (vs := [ptr q 0]) rfl (xnum_fn k_35.rx) rfl (fun v36 h36 r36 => ?_)))))
      obtain ⟨rfl, r36⟩ := r36
      have s36 : h35.size ≤ h36.size := r36.2.size
      have k_36 := k_35.call r36
      have jb2_36 := r36.2.get jb2_35 (fun e => by have e : _ = q := e; omega)
      have jb3_36 := r36.2.get jb3_35 (fun e => by have e : _ = q := e; omega)
      have jo_36 := jo_35.mod r36.2 (fun e => by have e : _ = q := e; omega)
      have jp_36 := jp_35.mod r36.2 (fun e => by have e : _ = q := e; omega)
      have b8_36 := r36.2.get b8_35 (fun e => by have e : _ = q := e; omega)
      refine fa rfl rfl (st rfl rfl rfl b8_36 rfl nofun (fun h37 u37 => ?_))
      have s37 : h37.size = h36.size := u37.size
      have k_37 := k_36.upd u37 (by omega)
      have jb2_37 := u37.ne jb2_36 (by omega)
      have jb3_37 := u37.ne jb3_36 (by omega)
      have jo_37 := jo_36.mod u37.mod (fun e => by have := e; omega)
      have jp_37 := jp_36.mod u37.mod (fun e => by have := e; omega)
      have b8_37 := u37.at_
      refine o_nil ?_; refine x_seq ?_; refine c_reg ?_
      refine fa rfl rfl (ld rfl (cell jb3_37 rfl) rfl (ldn rfl rfl (row_blk b8_37) rfl (bsl (vs := [(0, .agg #[.bool (rPar s pd).1.byVar, i64 (rPar s pd).1.type])]) (cs := #[.bool (rPar s pd).1.byVar, i64 (rPar s pd).1.type]) (E := 88) rfl (fun _ => by kernel_rfl) nofun rfl (fun h38 n38 => ?_))))
      obtain ⟨css, o38, q1, q2, q3⟩ := (jp_37.mod n38.ext (fun e => e)).o
      have hxl := jmid.1
      have s38 : h38.size = h37.size + 1 := n38.size
      have k_38 := k_37.ext n38.ext
      have jb2_38 := n38.ext.get jb2_37
      have jb3_38 := n38.ext.get jb3_37
      have jo_38 := jo_37.mod n38.ext (fun e => e)
      have jp_38 := jp_37.mod n38.ext (fun e => e)
      have b8_38 := n38.ext.get b8_37
      refine app U_sl rfl rfl o38 (Src.slice (size := 2) (m := 1) rfl (row_blk n38.at_)) rfl (ones rfl) (by omega) (by omega) nofun rfl (fun v39 h39 o39 m39 f39 => ?_)
      obtain ⟨a39, c39, rfl⟩ := o39.form
      obtain ⟨bb, w1, w2⟩ : ∃ bb, (∀ b, ownB (.slice a39 (ps.length + 1) c39) b → b = bb) ∧ (ownB (.slice a39 (ps.length + 1) c39) bb ∨ bb = x) := ⟨_, own1 _ x⟩
      have key : ∀ b, ownB (.slice a39 (ps.length + 1) c39) b → h31.size ≤ b ∧ b < h39.size := fun b e => ⟨(f39 b e).elim (fun e => (hvp b e).1) (fun e => by omega), o39.lt b e⟩
      have hm39 := m39.size
      have hbb : bb ≠ q ∧ bb ≠ h.size ∧ bb ≠ h2.size ∧ bb < h39.size := by
       rcases w2 with e | e
       · have := key _ e; omega
       · omega
      have s39 : h38.size ≤ h39.size := m39.size
      have k_39 := (k_38.app m39 (fun b e => by have := hvp b e; omega))
      have jb2_39 := (m39.get jb2_38 (fun e => by have := hvp _ e; omega))
      have jb3_39 := (m39.get jb3_38 (fun e => by have := hvp _ e; omega))
      have jo_39 := jo_38.mod m39 (fun e => by have := hvp _ e; omega)
      have b8_39 := (m39.get b8_38 (fun e => by have := hvp _ e; omega))
      refine fa rfl rfl (st rfl rfl rfl jb3_39 rfl nofun (fun h40 u40 => ?_))
      have s40 : h40.size = h39.size := u40.size
      have k_40 := k_39.upd u40 (by omega)
      have jb2_40 := u40.ne jb2_39 (by omega)
      have jo_40 := jo_39.mod u40.mod (fun e => by have := e; omega)
      have b8_40 := u40.ne b8_39 (by omega)
      have jb3_40 := u40.at_
      refine o_nil ?_; refine x_blk ?_; refine x_seq ?_; refine c_reg ?_; refine mv rfl rfl (add rfl rfl (by omega) rfl (asg rfl rfl ?_))
      refine o_nil ?_
      have O40 : OwnS h40 88 2 (parR h) (.slice a39 (ps.length + 1) c39) (ps ++ [(rPar s pd).1]) := OwnS.mono (OwnS.snoc q1 q2 q3 o39 rfl ⟨rfl, pNum_in _ _⟩) u40.mod (fun b e e' => by have := key b e; have e' : b = h2.size := e'; omega) (fun _ _ w => w)
      exact x_loop (j + 1, ps ++ [(rPar s pd).1], .slice a39 (ps.length + 1) c39, bb, (rPar s pd).2, h40) ⟨jmid.step hj hbad, k_40, jb2_40, jb3_40, jo_40, ⟨O40, w1⟩, (fun b e => by have := key b e; simp only; omega), by simp only; omega, by simp only; omega⟩ (by simp only; omega) ⟨rfl, rfl, rfl, rfl, rfl, trivial⟩ rfl
    · have hend2 : rEach s 64 (rPar s) pc = (ps, pd) := jmid.stop (fun e => c32 ⟨by have := e.1; simp only; omega, by rw [e.2]; decide⟩)
      obtain ⟨_, oo⟩ := jo.o.own
      obtain ⟨af, cf, rfl⟩ := oo.form
      obtain ⟨_, oo'⟩ := jp.o.own
      obtain ⟨ap, cp, rfl⟩ := oo'.form
      refine c_exit ?_; refine x_seq_exit ?_; refine x_loop_exit ?_; refine x_blk_hit ?_; refine x_seq ?_; refine c_seq ?_; refine c_reg ?_
      refine ldn rfl rfl (row_blk jb3) rfl (stw rfl rfl rfl (ones rfl) jb2 rfl nofun (fun h41 u41 => ?_))
      have s41 : h41.size = g2_.size := u41.size
      have k_41 := kl2.upd u41 (by omega)
      have jb3_41 := u41.ne jb3 (by omega)
      have jo_41 := jo.mod u41.mod (fun e => by have := e; omega)
      have jp_41 := jp.mod u41.mod (fun e => by have := e; omega)
      have jb2_41 := u41.at_
      refine o_nil ?_; refine x_seq ?_; refine c_ret ?_; refine retc1 (.inr rfl) rfl rfl rfl (row_blk jb2_41) ?_
      rw [rTy_eq hend hend2]
      exact ⟨_, _, rfl, jo_41.o, jp_41.o, fun b e => by have := hvf b e; omega, fun b e => by have := hvp b e; omega, (k_41).rx, (k_41).m⟩
end
end Go.Proofs.YtgnkfegkdjfnjaaGreat
