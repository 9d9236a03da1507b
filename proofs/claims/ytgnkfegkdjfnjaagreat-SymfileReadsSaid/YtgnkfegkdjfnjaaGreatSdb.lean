/- The walk of what symfile.Decode does to each object. The walk of symfile.Decode. The walk of symfile.Decode. The walk of symfile.Decode, itself. No condition but what each theorem says. -/
import Derived.Test.YtgnkfegkdjfnjaaGreatSda
namespace Go.Proofs.YtgnkfegkdjfnjaaGreat
/-! The walk of what symfile.Decode does to each object. No condition but what each theorem says. -/
section
open Go Go.Eng

set_option maxHeartbeats 2000000 in
theorem decode3_fn {h : Heap} {s : Bytes} {r bR bF : Nat} {q : PS} {f : Face} {vu vt vo : Value} (hr : R.R h r s q.1 q.2) (hc : RdC h bR r) (hT : h[bF]? = some (.cells (faceCells f vu vt vo) 28 (0, 0)))
    (hO : OwnS h 58 7 (objR h) vo f.objs) (d1 : bR ≠ r) (d2 : bF ≠ r) (df : ∀ b, ownB vo b → b ≠ r ∧ b ≠ bR ∧ b ≠ bF) (hl : f.objs.length ≤ 2147483647) :
    Does Tryz.prog 20 [ptr bR 0, ptr bF 0] h (fun _ h' => ∃ vo', h'[bF]? = some (.cells (faceCells f vu vt vo') 28 (0, 0)) ∧
      OwnS h' 58 7 (objR h') vo' (f.objs ++ [(pOb s q).1]) ∧ R.R h' r s (pOb s q).2.1 (pOb s q).2.2 ∧ Go.Eng.Mod (fun b => b = r ∨ b = bF ∨ ownB vo b) h h' ∧ ∀ b, ownB vo' b → ownB vo b ∨ h.size ≤ b) := by
  have hmx : maxLen = 9223372036854775807 := by decide
  have lr := R_lt hr
  have lR := hc.lt
  have lT := lt_of_get hT
  refine fn_enter (N := 41) Tryz.func20 (by kernel_rfl) rfl rfl rfl (fun w0 => ?_)
  refine c_cut (α := Nat × Heap) (fun y => [(0, ptr bR 0), (1, ptr bF 0), (2, ptr y.1 0)]) (fun y => y.2)
    (fun y => R.R y.2 r s (pText s (pByte s q).2).2.1 (pText s (pByte s q).2).2.2 ∧ y.2[y.1]? = some (.cells #[i64 (pByte s q).1, str (pText s (pByte s q).2).1, i64 0, i64 0, i64 0, str [], i64 0] 58 (0, 0)) ∧ h.size ≤ y.1 ∧ Go.Eng.Mod (· = r) h y.2) ?_ ?_
  · refine c_treg (fun h' => RdC h' bR r) (some 6) [6, 5, 4, 3, 1, 2, 0] (.fork [0, 2] 1 (.fork [] 3 (.leaf [4, 5] [6]) 5 (.leaf [3, 4] [6])) 5 (.leaf [1, 3, 4] [6])) rfl hc (by kernel_rfl) ?_
    refine t_fork ?_; refine ldI rfl (fun _ i => RdC.cell i) rfl (ldI rfl (fun _ i => RdC.cell i) rfl ?_)
    refine o_nil ?_; refine x_fork ?_ ?_
    · refine clI (vs := [ptr r 0]) rfl (byte_fn (q := q) hr) (fun _ _ w => hc.mod w.2.2 d1) rfl (fun v1 h1 r1 => ?_)
      obtain ⟨rfl, r1, m1⟩ := r1
      have c1 := hc.mod m1 d1
      have s1 := m1.size
      refine o_nil ?_; refine x_kT ?_; refine t_fork ?_; refine o_nil ?_; refine x_fork ?_ ?_
      · refine clI (vs := [ptr r 0]) rfl (text_fn (q := (pByte s q).2) r1) (fun _ _ w => c1.mod w.2.2 d1) rfl (fun v2 h2 r2 => ?_)
        obtain ⟨rfl, r2, m2⟩ := r2
        have c2 := c1.mod m2 d1
        have s2 := m2.size
        refine o_nil ?_; refine x_kT ?_; refine t_leaf ?_
        refine bld (vs := [(0, i64 (pByte s q).1), (1, str (pText s (pByte s q).2).1)]) (v := .agg #[i64 (pByte s q).1, str (pText s (pByte s q).2).1, i64 0, i64 0, i64 0, str [], i64 0]) rfl (fun _ => by kernel_rfl) rfl (alc (fun _ h' n' => c2.mod n'.ext (fun e => e)) rfl (fun h3 n3 => ?_))
        have s3 := n3.size
        refine o_nil ?_; refine x_tail ?_; refine stw rfl rfl rfl (ones rfl) n3.at_ rfl nofun (fun h4 u4 => ?_)
        refine o_nil ?_
        exact x_cut (_, _) ⟨(r2.mod n3.ext (fun e => e)).mod u4.mod (fun e => by have e : r = h2.size := e; omega), u4.at_, by show h.size ≤ h2.size; omega, (((m1.trans m2).trans (n3.ext.mod _)).upd u4 (.inr (by omega)))⟩ ⟨rfl, rfl, rfl, trivial⟩ rfl
      · refine alc (fun _ h' n' => c1.mod n'.ext (fun e => e)) rfl (fun h2 n2 => ?_)
        have s2 := n2.size
        have c2 := c1.mod n2.ext (fun e => e)
        refine o_nil ?_; refine x_kT ?_; refine t_leaf ?_; refine clI (vs := [ptr r 0]) rfl (text_fn (q := (pByte s q).2) (r1.mod n2.ext (fun e => e))) (fun _ _ w => c2.mod w.2.2 d1) rfl (fun v3 h3 r3 => ?_)
        obtain ⟨rfl, r3, m3⟩ := r3
        have s3 := m3.size
        have b3 := m3.get n2.at_ (fun e => by have e : h1.size = r := e; omega)
        refine bld (vs := [(0, i64 (pByte s q).1), (1, str (pText s (pByte s q).2).1)]) (v := .agg #[i64 (pByte s q).1, str (pText s (pByte s q).2).1, i64 0, i64 0, i64 0, str [], i64 0]) rfl (fun _ => by kernel_rfl) rfl ?_
        refine o_nil ?_; refine x_tail ?_; refine stw rfl rfl rfl (ones rfl) b3 rfl nofun (fun h4 u4 => ?_)
        refine o_nil ?_
        exact x_cut (_, _) ⟨r3.mod u4.mod (fun e => by have e : r = h1.size := e; omega), u4.at_, by show h.size ≤ h1.size; omega, (((m1.trans (n2.ext.mod _)).trans m3).upd u4 (.inr (by omega)))⟩ ⟨rfl, rfl, rfl, trivial⟩ rfl
    · refine alc (fun _ h' n' => hc.mod n'.ext (fun e => e)) rfl (fun h1 n1 => ?_)
      have s1 := n1.size
      have c1 := hc.mod n1.ext (fun e => e)
      refine o_nil ?_; refine x_kT ?_; refine t_leaf ?_; refine clI (vs := [ptr r 0]) rfl (byte_fn (q := q) (hr.mod n1.ext (fun e => e))) (fun _ _ w => c1.mod w.2.2 d1) rfl (fun v2 h2 r2 => ?_)
      obtain ⟨rfl, r2, m2⟩ := r2
      have c2 := c1.mod m2 d1
      have s2 := m2.size
      have b2 := m2.get n1.at_ (fun e => by have e : h.size = r := e; omega)
      refine clI (vs := [ptr r 0]) rfl (text_fn (q := (pByte s q).2) r2) (fun _ _ w => c2.mod w.2.2 d1) rfl (fun v3 h3 r3 => ?_)
      obtain ⟨rfl, r3, m3⟩ := r3
      have s3 := m3.size
      have b3 := m3.get b2 (fun e => by have e : h.size = r := e; omega)
      refine bld (vs := [(0, i64 (pByte s q).1), (1, str (pText s (pByte s q).2).1)]) (v := .agg #[i64 (pByte s q).1, str (pText s (pByte s q).2).1, i64 0, i64 0, i64 0, str [], i64 0]) rfl (fun _ => by kernel_rfl) rfl ?_
      refine o_nil ?_; refine x_tail ?_; refine stw rfl rfl rfl (ones rfl) b3 rfl nofun (fun h4 u4 => ?_)
      refine o_nil ?_
      exact x_cut (_, _) ⟨r3.mod u4.mod (fun e => by have e : r = h.size := e; omega), u4.at_, Nat.le_refl _, ((((n1.ext.mod _).trans m2).trans m3).upd u4 (.inr (by omega)))⟩ ⟨rfl, rfl, rfl, trivial⟩ rfl
  rintro ⟨bO, g⟩ ⟨r4, b4, lO, M4⟩
  simp only at r4 b4 lO M4
  have s4 := M4.size
  have l4 := lt_of_get b4
  have c4 := hc.mod M4 d1
  refine c_seq ?_; refine c_reg ?_; refine ld rfl c4.cell rfl (cl (vs := [ptr r 0]) rfl (num_fn (q := (pText s (pByte s q).2).2) r4) rfl (fun v5 h5 r5 => ?_))
  obtain ⟨rfl, r5, m5⟩ := r5
  have b5 := m5.get b4 (fun e => by have e : bO = r := e; omega)
  have s5 := m5.size
  refine fa rfl rfl (st rfl rfl rfl b5 rfl nofun (fun h6 u6 => ?_))
  have b6 := u6.at_
  have r6 := r5.mod u6.mod (fun e => by have e : r = bO := e; omega)
  have M6 := (M4.trans m5).upd u6 (.inr lO)
  have c6 := hc.mod M6 d1
  refine o_nil ?_; refine x_seq ?_; refine c_seq ?_
  refine c_treg (fun h' => RdC h' bR r) (some 3) [3, 1, 2, 0] (.leaf [0, 2, 1] [3, 4, 5, 6]) rfl c6 (by kernel_rfl) ?_
  refine t_leaf ?_; refine ldI rfl (fun _ i => RdC.cell i) rfl (ldI rfl (fun _ i => RdC.cell i) rfl (clI (vs := [ptr r 0]) rfl (byte_fn (q := (pNum s (pText s (pByte s q).2).2).2) r6) (fun _ _ w => c6.mod w.2.2 d1) rfl (fun v7 h7 r7 => ?_)))
  obtain ⟨rfl, r7, m7⟩ := r7
  have b7 := m7.get b6 (fun e => by have e : bO = r := e; omega)
  refine o_nil ?_; refine x_tail ?_; refine cl (vs := [ptr r 0]) rfl (num_fn (q := (pByte s (pNum s (pText s (pByte s q).2).2).2).2) r7) rfl (fun v8 h8 r8 => ?_)
  obtain ⟨rfl, r8, m8⟩ := r8
  have b8 := m8.get b7 (fun e => by have e : bO = r := e; omega)
  refine bld (vs := [(0, i64 (pByte s (pNum s (pText s (pByte s q).2).2).2).1), (1, i64 (pNum s (pByte s (pNum s (pText s (pByte s q).2).2).2).2).1)]) (v := .agg #[i64 (pByte s (pNum s (pText s (pByte s q).2).2).2).1, i64 (pNum s (pByte s (pNum s (pText s (pByte s q).2).2).2).2).1, str []]) rfl (fun _ => by kernel_rfl) rfl (fa rfl rfl (stn rfl rfl rfl (ones rfl) b8 (by simp) nofun (fun h9 u9 => ?_)))
  have b9 := u9.at_
  have r9 := r8.mod u9.mod (fun e => by have e : r = bO := e; omega)
  have M9 := ((M6.trans m7).trans m8).upd u9 (.inr lO)
  have c9 := hc.mod M9 d1
  refine o_nil ?_; refine x_seq ?_; refine c_seq ?_; refine c_reg ?_
  refine ld rfl c9.cell rfl (cl (vs := [ptr r 0]) rfl (text_fn (q := (pNum s (pByte s (pNum s (pText s (pByte s q).2).2).2).2).2) r9) rfl (fun v10 h10 r10 => ?_))
  obtain ⟨rfl, r10, m10⟩ := r10
  have b10 := m10.get b9 (fun e => by have e : bO = r := e; omega)
  refine fa rfl rfl (fa rfl rfl (st rfl rfl rfl b10 rfl nofun (fun h11 u11 => ?_)))
  have b11 := u11.at_
  have r11 := r10.mod u11.mod (fun e => by have e : r = bO := e; omega)
  have M11 := (M9.trans m10).upd u11 (.inr lO)
  refine o_nil ?_; refine x_seq ?_
  refine c_cut (α := Heap) (fun _ => [(0, ptr bR 0), (1, ptr bF 0), (2, ptr bO 0)]) (fun y => y)
    (fun y => R.R y r s (pText s (pNum s (pByte s (pNum s (pText s (pByte s q).2).2).2).2).2).2.1 (pText s (pNum s (pByte s (pNum s (pText s (pByte s q).2).2).2).2).2).2.2 ∧ y[bO]? = some (.cells #[i64 (pByte s q).1, str (pText s (pByte s q).2).1, i64 (pNum s (pText s (pByte s q).2).2).1, i64 (pByte s (pNum s (pText s (pByte s q).2).2).2).1, i64 (if (pByte s (pNum s (pText s (pByte s q).2).2).2).1 = 4 then IntKind.u32.wrap (pNum s (pByte s (pNum s (pText s (pByte s q).2).2).2).2).1 else (pNum s (pByte s (pNum s (pText s (pByte s q).2).2).2).2).1), str (pText s (pNum s (pByte s (pNum s (pText s (pByte s q).2).2).2).2).2).1, i64 0] 58 (0, 0)) ∧ Go.Eng.Mod (· = r) h y) ?_ ?_
  · refine c_seq ?_; refine c_reg ?_; refine fa rfl rfl (fa rfl rfl (ld rfl (cell b11 rfl) rfl (eqi rfl rfl rfl ?_)))
    refine o_nil ?_; refine x_seq ?_; refine c_cond rfl (fun c12 => ?_) (fun c12 => ?_)
    · have hw : IntKind.i64.wrap (IntKind.u32.wrap (pNum s (pByte s (pNum s (pText s (pByte s q).2).2).2).2).1) = IntKind.u32.wrap (pNum s (pByte s (pNum s (pText s (pByte s q).2).2).2).2).1 := by
        refine w64 ?_
        simp only [IntKind.wrap, IntKind.bits, IntKind.signed]
        simp
        omega
      refine c_reg ?_
      refine fa rfl rfl (fa rfl rfl (ld rfl (cell b11 rfl) rfl (cvi rfl rfl (cvi rfl rfl (fa rfl rfl (fa rfl rfl (st rfl rfl rfl b11 rfl nofun (fun h13 u13 => ?_))))))))
      have b13 := u13.at_
      rw [hw] at b13
      refine o_nil ?_
      exact x_cut h13 ⟨r11.mod u13.mod (fun e => by have e : r = bO := e; omega), by rw [if_pos c12]; exact b13, M11.upd u13 (.inr lO)⟩ ⟨rfl, rfl, rfl, trivial⟩ rfl
    · refine c_skip ?_
      exact x_cut h11 ⟨r11, by rw [if_neg c12]; exact b11, M11⟩ ⟨rfl, rfl, rfl, trivial⟩ rfl
  rintro g2 ⟨r14, b14, M14⟩
  have c14 := hc.mod M14 d1
  have t14 := M14.get hT d2
  refine c_seq ?_; refine c_reg ?_; refine ld rfl c14.cell rfl (cl (vs := [ptr r 0]) rfl (num_fn (q := (pText s (pNum s (pByte s (pNum s (pText s (pByte s q).2).2).2).2).2).2) r14) rfl (fun v15 h15 r15 => ?_))
  obtain ⟨rfl, r15, m15⟩ := r15
  have b15 := m15.get b14 (fun e => by have e : bO = r := e; omega)
  refine fa rfl rfl (st rfl rfl rfl b15 rfl nofun (fun h16 u16 => ?_))
  have b16 := u16.at_
  have r16 := r15.mod u16.mod (fun e => by have e : r = bO := e; omega)
  have M16 := (M14.trans m15).upd u16 (.inr lO)
  have t16 := M16.get hT d2
  refine o_nil ?_; refine x_seq ?_; refine c_reg ?_
  refine fa rfl rfl (ld rfl (cell t16 rfl) rfl (ldn rfl rfl (row_blk b16) rfl (bsl (E := 58) (vs := [(0, objV (pOb s q).1)]) (cs := #[i64 (pByte s q).1, str (pText s (pByte s q).2).1, i64 (pNum s (pText s (pByte s q).2).2).1, i64 (pByte s (pNum s (pText s (pByte s q).2).2).2).1, i64 (if (pByte s (pNum s (pText s (pByte s q).2).2).2).1 = 4 then IntKind.u32.wrap (pNum s (pByte s (pNum s (pText s (pByte s q).2).2).2).2).1 else (pNum s (pByte s (pNum s (pText s (pByte s q).2).2).2).2).1), str (pText s (pNum s (pByte s (pNum s (pText s (pByte s q).2).2).2).2).2).1, i64 (pNum s (pText s (pNum s (pByte s (pNum s (pText s (pByte s q).2).2).2).2).2).2).1]) rfl (fun _ => by kernel_rfl) nofun rfl (fun h8 n8 => ?_))))
  have t8 := n8.ext.get t16
  have r8 := r16.mod n8.ext (fun e => e)
  have ma : Go.Eng.Mod (· = r) h h8 := M16.trans (n8.ext.mod _)
  have s8 := ma.size
  obtain ⟨css, o, g1, g2, g3⟩ := hO
  have lo := o.lt
  have o8 := o.mod ma (fun b e => (df b e).1)
  refine app U_sl rfl rfl o8 (Src.slice rfl (row_blk n8.at_)) rfl (ones rfl) (by omega) (by omega) nofun rfl (fun v9 h9 o9 m9 f9 => ?_)
  have t9 := m9.get t8 (fun e => (df _ e).2.2 rfl)
  have r9 := r8.mod m9 (fun e => (df _ e).1 rfl)
  obtain ⟨a9, ca9, rfl⟩ := o9.form
  refine fa rfl rfl (st rfl rfl rfl t9 rfl nofun (fun h10 u10 => ?_))
  have t10 := u10.at_
  have r10 := r9.mod u10.mod (fun e => d2 e.symm)
  refine o_nil ?_; refine ret0 (.inl rfl) rfl ?_
  have f10 : ∀ b, ownB (.slice a9 (f.objs.length + 1) ca9) b → ownB vo b ∨ h8.size ≤ b := f9
  have hb : ∀ p, in64 (pByte s p).1 := fun p => by have := pByte_in s p; unfold in64; omega
  have ht : ∀ p, (pText s p).1.length ≤ maxLen := fun p => by have := pText_len s p; omega
  have hv : in64 (if (pByte s (pNum s (pText s (pByte s q).2).2).2).1 = 4 then IntKind.u32.wrap (pNum s (pByte s (pNum s (pText s (pByte s q).2).2).2).2).1 else (pNum s (pByte s (pNum s (pText s (pByte s q).2).2).2).2).1) := by
    split
    · unfold in64; simp only [IntKind.wrap, IntKind.bits, IntKind.signed]; simp; omega
    · exact pNum_in _ _
  refine ⟨_, t10, OwnS.snoc g1 g2 g3 (o9.mod u10.mod (fun b e e' => ?_)) rfl ⟨rfl, ht _, ht _, hb _, pNum_in _ _, hb _, hv, pNum_in _ _⟩, r10, ?_, fun b e => (f10 b e).imp id (fun e => by omega)⟩
  · have e' : b = bF := e'
    rcases f10 b e with e | e
    · exact (df b e).2.2 e'
    · omega
  · exact ((ma.mono (fun _ _ e => .inl e)).andMod m9 (fun _ e => .inl (.inr (.inr e)))).upd u10 (.inl (.inr (.inl rfl)))
end

/-! The walk of symfile.Decode. No condition but what each theorem says. -/
section
open Go Go.Eng

/-- an interface that grows: its cell, the Reader's cell, the Reader, the result's cell, all lists in blocks of their own; all behind N -/
structure DI (N r bR bF b2 : Nat) (z2 : Array Value) (s : Bytes) (h : Heap) (f : Face) (p : PS) : Prop where
  rd : R.R h r s p.1 p.2
  rc : RdC h bR r
  z : h[b2]? = some (.cells z2 28 (0, 0))
  low : N ≤ r ∧ N ≤ bR ∧ N ≤ bF ∧ N ≤ b2
  ne : bR ≠ r ∧ bF ≠ r ∧ b2 ≠ r ∧ bF ≠ bR ∧ b2 ≠ bF ∧ b2 ≠ bR
  nm : f.name.length ≤ maxLen ∧ inU32 f.key
  at_ : ∃ vu vt vo, h[bF]? = some (.cells (faceCells f vu vt vo) 28 (0, 0)) ∧ OwnS h 48 2 (usedR h) vu f.uses ∧ OwnS h 58 7 (objR h) vo f.objs ∧
    TysOwn (fun b => N ≤ b ∧ b ≠ r ∧ b ≠ bR ∧ b ≠ bF ∧ b ≠ b2 ∧ ¬ ownB vu b ∧ ¬ ownB vo b) h vt f.types ∧
    (∀ b, ownB vu b → N ≤ b ∧ b ≠ r ∧ b ≠ bR ∧ b ≠ bF ∧ b ≠ b2) ∧ (∀ b, ownB vo b → N ≤ b ∧ b ≠ r ∧ b ≠ bR ∧ b ≠ bF ∧ b ≠ b2 ∧ ¬ ownB vu b)
theorem DI.read {N r bR bF b2 : Nat} {z2 : Array Value} {s : Bytes} {h h' : Heap} {f : Face} {p p' : PS} (a : DI N r bR bF b2 z2 s h f p) (hr : R.R h' r s p'.1 p'.2) (m : Go.Eng.Mod (· = r) h h') : DI N r bR bF b2 z2 s h' f p' := by
  obtain ⟨a1, a2, a3, a4, a5, a6, vu, vt, vo, b1, b2, b3, b4, b5, b6⟩ := a
  refine ⟨hr, a2.mod m a5.1, m.get a3 a5.2.2.1, a4, a5, a6, vu, vt, vo, m.get b1 a5.2.1, OwnS.mono b2 m (fun b e => (b5 b e).2.1) (fun _ _ w => w), OwnS.mono b3 m (fun b e => (b6 b e).2.1) (fun _ _ w => w), b4.mod m (fun b e _ => e.2.1), b5, b6⟩
theorem DI.lts {N r bR bF b2 : Nat} {z2 : Array Value} {s : Bytes} {h : Heap} {f : Face} {p : PS} (a : DI N r bR bF b2 z2 s h f p) : r < h.size ∧ bR < h.size ∧ bF < h.size ∧ b2 < h.size := by
  obtain ⟨a1, a2, a3, a4, a5, a6, vu, vt, vo, b1, -⟩ := a
  exact ⟨R_lt a1, a2.lt, lt_of_get b1, lt_of_get a3⟩
theorem DI.used {N r bR bF b2 : Nat} {z2 : Array Value} {s : Bytes} {h : Heap} {f : Face} {p : PS} (a : DI N r bR bF b2 z2 s h f p) (hl : f.uses.length ≤ 2147483647) :
    Does Tryz.prog 17 [ptr bR 0, ptr bF 0] h (fun _ h' => DI N r bR bF b2 z2 s h' { f with uses := f.uses ++ [(pUsed s p).1] } (pUsed s p).2 ∧ Go.Eng.Mod (fun b => N ≤ b) h h') := by
  obtain ⟨l1, l2, l3, l4⟩ := a.lts
  obtain ⟨a1, a2, a3, a4, a5, a6, vu, vt, vo, e1, e2, e3, e4, e5, e6⟩ := a
  have lu : ∀ b, ownB vu b → b < h.size := by obtain ⟨_, o⟩ := e2.own; exact o.lt
  have lo : ∀ b, ownB vo b → b < h.size := by obtain ⟨_, o⟩ := e3.own; exact o.lt
  refine (decode1_fn a1 a2 e1 e2 a5.1 a5.2.1 (fun b e => ⟨(e5 b e).2.1, (e5 b e).2.2.1, (e5 b e).2.2.2.1⟩) hl).mono (fun _ h' w => ?_)
  obtain ⟨vu', w1, w2, w3, w4, w5⟩ := w
  refine ⟨⟨w3, a2.mod w4 (fun e => ?_), w4.get a3 (fun e => ?_), a4, a5, a6, vu', vt, vo, w1, w2, OwnS.mono e3 w4 (fun b e e' => ?_) (fun _ _ w => w), (e4.mono (B' := fun b => N ≤ b ∧ b ≠ r ∧ b ≠ bR ∧ b ≠ bF ∧ b ≠ b2 ∧ ¬ ownB vu' b ∧ ¬ ownB vo b ∧ ¬ ownB vu b) (fun b hb e => ⟨e.1, e.2.1, e.2.2.1, e.2.2.2.1, e.2.2.2.2.1, fun e' => (w5 b e').elim e.2.2.2.2.2.1 (fun e' => by omega), e.2.2.2.2.2.2, e.2.2.2.2.2.1⟩)).mod w4 (fun b e _ e' => ?_) |>.mono (fun b _ e => ⟨e.1, e.2.1, e.2.2.1, e.2.2.2.1, e.2.2.2.2.1, e.2.2.2.2.2.1, e.2.2.2.2.2.2.1⟩), fun b e => ?_, fun b e => ?_⟩, w4.mono (fun b _ e => ?_)⟩
  · rcases e with e | e | e; exact a5.1 e; exact a5.2.2.2.1 e.symm; exact (e5 _ e).2.2.1 rfl
  · rcases e with e | e | e; exact a5.2.2.1 e; exact a5.2.2.2.2.1 e; exact (e5 _ e).2.2.2.2 rfl
  · rcases e' with e' | e' | e'; exact (e6 b e).2.1 e'; exact (e6 b e).2.2.2.1 e'; exact (e6 b e).2.2.2.2.2 e'
  · rcases e' with e' | e' | e'; exact e.2.1 e'; exact e.2.2.2.1 e'; exact e.2.2.2.2.2.2.2 e'
  · rcases w5 b e with e | e
    · exact e5 b e
    · exact ⟨by omega, by omega, by omega, by omega, by omega⟩
  · obtain ⟨q1, q2, q3, q4, q5, q6⟩ := e6 b e
    exact ⟨q1, q2, q3, q4, q5, fun e' => (w5 b e').elim q6 (fun e' => by have := lo b e; omega)⟩
  · rcases e with e | e | e; (rw [e]; exact a4.1); (rw [e]; exact a4.2.2.1); exact (e5 b e).1
theorem DI.obj {N r bR bF b2 : Nat} {z2 : Array Value} {s : Bytes} {h : Heap} {f : Face} {p : PS} (a : DI N r bR bF b2 z2 s h f p) (hl : f.objs.length ≤ 2147483647) :
    Does Tryz.prog 20 [ptr bR 0, ptr bF 0] h (fun _ h' => DI N r bR bF b2 z2 s h' { f with objs := f.objs ++ [(pOb s p).1] } (pOb s p).2 ∧ Go.Eng.Mod (fun b => N ≤ b) h h') := by
  obtain ⟨l1, l2, l3, l4⟩ := a.lts
  obtain ⟨a1, a2, a3, a4, a5, a6, vu, vt, vo, e1, e2, e3, e4, e5, e6⟩ := a
  have lu : ∀ b, ownB vu b → b < h.size := by obtain ⟨_, o⟩ := e2.own; exact o.lt
  refine (decode3_fn a1 a2 e1 e3 a5.1 a5.2.1 (fun b e => ⟨(e6 b e).2.1, (e6 b e).2.2.1, (e6 b e).2.2.2.1⟩) hl).mono (fun _ h' w => ?_)
  obtain ⟨vo', w1, w2, w3, w4, w5⟩ := w
  refine ⟨⟨w3, a2.mod w4 (fun e => ?_), w4.get a3 (fun e => ?_), a4, a5, a6, vu, vt, vo', w1, OwnS.mono e2 w4 (fun b e e' => ?_) (fun _ _ w => w), w2, (e4.mono (B' := fun b => N ≤ b ∧ b ≠ r ∧ b ≠ bR ∧ b ≠ bF ∧ b ≠ b2 ∧ ¬ ownB vu b ∧ ¬ ownB vo' b ∧ ¬ ownB vo b) (fun b hb e => ⟨e.1, e.2.1, e.2.2.1, e.2.2.2.1, e.2.2.2.2.1, e.2.2.2.2.2.1, fun e' => (w5 b e').elim e.2.2.2.2.2.2 (fun e' => by omega), e.2.2.2.2.2.2⟩)).mod w4 (fun b e _ e' => ?_) |>.mono (fun b _ e => ⟨e.1, e.2.1, e.2.2.1, e.2.2.2.1, e.2.2.2.2.1, e.2.2.2.2.2.1, e.2.2.2.2.2.2.1⟩), e5, fun b e => ?_⟩, w4.mono (fun b _ e => ?_)⟩
  · rcases e with e | e | e; exact a5.1 e; exact a5.2.2.2.1 e.symm; exact (e6 _ e).2.2.1 rfl
  · rcases e with e | e | e; exact a5.2.2.1 e; exact a5.2.2.2.2.1 e; exact (e6 _ e).2.2.2.2.1 rfl
  · rcases e' with e' | e' | e'; exact (e5 b e).2.1 e'; exact (e5 b e).2.2.2.1 e'; exact (e6 b e').2.2.2.2.2 e
  · rcases e' with e' | e' | e'; exact e.2.1 e'; exact e.2.2.2.1 e'; exact e.2.2.2.2.2.2.2 e'
  · rcases w5 b e with e | e
    · exact e6 b e
    · exact ⟨by omega, by omega, by omega, by omega, by omega, fun e' => by have := lu b e'; omega⟩
  · rcases e with e | e | e; (rw [e]; exact a4.1); (rw [e]; exact a4.2.2.1); exact (e6 b e).1
theorem DI.type {N r bR bF b2 : Nat} {z2 : Array Value} {s : Bytes} {h : Heap} {f : Face} {p : PS} (a : DI N r bR bF b2 z2 s h f p) (hl : f.types.length ≤ 2147483655) :
    Does Tryz.prog 18 [ptr bF 0, ptr bR 0] h (fun _ h' => DI N r bR bF b2 z2 s h' { f with types := f.types ++ [(pTy s p).1] } (pTy s p).2 ∧ Go.Eng.Mod (fun b => N ≤ b) h h') := by
  obtain ⟨l1, l2, l3, l4⟩ := a.lts
  obtain ⟨a1, a2, a3, a4, a5, a6, vu, vt, vo, e1, e2, e3, e4, e5, e6⟩ := a
  have lu : ∀ b, ownB vu b → b < h.size := by obtain ⟨_, o⟩ := e2.own; exact o.lt
  have lo : ∀ b, ownB vo b → b < h.size := by obtain ⟨_, o⟩ := e3.own; exact o.lt
  have lw := e4.low
  refine (decode2_fn a1 a2 e1 e4 a5.1 a5.2.1 (fun b e _ => ⟨e.2.1, e.2.2.1, e.2.2.2.1⟩) (fun b e => ⟨by omega, by omega, by omega, by omega, by omega, fun e' => by have := lu b e'; omega, fun e' => by have := lo b e'; omega⟩) hl).mono (fun _ h' w => ?_)
  obtain ⟨vt', w1, w2, w3, w4, w5⟩ := w
  refine ⟨⟨w3, a2.mod w4 (fun e => ?_), w4.get a3 (fun e => ?_), a4, a5, a6, vu, vt', vo, w1, OwnS.mono e2 w4 (fun b e e' => ?_) (fun _ _ w => w), OwnS.mono e3 w4 (fun b e e' => ?_) (fun _ _ w => w), w2, e5, e6⟩, w4.mono (fun b _ e => ?_)⟩
  · rcases e with e | e | e; exact a5.1 e; exact a5.2.2.2.1 e.symm; exact (lw _ e).2.2.1 rfl
  · rcases e with e | e | e; exact a5.2.2.1 e; exact a5.2.2.2.2.1 e; exact (lw _ e).2.2.2.2.1 rfl
  · rcases e' with e' | e' | e'; exact (e5 b e).2.1 e'; exact (e5 b e).2.2.2.1 e'; exact (lw b e').2.2.2.2.2.1 e
  · rcases e' with e' | e' | e'; exact (e6 b e).2.1 e'; exact (e6 b e).2.2.2.1 e'; exact (lw b e').2.2.2.2.2.2 e
  · rcases e with e | e | e; (rw [e]; exact a4.1); (rw [e]; exact a4.2.2.1); exact (lw b e).1
end

/-! The walk of symfile.Decode. No condition but what each theorem says. -/
section
open Go Go.Eng

section
variable {N r bR bF b2 : Nat} {z2 : Array Value} {s : Bytes} {h : Heap} {f : Face} {p : PS}
theorem DI.useds (a : DI N r bR bF b2 z2 s h f p) (hf : f.uses = []) :
    Does Tryz.prog 16 [ptr r 0, .func (.func 17) #[] #[ptr bR 0, ptr bF 0]] h (fun _ h' => DI N r bR bF b2 z2 s h' { f with uses := (pEach s (pUsed s) p).1 } (pEach s (pUsed s) p).2 ∧ Go.Eng.Mod (fun b => N ≤ b) h h') := by
  have K := each_fn (s := s) (r := r) (f := 17) (caps := [ptr bR 0, ptr bF 0]) (m0 := 0) (g := pUsed s) (h := h) (xs := []) (p := p)
    (fun g xs q => DI N r bR bF b2 z2 s g { f with uses := xs } q ∧ Go.Eng.Mod (fun b => N ≤ b) h g) (fun g xs q i => i.1.rd)
    (fun g xs q g' q' i hr m => ⟨i.1.read hr m, i.2.trans (m.mono (fun b _ e => by rw [e]; exact a.low.1))⟩)
    (fun g xs q i _ hl => (i.1.used (by show xs.length ≤ _; omega)).mono (fun _ g' w => ⟨w.1, i.2.trans w.2⟩))
    ⟨by rw [← hf]; exact a, Go.Eng.Mod.refl _ _⟩ (Nat.le_refl _)
  rw [List.nil_append] at K
  exact K
theorem DI.objss (a : DI N r bR bF b2 z2 s h f p) (hf : f.objs = []) :
    Does Tryz.prog 16 [ptr r 0, .func (.func 20) #[] #[ptr bR 0, ptr bF 0]] h (fun _ h' => DI N r bR bF b2 z2 s h' { f with objs := (pEach s (pOb s) p).1 } (pEach s (pOb s) p).2 ∧ Go.Eng.Mod (fun b => N ≤ b) h h') := by
  have K := each_fn (s := s) (r := r) (f := 20) (caps := [ptr bR 0, ptr bF 0]) (m0 := 0) (g := pOb s) (h := h) (xs := []) (p := p)
    (fun g xs q => DI N r bR bF b2 z2 s g { f with objs := xs } q ∧ Go.Eng.Mod (fun b => N ≤ b) h g) (fun g xs q i => i.1.rd)
    (fun g xs q g' q' i hr m => ⟨i.1.read hr m, i.2.trans (m.mono (fun b _ e => by rw [e]; exact a.low.1))⟩)
    (fun g xs q i _ hl => (i.1.obj (by show xs.length ≤ _; omega)).mono (fun _ g' w => ⟨w.1, i.2.trans w.2⟩))
    ⟨by rw [← hf]; exact a, Go.Eng.Mod.refl _ _⟩ (Nat.le_refl _)
  rw [List.nil_append] at K
  exact K
theorem DI.typess (a : DI N r bR bF b2 z2 s h f p) (hf : f.types.length ≤ 8) :
    Does Tryz.prog 16 [ptr r 0, .func (.func 18) #[] #[ptr bF 0, ptr bR 0]] h (fun _ h' => DI N r bR bF b2 z2 s h' { f with types := f.types ++ (pEach s (pTy s) p).1 } (pEach s (pTy s) p).2 ∧ Go.Eng.Mod (fun b => N ≤ b) h h') :=
  each_fn (s := s) (r := r) (f := 18) (caps := [ptr bF 0, ptr bR 0]) (m0 := 8) (g := pTy s) (h := h) (xs := f.types) (p := p)
    (fun g xs q => DI N r bR bF b2 z2 s g { f with types := xs } q ∧ Go.Eng.Mod (fun b => N ≤ b) h g) (fun g xs q i => i.1.rd)
    (fun g xs q g' q' i hr m => ⟨i.1.read hr m, i.2.trans (m.mono (fun b _ e => by rw [e]; exact a.low.1))⟩)
    (fun g xs q i _ hl => (i.1.type (by show xs.length ≤ _; omega)).mono (fun _ g' w => ⟨w.1, i.2.trans w.2⟩))
    ⟨a, Go.Eng.Mod.refl _ _⟩ hf
end
end

/-! The walk of symfile.Decode, itself. No condition but what each theorem says. -/
section
open Go Go.Eng

theorem DI.start {N r bR bF b2 : Nat} {z2 : Array Value} {s : Bytes} {h : Heap} {f : Face} {q : PS} {v : Value} (hr : R.R h r s q.1 q.2) (hc : RdC h bR r) (hz : h[b2]? = some (.cells z2 28 (0, 0)))
    (low : N ≤ r ∧ N ≤ bR ∧ N ≤ bF ∧ N ≤ b2) (ne : bR ≠ r ∧ bF ≠ r ∧ b2 ≠ r ∧ bF ≠ bR ∧ b2 ≠ bF ∧ b2 ≠ bR) (nm : f.name.length ≤ maxLen ∧ inU32 f.key) (hf : f.uses = [] ∧ f.objs = [] ∧ f.types = basic) (hB : BasicR h v)
    (bl : ∀ b, ownB v b → N ≤ b ∧ b ≠ r ∧ b ≠ bR ∧ b ≠ bF ∧ b ≠ b2) (hF : h[bF]? = some (.cells (faceCells f (.slice none 0 0) v (.slice none 0 0)) 28 (0, 0))) : DI N r bR bF b2 z2 s h f q :=
  have no : ∀ b, ¬ ownB (.slice none 0 0) b := fun b e => by simp [ownB, Value.ownBlock] at e
  ⟨hr, hc, hz, low, ne, nm, _, _, _, hF, by rw [hf.1]; exact OwnS.nil _ _ _ _, by rw [hf.2.1]; exact OwnS.nil _ _ _ _, by rw [hf.2.2]; exact basic_own hB (fun b e => ⟨(bl b e).1, (bl b e).2.1, (bl b e).2.2.1, (bl b e).2.2.2.1, (bl b e).2.2.2.2, no b, no b⟩), fun b e => absurd e (no b), fun b e => absurd e (no b)⟩
def DecOk (s : Bytes) : Prop := (pText s (0, false)).1 = magic ∧ (pFace s (pText s (0, false)).2).2 = (s.length, false) ∧ EncR (pFace s (pText s (0, false)).2).1 s 0
/-- what reading a file answers -/
def DecR (s : Bytes) (g : Face) (e : Int) : Prop := (e = 0 ∧ DecOk s ∧ g = (pFace s (pText s (0, false)).2).1) ∨ (e = 170 ∧ g = zeroF ∧ ¬ DecOk s)
set_option maxHeartbeats 2000000 in
theorem decode_fn {s : Bytes} (hs : s.length ≤ 1073741824) {h : Heap} : Does Tryz.prog 5 [str s] h (fun v h' => ∃ fv g e, v = .tuple #[fv, i64 e] ∧ FaceV h'.size h' fv g ∧ CapT fv g ∧ Ext h h' ∧ DecR s g e) := by
  have hmx : maxLen = 9223372036854775807 := by decide
  refine fn_enter (N := 48) Tryz.func5 (by kernel_rfl) rfl rfl rfl (fun w0 => ?_)
  refine c_seq ?_; refine c_reg ?_; refine alc nofun rfl (fun h1 n1 => ?_)
  have s1 := n1.size
  have b2_1 := n1.at_
  refine asg rfl rfl ?_; refine o_nil ?_; refine x_seq ?_; refine c_seq ?_; refine c_reg ?_
  refine mv rfl rfl (cl (vs := [str s]) rfl (R.Read_fn s hs h1) rfl (fun v2 h2 r2 => ?_))
  obtain ⟨rfl, r2, x2⟩ := r2
  have s2 := x2.size
  have l2 := R_lt r2
  have b2_2 := Ext.get x2 b2_1
  refine alc nofun rfl (fun h3 n3 => ?_)
  have s3 := n3.size
  have b2_3 := n3.ext.get b2_2
  have r3 := r2.mod n3.ext (fun e => e)
  refine st rfl rfl rfl n3.at_ rfl nofun (fun h4 u4 => ?_)
  have s4 := u4.mod.size
  have c4 : RdC h4 h2.size h1.size := u4.at_
  have b2_4 := u4.ne b2_3 (by omega)
  have r4 := r3.mod u4.mod (fun e => by have e : h1.size = h2.size := e; omega)
  have M4 : Go.Eng.Mod (fun b => h.size ≤ b) h h4 := (((n1.ext.mod _).trans (x2.mod _)).trans (n3.ext.mod _)).upd u4 (.inr (by omega))
  refine o_nil ?_; refine x_seq ?_
  refine c_seq ?_; refine c_seq ?_; refine c_reg ?_
  refine ld rfl c4.cell rfl (cl (vs := [ptr h1.size 0]) rfl (text_fn (q := (0, false)) r4) rfl (fun v5 h5 r5 => ?_))
  obtain ⟨rfl, r5, m5⟩ := r5
  have s5 := m5.size
  have c5 := c4.mod m5 (by omega)
  have M5 := M4.trans (m5.mono (S' := fun b => h.size ≤ b) (fun b _ e => by omega))
  obtain ⟨z2, hz2, zz2⟩ : ∃ z : Array Value, h5[h.size]? = some (.cells z 28 (0, 0)) ∧ z.size = 5 := ⟨_, m5.get b2_4 (fun e => by have e : h.size = h1.size := e; omega), rfl⟩
  refine nes rfl rfl rfl ?_; refine o_nil ?_; refine x_seq ?_; refine c_cond rfl (fun c6 => ?_) (fun c6 => ?_)
  · refine c_seq ?_; refine c_reg ?_
    refine bld (vs := []) (v := .agg #[str [], .int .u32 0, .slice none 0 0, .slice none 0 0, .slice none 0 0]) rfl (fun _ => by kernel_rfl) rfl (stw rfl rfl rfl (ones rfl) hz2 zz2 nofun (fun h7 u7 => ?_))
    refine asg rfl rfl ?_; refine o_nil ?_; refine x_seq ?_; refine c_ret ?_; refine x_seq_ret ?_
    refine retc2 (.inr rfl) rfl rfl rfl rfl (row_blk u7.at_) ?_
    exact ⟨_, zeroF, 170, rfl, zero_face _, fun _ _ _ _ _ _ _ => Nat.zero_le _, (M5.upd u7 (.inr (Nat.le_refl _))).mono (fun b hb e => by omega), .inr ⟨rfl, rfl, fun e => c6 e.1⟩⟩
  · refine c_skip ?_; refine x_seq ?_
    refine c_cut (α := Nat × Heap) (fun y => [(0, str s), (2, ptr h.size 0), (3, i64 0), (4, ptr h2.size 0), (5, ptr y.1 0)]) (fun y => y.2)
      (fun y => DI h.size h1.size h2.size y.1 h.size z2 s y.2 ⟨(pText s (pText s (0, false)).2).1, (pWord s (pText s (pText s (0, false)).2).2).1, [], basic, []⟩ (pWord s (pText s (pText s (0, false)).2).2).2 ∧ Go.Eng.Mod (fun b => h.size ≤ b) h y.2) ?_ ?_
    · refine c_treg (fun h' => RdC h' h2.size h1.size) (some 7) [7, 6, 5, 4, 3, 1, 2, 0] (.fork [0, 2] 1 (.fork [] 3 (.fork [] 4 (.leaf [5, 6] [7]) 6 (.leaf [4, 5] [7])) 6 (.leaf [3, 4, 5] [7])) 6 (.leaf [1, 3, 4, 5] [7])) rfl c5 (by kernel_rfl) ?_
      have z5 := hz2
      refine t_fork ?_; refine ldI rfl (fun _ i => RdC.cell i) rfl (ldI rfl (fun _ i => RdC.cell i) rfl ?_)
      refine o_nil ?_
      refine x_fork ?_ ?_
      · skip
        refine clI (vs := [ptr h1.size 0]) rfl (text_fn (q := (pText s (0, false)).2) r5) (fun _ _ w => c5.mod w.2.2 (by omega)) rfl (fun v6 h6 r6 => ?_)
        obtain ⟨rfl, r6, m6⟩ := r6
        have M6 := M5.trans (m6.mono (S' := fun b => h.size ≤ b) (fun b _ e => by omega))
        have s6 := m6.size
        have c6 : RdC h6 h2.size h1.size := c5.mod m6 (fun e => by have e : h2.size = h1.size := e; omega)
        have z6 := Go.Eng.Mod.get m6 z5 (fun e => by have e : h.size = h1.size := e; omega)
        refine o_nil ?_; refine x_kT ?_; refine t_fork ?_; refine o_nil ?_
        refine x_fork ?_ ?_
        · skip
          refine clI (vs := [ptr h1.size 0]) rfl (word_fn (q := (pText s (pText s (0, false)).2).2) r6) (fun _ _ w => c6.mod w.2.2 (by omega)) rfl (fun v7 h7 r7 => ?_)
          obtain ⟨rfl, r7, m7⟩ := r7
          have M7 := M6.trans (m7.mono (S' := fun b => h.size ≤ b) (fun b _ e => by omega))
          have s7 := m7.size
          have c7 : RdC h7 h2.size h1.size := c6.mod m7 (fun e => by have e : h2.size = h1.size := e; omega)
          have z7 := Go.Eng.Mod.get m7 z6 (fun e => by have e : h.size = h1.size := e; omega)
          refine o_nil ?_; refine x_kT ?_; refine t_fork ?_; refine o_nil ?_
          refine x_fork ?_ ?_
          · skip
            refine clI (vs := []) rfl (basicT_fn (h := h7)) (fun _ _ w => c7.mod w.2.1 (fun e => e)) rfl (fun v8 h8 w8 => ?_)
            obtain ⟨B8, m8, f8⟩ := w8
            have r8 := r7.mod m8 (fun e => e)
            have M8 := M7.trans (m8.mono (fun _ _ e => e.elim))
            have s8 := m8.size
            have c8 : RdC h8 h2.size h1.size := c7.mod m8 (fun e => e)
            have z8 := Go.Eng.Mod.get m8 z7 (fun e => e)
            refine o_nil ?_; refine x_kT ?_; refine t_leaf ?_
            have ov : v8.oneCell' = true := by obtain ⟨_, o⟩ := B8.own; exact o.one
            have lv : ∀ b, ownB v8 b → b < h8.size := by obtain ⟨_, o⟩ := B8.own; exact o.lt
            obtain ⟨aa, ac, rfl⟩ : ∃ a c, v8 = .slice a basic.length c := by obtain ⟨_, o⟩ := B8.own; exact o.form
            refine bld (vs := [(0, str (pText s (pText s (0, false)).2).1), (1, .int .u32 (pWord s (pText s (pText s (0, false)).2).2).1), (3, .slice aa basic.length ac)]) (v := .agg #[str (pText s (pText s (0, false)).2).1, .int .u32 (pWord s (pText s (pText s (0, false)).2).2).1, .slice none 0 0, .slice aa basic.length ac, .slice none 0 0]) rfl (fun _ => by kernel_rfl) rfl ?_
            refine alc (fun _ h' n' => c8.mod n'.ext (fun e => e)) rfl (fun h9 n9 => ?_)
            have s9 := n9.size
            have a9 := n9.at_
            have r9 := r8.mod n9.ext (fun e => e)
            have M9 := M8.trans (n9.ext.mod _)
            have c9 : RdC h9 h2.size h1.size := c8.mod n9.ext (fun e => e)
            have z9 := n9.ext.get z8
            have B9 : BasicR h9 (.slice aa basic.length ac) := OwnS.mono B8 n9.ext (fun _ _ e => e) (fun _ _ w => w)
            refine o_nil ?_; refine x_tail ?_; refine stw rfl rfl rfl (by intro u hu; simp at hu; rcases hu with rfl | rfl | rfl | rfl | rfl <;> first | rfl | exact ov) a9 rfl nofun (fun h10 u10 => ?_)
            refine o_nil ?_
            exact x_cut (h8.size, h10) ⟨DI.start (v := .slice aa basic.length ac) (r9.mod u10.mod (fun e => by have e : h1.size = h8.size := e; omega)) (c9.mod u10.mod (fun e => by have e : h2.size = h8.size := e; omega)) (u10.ne z9 (by omega)) (by omega) (by omega) ⟨by have := pText_len s (pText s (0, false)).2; show (pText s (pText s (0, false)).2).1.length ≤ maxLen; omega, pWord_in _ _⟩ ⟨rfl, rfl, rfl⟩ (OwnS.mono B9 u10.mod (fun b e e' => by have e' : b = h8.size := e'; have := f8 b e; have := lv b e; omega) (fun _ _ w => w)) (fun b e => by have := f8 b e; have := lv b e; omega) u10.at_, M9.upd u10 (.inr (by omega))⟩ ⟨rfl, rfl, rfl, rfl, rfl, trivial⟩ rfl
          · skip
            refine alc (fun _ h' n' => c7.mod n'.ext (fun e => e)) rfl (fun h11 n11 => ?_)
            have s11 := n11.size
            have a11 := n11.at_
            have r11 := r7.mod n11.ext (fun e => e)
            have M11 := M7.trans (n11.ext.mod _)
            have c11 : RdC h11 h2.size h1.size := c7.mod n11.ext (fun e => e)
            have z11 := n11.ext.get z7
            refine o_nil ?_; refine x_kT ?_; refine t_leaf ?_
            refine clI (vs := []) rfl (basicT_fn (h := h11)) (fun _ _ w => c11.mod w.2.1 (fun e => e)) rfl (fun v12 h12 w12 => ?_)
            obtain ⟨B12, m12, f12⟩ := w12
            have r12 := r11.mod m12 (fun e => e)
            have M12 := M11.trans (m12.mono (fun _ _ e => e.elim))
            have s12 := m12.size
            have c12 : RdC h12 h2.size h1.size := c11.mod m12 (fun e => e)
            have z12 := Go.Eng.Mod.get m12 z11 (fun e => e)
            have a12 := Go.Eng.Mod.get m12 a11 (fun e => e)
            have ov : v12.oneCell' = true := by obtain ⟨_, o⟩ := B12.own; exact o.one
            have lv : ∀ b, ownB v12 b → b < h12.size := by obtain ⟨_, o⟩ := B12.own; exact o.lt
            obtain ⟨aa, ac, rfl⟩ : ∃ a c, v12 = .slice a basic.length c := by obtain ⟨_, o⟩ := B12.own; exact o.form
            refine bld (vs := [(0, str (pText s (pText s (0, false)).2).1), (1, .int .u32 (pWord s (pText s (pText s (0, false)).2).2).1), (3, .slice aa basic.length ac)]) (v := .agg #[str (pText s (pText s (0, false)).2).1, .int .u32 (pWord s (pText s (pText s (0, false)).2).2).1, .slice none 0 0, .slice aa basic.length ac, .slice none 0 0]) rfl (fun _ => by kernel_rfl) rfl ?_
            refine o_nil ?_; refine x_tail ?_; refine stw rfl rfl rfl (by intro u hu; simp at hu; rcases hu with rfl | rfl | rfl | rfl | rfl <;> first | rfl | exact ov) a12 rfl nofun (fun h13 u13 => ?_)
            refine o_nil ?_
            exact x_cut (h7.size, h13) ⟨DI.start (v := .slice aa basic.length ac) (r12.mod u13.mod (fun e => by have e : h1.size = h7.size := e; omega)) (c12.mod u13.mod (fun e => by have e : h2.size = h7.size := e; omega)) (u13.ne z12 (by omega)) (by omega) (by omega) ⟨by have := pText_len s (pText s (0, false)).2; show (pText s (pText s (0, false)).2).1.length ≤ maxLen; omega, pWord_in _ _⟩ ⟨rfl, rfl, rfl⟩ (OwnS.mono B12 u13.mod (fun b e e' => by have e' : b = h7.size := e'; have := f12 b e; have := lv b e; omega) (fun _ _ w => w)) (fun b e => by have := f12 b e; have := lv b e; omega) u13.at_, M12.upd u13 (.inr (by omega))⟩ ⟨rfl, rfl, rfl, rfl, rfl, trivial⟩ rfl
        · skip
          refine alc (fun _ h' n' => c6.mod n'.ext (fun e => e)) rfl (fun h14 n14 => ?_)
          have s14 := n14.size
          have a14 := n14.at_
          have r14 := r6.mod n14.ext (fun e => e)
          have M14 := M6.trans (n14.ext.mod _)
          have c14 : RdC h14 h2.size h1.size := c6.mod n14.ext (fun e => e)
          have z14 := n14.ext.get z6
          refine o_nil ?_; refine x_kT ?_; refine t_leaf ?_
          refine clI (vs := [ptr h1.size 0]) rfl (word_fn (q := (pText s (pText s (0, false)).2).2) r14) (fun _ _ w => c14.mod w.2.2 (by omega)) rfl (fun v15 h15 r15 => ?_)
          obtain ⟨rfl, r15, m15⟩ := r15
          have M15 := M14.trans (m15.mono (S' := fun b => h.size ≤ b) (fun b _ e => by omega))
          have s15 := m15.size
          have c15 : RdC h15 h2.size h1.size := c14.mod m15 (fun e => by have e : h2.size = h1.size := e; omega)
          have z15 := Go.Eng.Mod.get m15 z14 (fun e => by have e : h.size = h1.size := e; omega)
          have a15 := Go.Eng.Mod.get m15 a14 (fun e => by have e : h6.size = h1.size := e; omega)
          refine clI (vs := []) rfl (basicT_fn (h := h15)) (fun _ _ w => c15.mod w.2.1 (fun e => e)) rfl (fun v16 h16 w16 => ?_)
          obtain ⟨B16, m16, f16⟩ := w16
          have r16 := r15.mod m16 (fun e => e)
          have M16 := M15.trans (m16.mono (fun _ _ e => e.elim))
          have s16 := m16.size
          have c16 : RdC h16 h2.size h1.size := c15.mod m16 (fun e => e)
          have z16 := Go.Eng.Mod.get m16 z15 (fun e => e)
          have a16 := Go.Eng.Mod.get m16 a15 (fun e => e)
          have ov : v16.oneCell' = true := by obtain ⟨_, o⟩ := B16.own; exact o.one
          have lv : ∀ b, ownB v16 b → b < h16.size := by obtain ⟨_, o⟩ := B16.own; exact o.lt
          obtain ⟨aa, ac, rfl⟩ : ∃ a c, v16 = .slice a basic.length c := by obtain ⟨_, o⟩ := B16.own; exact o.form
          refine bld (vs := [(0, str (pText s (pText s (0, false)).2).1), (1, .int .u32 (pWord s (pText s (pText s (0, false)).2).2).1), (3, .slice aa basic.length ac)]) (v := .agg #[str (pText s (pText s (0, false)).2).1, .int .u32 (pWord s (pText s (pText s (0, false)).2).2).1, .slice none 0 0, .slice aa basic.length ac, .slice none 0 0]) rfl (fun _ => by kernel_rfl) rfl ?_
          refine o_nil ?_; refine x_tail ?_; refine stw rfl rfl rfl (by intro u hu; simp at hu; rcases hu with rfl | rfl | rfl | rfl | rfl <;> first | rfl | exact ov) a16 rfl nofun (fun h17 u17 => ?_)
          refine o_nil ?_
          exact x_cut (h6.size, h17) ⟨DI.start (v := .slice aa basic.length ac) (r16.mod u17.mod (fun e => by have e : h1.size = h6.size := e; omega)) (c16.mod u17.mod (fun e => by have e : h2.size = h6.size := e; omega)) (u17.ne z16 (by omega)) (by omega) (by omega) ⟨by have := pText_len s (pText s (0, false)).2; show (pText s (pText s (0, false)).2).1.length ≤ maxLen; omega, pWord_in _ _⟩ ⟨rfl, rfl, rfl⟩ (OwnS.mono B16 u17.mod (fun b e e' => by have e' : b = h6.size := e'; have := f16 b e; have := lv b e; omega) (fun _ _ w => w)) (fun b e => by have := f16 b e; have := lv b e; omega) u17.at_, M16.upd u17 (.inr (by omega))⟩ ⟨rfl, rfl, rfl, rfl, rfl, trivial⟩ rfl
      · skip
        refine alc (fun _ h' n' => c5.mod n'.ext (fun e => e)) rfl (fun h18 n18 => ?_)
        have s18 := n18.size
        have a18 := n18.at_
        have r18 := r5.mod n18.ext (fun e => e)
        have M18 := M5.trans (n18.ext.mod _)
        have c18 : RdC h18 h2.size h1.size := c5.mod n18.ext (fun e => e)
        have z18 := n18.ext.get z5
        refine o_nil ?_; refine x_kT ?_; refine t_leaf ?_
        refine clI (vs := [ptr h1.size 0]) rfl (text_fn (q := (pText s (0, false)).2) r18) (fun _ _ w => c18.mod w.2.2 (by omega)) rfl (fun v19 h19 r19 => ?_)
        obtain ⟨rfl, r19, m19⟩ := r19
        have M19 := M18.trans (m19.mono (S' := fun b => h.size ≤ b) (fun b _ e => by omega))
        have s19 := m19.size
        have c19 : RdC h19 h2.size h1.size := c18.mod m19 (fun e => by have e : h2.size = h1.size := e; omega)
        have z19 := Go.Eng.Mod.get m19 z18 (fun e => by have e : h.size = h1.size := e; omega)
        have a19 := Go.Eng.Mod.get m19 a18 (fun e => by have e : h5.size = h1.size := e; omega)
        refine clI (vs := [ptr h1.size 0]) rfl (word_fn (q := (pText s (pText s (0, false)).2).2) r19) (fun _ _ w => c19.mod w.2.2 (by omega)) rfl (fun v20 h20 r20 => ?_)
        obtain ⟨rfl, r20, m20⟩ := r20
        have M20 := M19.trans (m20.mono (S' := fun b => h.size ≤ b) (fun b _ e => by omega))
        have s20 := m20.size
        have c20 : RdC h20 h2.size h1.size := c19.mod m20 (fun e => by have e : h2.size = h1.size := e; omega)
        have z20 := Go.Eng.Mod.get m20 z19 (fun e => by have e : h.size = h1.size := e; omega)
        have a20 := Go.Eng.Mod.get m20 a19 (fun e => by have e : h5.size = h1.size := e; omega)
        refine clI (vs := []) rfl (basicT_fn (h := h20)) (fun _ _ w => c20.mod w.2.1 (fun e => e)) rfl (fun v21 h21 w21 => ?_)
        obtain ⟨B21, m21, f21⟩ := w21
        have r21 := r20.mod m21 (fun e => e)
        have M21 := M20.trans (m21.mono (fun _ _ e => e.elim))
        have s21 := m21.size
        have c21 : RdC h21 h2.size h1.size := c20.mod m21 (fun e => e)
        have z21 := Go.Eng.Mod.get m21 z20 (fun e => e)
        have a21 := Go.Eng.Mod.get m21 a20 (fun e => e)
        have ov : v21.oneCell' = true := by obtain ⟨_, o⟩ := B21.own; exact o.one
        have lv : ∀ b, ownB v21 b → b < h21.size := by obtain ⟨_, o⟩ := B21.own; exact o.lt
        obtain ⟨aa, ac, rfl⟩ : ∃ a c, v21 = .slice a basic.length c := by obtain ⟨_, o⟩ := B21.own; exact o.form
        refine bld (vs := [(0, str (pText s (pText s (0, false)).2).1), (1, .int .u32 (pWord s (pText s (pText s (0, false)).2).2).1), (3, .slice aa basic.length ac)]) (v := .agg #[str (pText s (pText s (0, false)).2).1, .int .u32 (pWord s (pText s (pText s (0, false)).2).2).1, .slice none 0 0, .slice aa basic.length ac, .slice none 0 0]) rfl (fun _ => by kernel_rfl) rfl ?_
        refine o_nil ?_; refine x_tail ?_; refine stw rfl rfl rfl (by intro u hu; simp at hu; rcases hu with rfl | rfl | rfl | rfl | rfl <;> first | rfl | exact ov) a21 rfl nofun (fun h22 u22 => ?_)
        refine o_nil ?_
        exact x_cut (h5.size, h22) ⟨DI.start (v := .slice aa basic.length ac) (r21.mod u22.mod (fun e => by have e : h1.size = h5.size := e; omega)) (c21.mod u22.mod (fun e => by have e : h2.size = h5.size := e; omega)) (u22.ne z21 (by omega)) (by omega) (by omega) ⟨by have := pText_len s (pText s (0, false)).2; show (pText s (pText s (0, false)).2).1.length ≤ maxLen; omega, pWord_in _ _⟩ ⟨rfl, rfl, rfl⟩ (OwnS.mono B21 u22.mod (fun b e e' => by have e' : b = h5.size := e'; have := f21 b e; have := lv b e; omega) (fun _ _ w => w)) (fun b e => by have := f21 b e; have := lv b e; omega) u22.at_, M21.upd u22 (.inr (by omega))⟩ ⟨rfl, rfl, rfl, rfl, rfl, trivial⟩ rfl
    rintro ⟨bF, g⟩ ⟨I5, M5⟩
    refine c_seq ?_; refine c_reg ?_
    refine ld rfl I5.rc.cell rfl (mkf (vs := []) (us := [ptr h2.size 0, ptr bF 0]) rfl rfl rfl (cl (vs := [ptr h1.size 0, .func (.func 17) #[] #[ptr h2.size 0, ptr bF 0]]) rfl (I5.useds rfl) rfl (fun v13 h13 r13 => ?_)))
    obtain ⟨I6, M6⟩ := r13
    refine o_nil ?_; refine x_seq ?_; refine c_seq ?_; refine c_reg ?_
    refine ld rfl I6.rc.cell rfl (mkf (vs := []) (us := [ptr bF 0, ptr h2.size 0]) rfl rfl rfl (cl (vs := [ptr h1.size 0, .func (.func 18) #[] #[ptr bF 0, ptr h2.size 0]]) rfl (I6.typess (show basic.length ≤ 8 by decide)) rfl (fun v14 h14 r14 => ?_)))
    obtain ⟨I7, M7⟩ := r14
    refine o_nil ?_; refine x_seq ?_; refine c_seq ?_; refine c_reg ?_
    refine ld rfl I7.rc.cell rfl (mkf (vs := []) (us := [ptr h2.size 0, ptr bF 0]) rfl rfl rfl (cl (vs := [ptr h1.size 0, .func (.func 20) #[] #[ptr h2.size 0, ptr bF 0]]) rfl (I7.objss rfl) rfl (fun v15 h15 r15 => ?_)))
    obtain ⟨I8, M8⟩ := r15
    refine o_nil ?_; refine x_seq ?_
    have I9 : DI h.size h1.size h2.size bF h.size z2 s h15 (pFace s (pText s (0, false)).2).1 (pFace s (pText s (0, false)).2).2 := I8
    have lu : (pFace s (pText s (0, false)).2).1.uses.length ≤ maxLen := Nat.le_trans (pEach_len (s := s) (g := pUsed s) _) (by omega)
    have lo : (pFace s (pText s (0, false)).2).1.objs.length ≤ maxLen := Nat.le_trans (pEach_len (s := s) (g := pOb s) _) (by omega)
    have lt : (pFace s (pText s (0, false)).2).1.types.length ≤ maxLen := by
      have := pEach_len (s := s) (g := pTy s) (pEach s (pUsed s) (pWord s (pText s (pText s (0, false)).2).2).2).2
      show (basic ++ _).length ≤ _
      rw [List.length_append]
      have hb : basic.length = 7 := by decide
      omega
    obtain ⟨F, hF⟩ : ∃ F, F = pFace s (pText s (0, false)).2 := ⟨_, rfl⟩
    rw [← hF] at I9 lu lo lt
    obtain ⟨vu, vt, vo, e1, e2, e3, e4, e5, e6⟩ := I9.at_
    have FV := face_parts I9.nm.1 I9.nm.2 e2 e4 e3 lu lt lo
    have CT : CapT (.agg #[str F.1.name, .int .u32 F.1.key, vu, vt, vo]) F.1 := by
      intro _ _ _ _ _ _ e
      cases e
      exact ownS_cap e4.own
    refine c_seq ?_; refine c_seq ?_; refine c_reg ?_
    refine ldn rfl rfl (row_blk e1) rfl (cl (vs := [.agg #[str F.1.name, .int .u32 F.1.key, vu, vt, vo]]) rfl (encode_fn FV CT) rfl (fun v16 h16 r16 => ?_))
    obtain ⟨t, e, rfl, hE, x16⟩ := r16
    have rc16 := I9.rc.mod x16 (fun e => e)
    have rd16 := I9.rd.mod x16 (fun e => e)
    have zz16 := Ext.get x16 I9.z
    have ee16 := Ext.get x16 e1
    refine mv rfl rfl (ext rfl rfl rfl (ext rfl rfl rfl (asg rfl rfl (asg rfl rfl ?_))))
    refine o_nil ?_; refine x_seq ?_; refine c_seq ?_; refine c_reg ?_
    refine ld rfl rc16.cell rfl (cl (vs := [ptr h1.size 0]) rfl (R.REnd_fn rd16) rfl (fun v17 h17 r17 => ?_))
    obtain ⟨rfl, rfl⟩ := r17
    refine nt rfl rfl (mv rfl rfl (gqf rfl rfl rfl (fun e => mv rfl rfl) (gqf rfl rfl rfl (fun e => nei (cg rfl e) rfl rfl) (pko rfl rfl rfl rfl (mv rfl rfl (gqf rfl rfl rfl (fun e => mv rfl rfl) ?_))))))
    refine gqf rfl rfl rfl (fun e => mv rfl rfl) (gqf rfl rfl rfl (fun e => nes (cg rfl e) (cg rfl e) rfl) (pko rfl rfl rfl rfl ?_))
    have c6' : (pText s (0, false)).1 = magic := Classical.not_not.1 c6
    have hone : ∀ u ∈ [str F.1.name, .int .u32 F.1.key, vu, vt, vo], u.oneCell' = true := by
      intro u hu
      simp only [List.mem_cons, List.not_mem_nil, or_false] at hu
      rcases hu with hu | hu | hu | hu | hu
      · rw [hu]; rfl
      · rw [hu]; rfl
      · rw [hu]; obtain ⟨_, o⟩ := e2.own; exact o.one
      · rw [hu]; obtain ⟨_, o⟩ := e4.own.own; exact o.one
      · rw [hu]; obtain ⟨_, o⟩ := e3.own; exact o.one
    have MM := ((M5.trans M6).trans M7).trans M8 |>.trans (x16.mod _)
    have lz := I9.lts
    have lx := x16.size
    refine o_nil ?_; refine x_seq ?_; refine c_cond rfl (fun c18 => ?_) (fun c18 => ?_)
    · refine c_seq ?_; refine c_reg ?_
      refine bld (vs := []) (v := .agg #[str [], .int .u32 0, .slice none 0 0, .slice none 0 0, .slice none 0 0]) rfl (fun _ => by kernel_rfl) rfl (stw rfl rfl rfl (ones rfl) zz16 zz2 nofun (fun h19 u19 => ?_))
      refine asg rfl rfl ?_; refine o_nil ?_; refine x_seq ?_; refine c_ret ?_; refine x_seq_ret ?_
      refine retc2 (.inr rfl) rfl rfl rfl rfl (row_blk u19.at_) ?_
      refine ⟨_, zeroF, 170, rfl, zero_face _, fun _ _ _ _ _ _ _ => Nat.zero_le _, (MM.upd u19 (.inr (Nat.le_refl _))).mono (fun b hb e => by omega), .inr ⟨rfl, rfl, fun ⟨_, d2, d3⟩ => ?_⟩⟩
      rw [← hF] at d2 d3
      obtain ⟨q1, q2⟩ := encR_fun hE d3
      subst q1 q2
      rw [d2] at c18
      simp at c18
    · refine c_skip ?_; refine x_seq ?_; refine c_seq ?_; refine c_reg ?_
      refine ldn rfl rfl (row_blk ee16) rfl (stw rfl rfl rfl hone zz16 zz2 nofun (fun h20 u20 => ?_))
      refine asg rfl rfl ?_; refine o_nil ?_; refine x_seq ?_; refine c_ret ?_; refine retc2 (.inr rfl) rfl rfl rfl rfl (row_blk u20.at_) ?_
      simp at c18
      obtain ⟨⟨⟨k1, k2⟩, k3⟩, k4⟩ := c18
      subst k3 k4
      have m20 := (x16.mod (fun b => b = h.size)).trans u20.mod
      have d2 : F.2 = (t.length, false) := Prod.ext k2 k1
      exact ⟨_, F.1, 0, rfl, face_parts I9.nm.1 I9.nm.2 (OwnS.mono e2 m20 (fun b e => (e5 b e).2.2.2.2) (fun _ _ w => w)) (e4.mod m20 (fun b e _ => e.2.2.2.2.1)) (OwnS.mono e3 m20 (fun b e => (e6 b e).2.2.2.2.1) (fun _ _ w => w)) lu lt lo, CT, (MM.upd u20 (.inr (Nat.le_refl _))).mono (fun b hb e => by omega), .inl ⟨rfl, ⟨c6', by rw [← hF]; exact d2, by rw [← hF]; exact hE⟩, by rw [← hF]⟩⟩
end
end Go.Proofs.YtgnkfegkdjfnjaaGreat
