/- The walk of the reference's reading of a file. No condition but what each theorem says. -/
import Derived.Test.YtgnkfegkdjfnjaaGreatSqb
namespace Go.Proofs.YtgnkfegkdjfnjaaGreat
open Go Go.Eng

theorem many_len {α : Type} {g : PS → α × PS} : ∀ (n : Nat) (p : PS), (pMany g n p).1.length ≤ n
  | 0, _ => Nat.le_refl _
  | n + 1, p => by
    unfold pMany
    split
    · exact Nat.zero_le _
    · rw [List.length_cons]; have := many_len n (g p).2 (g := g); omega
theorem reach_len {α : Type} {s : Bytes} {g : PS → α × PS} {most : Int} (h : 0 ≤ most) (p : PS) : ((rEach s most g p).1.length : Int) ≤ most := by
  have h1 := many_len (g := g) (rCount s most p).1.toNat (rCount s most p).2
  have h2 := rCount_in (s := s) (p := p) h
  unfold rEach
  omega
theorem rTy_fits (s : Bytes) (p : PS) : (rTy s p).1.fits := by
  have hmx : maxLen = 9223372036854775807 := by decide
  have h1 : ∀ p, (pText s p).1.length ≤ maxLen := fun p => by have := pText_len s p; omega
  have h2 : ∀ p, in64 (pByte s p).1 := fun p => by have := pByte_in s p; unfold in64; omega
  exact ⟨h1 _, h1 _, h2 _, pNum_in _ _, pNum_in _ _, pNum_in _ _, pNum_in _ _, pNum_in _ _⟩
theorem ob_in (s : Bytes) (p : PS) (h : Heap) : objR h (pOb s p).1 [i64 (pOb s p).1.cls, str (pOb s p).1.name, i64 (pOb s p).1.type, i64 (pOb s p).1.val.form, i64 (pOb s p).1.val.n, str (pOb s p).1.val.text, i64 (pOb s p).1.n] := by
  have hmx : maxLen = 9223372036854775807 := by decide
  have ht : ∀ q, (pText s q).1.length ≤ maxLen := fun q => by have := pText_len s q; omega
  have hb : ∀ q, in64 (pByte s q).1 := fun q => by have := pByte_in s q; unfold in64; omega
  refine ⟨rfl, ht _, ht _, hb _, pNum_in _ _, hb _, ?_, pNum_in _ _⟩
  have hn : ∀ (f n : Int), in64 n → in64 (if f = 4 then IntKind.u32.wrap n else n) := fun f n h => by
    split
    · unfold in64
      simp only [IntKind.wrap, IntKind.bits, IntKind.signed]
      simp
      omega
    · exact h
  exact hn _ _ (pNum_in _ _)
/-- where the lists of a file begin -/
def fP (s : Bytes) : PS := (pWord s (pText s (pText s (0, false)).2).2).2
def fcs (s : Bytes) (vu vt vo : Value) : Array Value := #[str (pText s (pText s (0, false)).2).1, .int .u32 (pWord s (pText s (pText s (0, false)).2).2).1, vu, vt, vo]
theorem rFace_eq {s : Bytes} {us : List Used} {ts : List Ty} {os : List Ob} {p1 p2 p3 : PS} (h1 : rEach s 16 (pUsed s) (fP s) = (us, p1)) (h2 : rEach s 249 (rTy s) p1 = (ts, p2)) (h3 : rEach s 64 (pOb s) p2 = (os, p3)) :
    rFace s (pText s (0, false)).2 = (⟨(pText s (pText s (0, false)).2).1, (pWord s (pText s (pText s (0, false)).2).2).1, us, basic ++ ts, os⟩, p3) := by
  unfold fP at h1
  simp only [rFace, h1, h2, h3]
variable {h : Heap} {x q : Nat} {s : Bytes} {p : PS}
/-- a reader whose blocks are new since h0; what was there at h0 has not changed -/
structure RdA (h0 : Heap) (x q : Nat) (s : Bytes) (p : PS) (h : Heap) : Prop where
  rx : RdX h x q s p
  k : At h0.size h0 h
  lx : h0.size ≤ x
  lq : h0.size ≤ q
theorem RdA.ext {h0 h' : Heap} (a : RdA h0 x q s p h) (e : Ext h h') : RdA h0 x q s p h' := ⟨a.rx.mod (e.mod (fun _ => False)) (fun e => e) (fun e => e), a.k.ext e, a.lx, a.lq⟩
theorem RdA.upd {h0 h' : Heap} {b : Nat} {c : Obj} (a : RdA h0 x q s p h) (u : Upd h b c h') (hb : h0.size ≤ b ∧ b ≠ x ∧ b ≠ q) : RdA h0 x q s p h' :=
  ⟨a.rx.mod u.mod (fun e => hb.2.1 e.symm) (fun e => hb.2.2 e.symm), a.k.upd u hb.1, a.lx, a.lq⟩
theorem RdA.call {h0 h' : Heap} {p' : PS} (a : RdA h0 x q s p h) (r : RdX h' x q s p' ∧ Go.Eng.Mod (· = q) h h') : RdA h0 x q s p' h' := ⟨r.1, a.k.mod r.2 (fun k e => by have e : k = q := e; have := a.lq; omega), a.lx, a.lq⟩
theorem RdA.app {S : Nat → Prop} {h0 h' : Heap} (a : RdA h0 x q s p h) (m : Go.Eng.Mod S h h') (hS : ∀ b, S b → h0.size ≤ b ∧ b ≠ x ∧ b ≠ q) : RdA h0 x q s p h' :=
  ⟨a.rx.mod m (fun e => (hS _ e).2.1 rfl) (fun e => (hS _ e).2.2 rfl), a.k.mod m (fun b e => (hS b e).1), a.lx, a.lq⟩

set_option maxHeartbeats 4000000 in
theorem rdecode_fn {h : Heap} {s : Bytes} : Does Tryz.prog 6 [str s] h (fun v h' => ∃ fv g e, v = .tuple #[fv, i64 e] ∧ FaceV h'.size h' fv g ∧ Ext h h' ∧ RefR s g e) := by
  have hmx : maxLen = 9223372036854775807 := by decide
  have hb7 : basic.length = 7 := rfl
  have k0 : At h.size h h := At.refl (Nat.le_refl _)
  refine fn_enter (N := 132) Tryz.func6 (by kernel_rfl) rfl rfl rfl (fun w0 => ?_)
  refine c_seq ?_; refine c_reg ?_; refine alc nofun rfl (fun h1 n1 => ?_)
  have s1 : h1.size = h.size + 1 := n1.size
  have k_1 := k0.ext n1.ext
  have b2_1 := n1.at_
  refine asg rfl rfl ?_; refine o_nil ?_; refine x_seq ?_
  refine c_seq ?_; refine c_seq ?_; refine c_reg ?_; refine mv rfl rfl (lns rfl rfl (gti rfl rfl rfl ?_))
  refine o_nil ?_; refine x_seq ?_; refine c_cond rfl (fun c2 => ?_) (fun c2 => ?_)
  · refine c_seq ?_; refine c_reg ?_
    refine bld (vs := []) (v := .agg #[str [], .int .u32 0, .slice none 0 0, .slice none 0 0, .slice none 0 0]) rfl (fun _ => by kernel_rfl) rfl (stw rfl rfl rfl (ones rfl) b2_1 rfl nofun (fun h3 u3 => ?_))
    have s3 : h3.size = h1.size := u3.size
    have k_3 := k_1.upd u3 (by omega)
    have b2_3 := u3.at_
    refine asg rfl rfl ?_; refine o_nil ?_; refine x_seq ?_; refine c_ret ?_; refine x_seq_ret ?_
    refine retc2 (.inr rfl) rfl rfl rfl rfl (row_blk b2_3) ?_
    exact ⟨_, zeroF, 170, rfl, zero_face _, (k_3).toExt, .inr ⟨rfl, rfl, fun e => by have := e.1; omega⟩⟩
  · have hsl : s.length ≤ 131072 := by omega
    refine c_skip ?_; refine x_seq ?_; refine c_seq ?_; refine c_reg ?_
    refine mv rfl rfl (bld (vs := [(0, str s)]) (v := .agg #[str s, i64 0, .bool false]) rfl (fun _ => by kernel_rfl) rfl (bx rfl nofun rfl (fun h4 n4 => ?_)))
    have s4 : h4.size = h1.size + 1 := n4.size
    have k_4 := k_1.ext n4.ext
    have b2_4 := n4.ext.get b2_1
    refine bld (vs := [(0, ptr h1.size 0)]) (v := .agg #[ptr h1.size 0]) rfl (fun _ => by kernel_rfl) rfl (bx rfl nofun rfl (fun h5 n5 => ?_))
    have kk5 : RdA h h4.size h1.size s (0, false) h5 := ⟨⟨n5.at_, ⟨n5.ext.get n4.at_, Nat.zero_le _, by omega⟩, by have := n4.size; omega⟩, k_4.ext n5.ext, by have := n4.size; omega, by omega⟩
    have s5 : h5.size = h4.size + 1 := n5.size
    have k_5 := k_4.ext n5.ext
    have b2_5 := n5.ext.get b2_4
    refine asg rfl rfl ?_; refine o_nil ?_; refine x_seq ?_; refine c_seq ?_; refine c_reg ?_
    refine bld (vs := []) (v := .agg #[str [], .int .u32 0, .slice none 0 0, .slice none 0 0, .slice none 0 0]) rfl (fun _ => by kernel_rfl) rfl (alc nofun rfl (fun h6 n6 => ?_))
    have s6 : h6.size = h5.size + 1 := n6.size
    have k_6 := kk5.ext n6.ext
    have b2_6 := n6.ext.get b2_5
    have b5_6 := n6.at_
    refine stw rfl rfl rfl (ones rfl) b5_6 rfl nofun (fun h7 u7 => ?_)
    have s7 : h7.size = h6.size := u7.size
    have k_7 := k_6.upd u7 (by omega)
    have b2_7 := u7.ne b2_6 (by omega)
    have b5_7 := u7.at_
    refine o_nil ?_; refine x_seq ?_
    refine c_seq ?_; refine c_seq ?_; refine c_reg ?_
    refine mv rfl rfl (nck rfl rfl (fa rfl rfl (ld rfl k_7.rx.cell rfl (cl (vs := [ptr h1.size 0]) rfl (xtext_fn k_7.rx) rfl (fun v8 h8 r8 => ?_)))))
    obtain ⟨rfl, r8⟩ := r8
    have s8 : h7.size ≤ h8.size := r8.2.size
    have k_8 := k_7.call r8
    have b2_8 := r8.2.get b2_7 (fun e => by have e : _ = h1.size := e; omega)
    have b5_8 := r8.2.get b5_7 (fun e => by have e : _ = h1.size := e; omega)
    refine nes rfl rfl rfl ?_; refine o_nil ?_; refine x_seq ?_; refine c_cond rfl (fun c9 => ?_) (fun c9 => ?_)
    · refine c_seq ?_; refine c_reg ?_
      refine bld (vs := []) (v := .agg #[str [], .int .u32 0, .slice none 0 0, .slice none 0 0, .slice none 0 0]) rfl (fun _ => by kernel_rfl) rfl (stw rfl rfl rfl (ones rfl) b2_8 rfl nofun (fun h10 u10 => ?_))
      have s10 : h10.size = h8.size := u10.size
      have k_10 := k_8.upd u10 (by omega)
      have b5_10 := u10.ne b5_8 (by omega)
      have b2_10 := u10.at_
      refine asg rfl rfl ?_; refine o_nil ?_; refine x_seq ?_; refine c_ret ?_; refine x_seq_ret ?_
      refine retc2 (.inr rfl) rfl rfl rfl rfl (row_blk b2_10) ?_
      exact ⟨_, zeroF, 170, rfl, zero_face _, (k_10).k.toExt, .inr ⟨rfl, rfl, fun e => c9 e.2.1⟩⟩
    · have c9' : (pText s (0, false)).1 = magic := Classical.not_not.1 c9
      refine c_skip ?_; refine x_seq ?_; refine c_seq ?_; refine c_reg ?_
      refine mv rfl rfl (nck rfl rfl (fa rfl rfl (ld rfl k_8.rx.cell rfl (cl (vs := [ptr h1.size 0]) rfl (xtext_fn k_8.rx) rfl (fun v11 h11 r11 => ?_)))))
      obtain ⟨rfl, r11⟩ := r11
      have s11 : h8.size ≤ h11.size := r11.2.size
      have k_11 := k_8.call r11
      have b2_11 := r11.2.get b2_8 (fun e => by have e : _ = h1.size := e; omega)
      have b5_11 := r11.2.get b5_8 (fun e => by have e : _ = h1.size := e; omega)
      refine fa rfl rfl (st rfl rfl rfl b5_11 rfl nofun (fun h12 u12 => ?_))
      have s12 : h12.size = h11.size := u12.size
      have k_12 := k_11.upd u12 (by omega)
      have b2_12 := u12.ne b2_11 (by omega)
      have b5_12 := u12.at_
      refine o_nil ?_; refine x_seq ?_; refine c_seq ?_; refine c_reg ?_
      refine mv rfl rfl (nck rfl rfl (fa rfl rfl (ld rfl k_12.rx.cell rfl (cl (vs := [ptr h1.size 0]) rfl (xword_fn k_12.rx) rfl (fun v13 h13 r13 => ?_)))))
      obtain ⟨rfl, r13⟩ := r13
      have s13 : h12.size ≤ h13.size := r13.2.size
      have k_13 := k_12.call r13
      have b2_13 := r13.2.get b2_12 (fun e => by have e : _ = h1.size := e; omega)
      have b5_13 := r13.2.get b5_12 (fun e => by have e : _ = h1.size := e; omega)
      refine fa rfl rfl (st rfl rfl rfl b5_13 rfl nofun (fun h14 u14 => ?_))
      have s14 : h14.size = h13.size := u14.size
      have k_14 := k_13.upd u14 (by omega)
      have b2_14 := u14.ne b2_13 (by omega)
      have b5_14 := u14.at_
      refine o_nil ?_; refine x_seq ?_; refine c_seq ?_; refine c_reg ?_
      refine mv rfl rfl (cl (vs := [ptr h4.size 0, i64 16]) rfl (xcount_fn k_14.rx 16) rfl (fun v15 h15 r15 => ?_))
      obtain ⟨rfl, r15⟩ := r15
      have s15 : h14.size ≤ h15.size := r15.2.size
      have k_15 := k_14.call r15
      have b2_15 := r15.2.get b2_14 (fun e => by have e : _ = h1.size := e; omega)
      have b5_15 := r15.2.get b5_14 (fun e => by have e : _ = h1.size := e; omega)
      refine asg rfl rfl ?_; refine o_nil ?_; refine x_seq ?_
      refine c_seq ?_; refine c_seq ?_; refine c_reg ?_; refine asg rfl rfl ?_; refine o_nil ?_; refine x_seq ?_; refine c_blk ?_
      have hM := rCount_in (s := s) (p := fP s) (show (0 : Int) ≤ 16 by decide)
      refine c_loop (α := Nat × List Used × Value × Nat × PS × Heap) (fun z => [(2, ptr h.size 0), (4, ptr h4.size 0), (5, ptr h5.size 0), (6, i64 (rCount s 16 (fP s)).1), (7, i64 (z.1 : Nat))]) (fun z => z.2.2.2.2.2)
        (fun z => Mid (pUsed s) (rCount s 16 (fP s)).1.toNat (rCount s 16 (fP s)).2 z.1 z.2.1 z.2.2.2.2.1 ∧ RdA h h4.size h1.size s z.2.2.2.2.1 z.2.2.2.2.2 ∧ z.2.2.2.2.2[h.size]? = some (.cells #[str [], .int .u32 0, .slice none 0 0, .slice none 0 0, .slice none 0 0] 28 (0, 0)) ∧
          z.2.2.2.2.2[h5.size]? = some (.cells (fcs s z.2.2.1 (.slice none 0 0) (.slice none 0 0)) 28 (0, 0)) ∧ OwnQ z.2.2.2.2.2 48 2 (usedR h) z.2.2.2.1 z.2.2.1 z.2.1 ∧ (∀ b, ownB z.2.2.1 b → h6.size ≤ b ∧ b < z.2.2.2.2.2.size) ∧
          (z.2.2.2.1 ≠ h1.size ∧ z.2.2.2.1 ≠ h.size ∧ z.2.2.2.1 ≠ h5.size ∧ z.2.2.2.1 < z.2.2.2.2.2.size) ∧ h15.size ≤ z.2.2.2.2.2.size) (fun z => (rCount s 16 (fP s)).1.toNat - z.1) (0, [], .slice none 0 0, h4.size, (rCount s 16 (fP s)).2, h15)
        ⟨Mid.start, k_15, b2_15, b5_15, ⟨OwnS.nil _ _ _ _, (fun b e => by cases e)⟩, (fun b e => by cases e), ⟨by simp only; omega, by simp only; omega, by simp only; omega, by simp only; omega⟩, Nat.le_refl _⟩ ⟨rfl, rfl, rfl, rfl, rfl, trivial⟩ rfl (fun z hz => ?_)
      obtain ⟨i, us, vu, b0, pc, g1_⟩ := z
      obtain ⟨hmid, kl, hb2, hb5, ho, hvu, hb0, hg1⟩ := hz
      simp only at hmid kl hb2 hb5 ho hvu hb0 hg1
      change SC _ _ _ _ g1_
      refine c_seq ?_; refine c_seq ?_; refine c_reg ?_
      refine mv rfl rfl (mv rfl rfl (lti rfl rfl rfl (mv rfl rfl (gqt rfl rfl rfl (fun e => mv rfl rfl) (gqt rfl rfl rfl (fun e => nck (cg rfl e) rfl) (gqt rfl rfl rfl (fun e => fa (cg rfl e) rfl) ?_))))))
      refine gqt rfl rfl rfl (fun e => ld (cg rfl e) kl.rx.cell rfl) (gqt rfl rfl rfl (fun e => clp (xbad_fn kl.rx) (a1 (cg rfl e)) rfl) (gqt rfl rfl rfl (fun e => nt (cg rfl e) rfl) ?_))
      refine pka rfl rfl rfl rfl ?_; refine o_nil ?_; refine x_seq ?_; refine c_cond rfl (fun c16 => ?_) (fun c16 => ?_)
      · have hi : i < (rCount s 16 (fP s)).1.toNat := by have := c16.1; omega
        have hbad : pc.2 = false := by simpa using c16.2
        refine c_skip ?_; refine x_seq ?_
        refine c_seq ?_; refine c_blk ?_; refine c_seq ?_; refine c_reg ?_
        refine mv rfl rfl (nck rfl rfl (fa rfl rfl (ld rfl kl.rx.cell rfl (cl (vs := [ptr h1.size 0]) rfl (xtext_fn kl.rx) rfl (fun v17 h17 r17 => ?_)))))
        obtain ⟨rfl, r17⟩ := r17
        have s17 : g1_.size ≤ h17.size := r17.2.size
        have k_17 := kl.call r17
        have hb2_17 := r17.2.get hb2 (fun e => by have e : _ = h1.size := e; omega)
        have hb5_17 := r17.2.get hb5 (fun e => by have e : _ = h1.size := e; omega)
        have ho_17 := ho.mod r17.2 (fun e => by have e : _ = h1.size := e; omega)
        refine bld (vs := [(0, str (pUsed s pc).1.name)]) (v := .agg #[str (pUsed s pc).1.name, .int .u32 0]) rfl (fun _ => by kernel_rfl) rfl (alc nofun rfl (fun h18 n18 => ?_))
        have s18 : h18.size = h17.size + 1 := n18.size
        have k_18 := k_17.ext n18.ext
        have hb2_18 := n18.ext.get hb2_17
        have hb5_18 := n18.ext.get hb5_17
        have ho_18 := ho_17.mod n18.ext (fun e => e)
        have b8_18 := n18.at_
        refine stw rfl rfl rfl (ones rfl) b8_18 rfl nofun (fun h19 u19 => ?_)
        have s19 : h19.size = h18.size := u19.size
        have k_19 := k_18.upd u19 (by omega)
        have hb2_19 := u19.ne hb2_18 (by omega)
        have hb5_19 := u19.ne hb5_18 (by omega)
        have ho_19 := ho_18.mod u19.mod (fun e => by have := e; omega)
        have b8_19 := u19.at_
        refine o_nil ?_; refine x_seq ?_; refine c_seq ?_; refine c_reg ?_
        refine mv rfl rfl (nck rfl rfl (fa rfl rfl (ld rfl k_19.rx.cell rfl (cl (vs := [ptr h1.size 0]) rfl (xword_fn k_19.rx) rfl (fun v20 h20 r20 => ?_)))))
        obtain ⟨rfl, r20⟩ := r20
        have s20 : h19.size ≤ h20.size := r20.2.size
        have k_20 := k_19.call r20
        have hb2_20 := r20.2.get hb2_19 (fun e => by have e : _ = h1.size := e; omega)
        have hb5_20 := r20.2.get hb5_19 (fun e => by have e : _ = h1.size := e; omega)
        have ho_20 := ho_19.mod r20.2 (fun e => by have e : _ = h1.size := e; omega)
        have b8_20 := r20.2.get b8_19 (fun e => by have e : _ = h1.size := e; omega)
        refine fa rfl rfl (st rfl rfl rfl b8_20 rfl nofun (fun h21 u21 => ?_))
        have s21 : h21.size = h20.size := u21.size
        have k_21 := k_20.upd u21 (by omega)
        have hb2_21 := u21.ne hb2_20 (by omega)
        have hb5_21 := u21.ne hb5_20 (by omega)
        have ho_21 := ho_20.mod u21.mod (fun e => by have := e; omega)
        have b8_21 := u21.at_
        refine o_nil ?_; refine x_seq ?_; refine c_reg ?_
        refine fa rfl rfl (ld rfl (cell hb5_21 rfl) rfl (ldn rfl rfl (row_blk b8_21) rfl (bsl (vs := [(0, .agg #[str (pUsed s pc).1.name, .int .u32 (pUsed s pc).1.key])]) (cs := #[str (pUsed s pc).1.name, .int .u32 (pUsed s pc).1.key]) (E := 48) rfl (fun _ => by kernel_rfl) nofun rfl (fun h22 n22 => ?_))))
        obtain ⟨css, o22, q1, q2, q3⟩ := (ho_21.mod n22.ext (fun e => e)).o
        have hxl := hmid.1
        have s22 : h22.size = h21.size + 1 := n22.size
        have k_22 := k_21.ext n22.ext
        have hb2_22 := n22.ext.get hb2_21
        have hb5_22 := n22.ext.get hb5_21
        have ho_22 := ho_21.mod n22.ext (fun e => e)
        have b8_22 := n22.ext.get b8_21
        refine app U_sl rfl rfl o22 (Src.slice (size := 2) (m := 1) rfl (row_blk n22.at_)) rfl (ones rfl) (by omega) (by omega) nofun rfl (fun v23 h23 o23 m23 f23 => ?_)
        obtain ⟨a23, c23, rfl⟩ := o23.form
        obtain ⟨bb, w1, w2⟩ : ∃ bb, (∀ b, ownB (.slice a23 (us.length + 1) c23) b → b = bb) ∧ (ownB (.slice a23 (us.length + 1) c23) bb ∨ bb = h4.size) := ⟨_, own1 _ _⟩
        have key : ∀ b, ownB (.slice a23 (us.length + 1) c23) b → h6.size ≤ b ∧ b < h23.size := fun b e => ⟨(f23 b e).elim (fun e => (hvu b e).1) (fun e => by omega), o23.lt b e⟩
        have hm23 := m23.size
        have hbb : bb ≠ h1.size ∧ bb ≠ h.size ∧ bb ≠ h5.size ∧ bb < h23.size := by
         rcases w2 with e | e
         · have := key _ e; omega
         · omega
        have s23 : h22.size ≤ h23.size := m23.size
        have k_23 := (k_22.app m23 (fun b e => by have := hvu b e; omega))
        have hb2_23 := (m23.get hb2_22 (fun e => by have := hvu _ e; omega))
        have hb5_23 := (m23.get hb5_22 (fun e => by have := hvu _ e; omega))
        have b8_23 := (m23.get b8_22 (fun e => by have := hvu _ e; omega))
        refine fa rfl rfl (st rfl rfl rfl hb5_23 rfl nofun (fun h24 u24 => ?_))
        have s24 : h24.size = h23.size := u24.size
        have k_24 := k_23.upd u24 (by omega)
        have hb2_24 := u24.ne hb2_23 (by omega)
        have b8_24 := u24.ne b8_23 (by omega)
        have hb5_24 := u24.at_
        refine o_nil ?_; refine x_blk ?_; refine x_seq ?_; refine c_reg ?_; refine mv rfl rfl (add rfl rfl (by omega) rfl (asg rfl rfl ?_))
        refine o_nil ?_
        have O24 : OwnS h24 48 2 (usedR h) (.slice a23 (us.length + 1) c23) (us ++ [(pUsed s pc).1]) := OwnS.mono (OwnS.snoc q1 q2 q3 o23 rfl ⟨rfl, by have := pText_len s pc; show (pText s pc).1.length ≤ maxLen; omega, pWord_in _ _⟩) u24.mod (fun b e e' => by have := key b e; have e' : b = h5.size := e'; omega) (fun _ _ w => w)
        exact x_loop (i + 1, us ++ [(pUsed s pc).1], .slice a23 (us.length + 1) c23, bb, (pUsed s pc).2, h24) ⟨hmid.step hi hbad, k_24, hb2_24, hb5_24, ⟨O24, w1⟩, (fun b e => by have := key b e; simp only; omega), by simp only; omega, by simp only; omega⟩ (by simp only; omega) ⟨rfl, rfl, rfl, rfl, rfl, trivial⟩ rfl
      · have hend : rEach s 16 (pUsed s) (fP s) = (us, pc) := hmid.stop (fun e => c16 ⟨by have := e.1; simp only; omega, by rw [e.2]; decide⟩)
        refine c_exit ?_; refine x_seq_exit ?_; refine x_loop_exit ?_; refine x_blk_hit ?_; refine x_seq ?_; refine c_seq ?_; refine c_reg ?_
        refine cl (vs := []) rfl (basic13_fn) rfl (fun v25 h25 r25 => ?_)
        obtain ⟨hB, x25, l25⟩ := r25
        have z25 := x25.size
        have T25 := basic_own (B := fun b => g1_.size ≤ b) hB l25
        have low25 := T25.low
        obtain ⟨_, oB⟩ := OwnS.own T25.own
        obtain ⟨a25, c25, rfl⟩ := oB.form
        have k_25 := (kl.ext x25)
        have hb2_25 := (x25.get hb2)
        have hb5_25 := (x25.get hb5)
        have ho_25 := ho.mod x25 (fun e => e)
        refine fa rfl rfl (st rfl rfl rfl hb5_25 rfl nofun (fun h26 u26 => ?_))
        have s26 : h26.size = h25.size := u26.size
        have k_26 := k_25.upd u26 (by omega)
        have hb2_26 := u26.ne hb2_25 (by omega)
        have ho_26 := ho_25.mod u26.mod (fun e => by have := e; omega)
        have hb5_26 := u26.at_
        refine o_nil ?_; refine x_seq ?_; refine c_seq ?_; refine c_reg ?_
        refine mv rfl rfl (cl (vs := [ptr h4.size 0, i64 249]) rfl (xcount_fn k_26.rx 249) rfl (fun v27 h27 r27 => ?_))
        obtain ⟨rfl, r27⟩ := r27
        have s27 : h26.size ≤ h27.size := r27.2.size
        have k_27 := k_26.call r27
        have hb2_27 := r27.2.get hb2_26 (fun e => by have e : _ = h1.size := e; omega)
        have hb5_27 := r27.2.get hb5_26 (fun e => by have e : _ = h1.size := e; omega)
        have ho_27 := ho_26.mod r27.2 (fun e => by have e : _ = h1.size := e; omega)
        refine asg rfl rfl ?_; refine o_nil ?_; refine x_seq ?_
        refine c_seq ?_; refine c_seq ?_; refine c_reg ?_; refine asg rfl rfl ?_; refine o_nil ?_; refine x_seq ?_; refine c_blk ?_
        have T27 := (T25.mod u26.mod (fun b hb _ e => by have e : b = h5.size := e; omega)).mod r27.2 (fun b hb _ e => by have e : b = h1.size := e; omega)
        have hM2 := rCount_in (s := s) (p := pc) (show (0 : Int) ≤ 249 by decide)
        refine c_loop (α := Nat × List Ty × Value × PS × Heap) (fun z => [(2, ptr h.size 0), (4, ptr h4.size 0), (5, ptr h5.size 0), (6, i64 (rCount s 249 pc).1), (9, i64 (z.1 : Nat))]) (fun z => z.2.2.2.2)
          (fun z => Mid (rTy s) (rCount s 249 pc).1.toNat (rCount s 249 pc).2 z.1 z.2.1 z.2.2.2.1 ∧ RdA h h4.size h1.size s z.2.2.2.1 z.2.2.2.2 ∧ z.2.2.2.2[h.size]? = some (.cells #[str [], .int .u32 0, .slice none 0 0, .slice none 0 0, .slice none 0 0] 28 (0, 0)) ∧
            z.2.2.2.2[h5.size]? = some (.cells (fcs s vu z.2.2.1 (.slice none 0 0)) 28 (0, 0)) ∧ OwnQ z.2.2.2.2 48 2 (usedR h) b0 vu us ∧ TysOwn (fun b => g1_.size ≤ b) z.2.2.2.2 z.2.2.1 (basic ++ z.2.1) ∧ h27.size ≤ z.2.2.2.2.size) (fun z => (rCount s 249 pc).1.toNat - z.1) (0, [], .slice a25 basic.length c25, (rCount s 249 pc).2, h27)
          ⟨Mid.start, k_27, hb2_27, hb5_27, ho_27, T27, Nat.le_refl _⟩ ⟨rfl, rfl, rfl, rfl, rfl, trivial⟩ rfl (fun z hz => ?_)
        obtain ⟨j, ts, vt, pd, g2_⟩ := z
        obtain ⟨jmid, kl2, jb2, jb5, jo, jT, hg2⟩ := hz
        simp only at jmid kl2 jb2 jb5 jo jT hg2
        have jlow := jT.low
        have jlt := jT.lt
        have jlen : (basic ++ ts).length = 7 + j := by rw [List.length_append, jmid.1, hb7]
        obtain ⟨_, oT⟩ := OwnS.own jT.own
        obtain ⟨at_, ct_, rfl⟩ := oT.form
        change SC _ _ _ _ g2_
        refine c_seq ?_; refine c_seq ?_; refine c_reg ?_
        refine mv rfl rfl (mv rfl rfl (lti rfl rfl rfl (mv rfl rfl (gqt rfl rfl rfl (fun e => mv rfl rfl) (gqt rfl rfl rfl (fun e => nck (cg rfl e) rfl) (gqt rfl rfl rfl (fun e => fa (cg rfl e) rfl) ?_))))))
        refine gqt rfl rfl rfl (fun e => ld (cg rfl e) kl2.rx.cell rfl) (gqt rfl rfl rfl (fun e => clp (xbad_fn kl2.rx) (a1 (cg rfl e)) rfl) (gqt rfl rfl rfl (fun e => nt (cg rfl e) rfl) ?_))
        refine pka rfl rfl rfl rfl ?_; refine o_nil ?_; refine x_seq ?_; refine c_cond rfl (fun c28 => ?_) (fun c28 => ?_)
        · have hj : j < (rCount s 249 pc).1.toNat := by have := c28.1; omega
          have hbad : pd.2 = false := by simpa using c28.2
          refine c_skip ?_; refine x_seq ?_
          refine c_seq ?_; refine c_blk ?_
          refine c_treg (Mod (fun k => k = h1.size) g2_) (some 5) [5, 4, 3, 2, 1, 0] (.leaf [0, 1, 2, 3, 4] [5, 6, 7]) rfl (Mod.refl _ _) (by kernel_rfl) ?_
          have c0_1 : Mod (fun k => k = h1.size) g2_ g2_ := Mod.refl _ _
          refine t_leaf ?_
          refine fa rfl rfl (ldI rfl (fun _ hI => cell (hI.get jb5 (by first | exact id | (intro e; have e : _ = _ := e; omega) | assumption)) rfl) rfl (mv rfl rfl (clI (vs := [ptr h4.size 0]) rfl ((xtyp_fn kl2.rx)) (fun _ _ w => by obtain ⟨_, _, _, _, _, _, _, _, m⟩ := w; exact c0_1.trans m) rfl (fun v29 h29 r29 => ?_))))
          obtain ⟨vf, vp, rfl, of, op, lf, lp, r29, m29⟩ := r29
          have z29 := m29.size
          have T29 := jT.mod m29 (fun b hb _ e => by have e : b = h1.size := e; omega)
          obtain ⟨af, cf, rfl⟩ : ∃ a c, vf = .slice a (rTy s pd).1.fields.length c := by obtain ⟨_, o⟩ := of.own; exact o.form
          obtain ⟨ap, cp, rfl⟩ : ∃ a c, vp = .slice a (rTy s pd).1.params.length c := by obtain ⟨_, o⟩ := op.own; exact o.form
          have c_29 := c0_1.trans m29
          have k_29 := (kl2.call ⟨r29, m29⟩)
          have jb2_29 := (m29.get jb2 (fun e => by have e : _ = h1.size := e; omega))
          have jb5_29 := (m29.get jb5 (fun e => by have e : _ = h1.size := e; omega))
          have jo_29 := jo.mod m29 (fun e => by have e : _ = h1.size := e; omega)
          refine bsl (vs := [(0, .agg (tyCells (rTy s pd).1 (.slice af (rTy s pd).1.fields.length cf) (.slice ap (rTy s pd).1.params.length cp)).toArray)]) (cs := (tyCells (rTy s pd).1 (.slice af (rTy s pd).1.fields.length cf) (.slice ap (rTy s pd).1.params.length cp)).toArray) (E := 52) rfl (fun _ => by kernel_rfl) (fun _ h' n' => c_29.trans (n'.ext.mod _)) rfl (fun h30 n30 => ?_)
          have T30 := T29.mod n30.ext (fun _ _ _ e => e)
          have lof : (rTy s pd).1.fields.length ≤ maxLen := by have := reach_len (s := s) (g := rFld s) (most := 64) (by decide) (tyP s pd); have e : (rTy s pd).1.fields = (rEach s 64 (rFld s) (tyP s pd)).1 := rfl; rw [e]; omega
          have lop : (rTy s pd).1.params.length ≤ maxLen := by have := reach_len (s := s) (g := rPar s) (most := 64) (by decide) (rEach s 64 (rFld s) (tyP s pd)).2; have e : (rTy s pd).1.params = (rEach s 64 (rPar s) (rEach s 64 (rFld s) (tyP s pd)).2).1 := rfl; rw [e]; omega
          have hx30 : TyB (fun b => ¬ ownB (.slice at_ (basic ++ ts).length ct_) b ∧ g1_.size ≤ b) h30 (rTy s pd).1 (tyCells (rTy s pd).1 (.slice af (rTy s pd).1.fields.length cf) (.slice ap (rTy s pd).1.params.length cp)) := ⟨rTy_fits _ _, _, _, rfl, (OwnS.mono of n30.ext (fun _ _ e => e) (fun _ _ w => w)).sliceB lof (fun b e => ⟨fun e' => by have := jlt b e'; have := lf b e; omega, by have := lf b e; omega⟩), (OwnS.mono op n30.ext (fun _ _ e => e) (fun _ _ w => w)).sliceB lop (fun b e => ⟨fun e' => by have := jlt b e'; have := lp b e; omega, by have := lp b e; omega⟩)⟩
          obtain ⟨⟨css, o30, q1, q2, q3⟩, -⟩ := T30
          have s30 : h30.size = h29.size + 1 := n30.size
          have c_30 := c_29.trans (n30.ext.mod _)
          have k_30 := k_29.ext n30.ext
          have jb2_30 := n30.ext.get jb2_29
          have jb5_30 := n30.ext.get jb5_29
          have jo_30 := jo_29.mod n30.ext (fun e => e)
          refine o_nil ?_; refine x_tail ?_
          refine app U_sl rfl rfl o30 (Src.slice (size := 10) (m := 1) rfl (row_blk n30.at_)) rfl (tyCells_ones rfl rfl) (by omega) (by omega) nofun rfl (fun v31 h31 o31 m31 f31 => ?_)
          have z31 := m31.size
          have T31 := TysOwn.snoc q1 q2 q3 o31 m31 f31 jlow (fun b hb => by omega) hx30
          obtain ⟨a31, c31, rfl⟩ := o31.form
          have s31 : h30.size ≤ h31.size := m31.size
          have k_31 := (k_30.app m31 (fun b e => by have := jlow b e; have := jlt b e; omega))
          have jb2_31 := (m31.get jb2_30 (fun e => by have := jlow _ e; omega))
          have jb5_31 := (m31.get jb5_30 (fun e => by have := jlow _ e; omega))
          have jo_31 := jo_30.mod m31 (fun e => by have := jlow _ e; omega)
          refine fa rfl rfl (st rfl rfl rfl jb5_31 rfl nofun (fun h32 u32 => ?_))
          have s32 : h32.size = h31.size := u32.size
          have k_32 := k_31.upd u32 (by omega)
          have jb2_32 := u32.ne jb2_31 (by omega)
          have jo_32 := jo_31.mod u32.mod (fun e => by have := e; omega)
          have jb5_32 := u32.at_
          refine o_nil ?_; refine x_blk ?_; refine x_seq ?_; refine c_reg ?_; refine mv rfl rfl (add rfl rfl (by omega) rfl (asg rfl rfl ?_))
          refine o_nil ?_
          have T32 := T31.mod u32.mod (fun b hb _ e => by have e : b = h5.size := e; omega)
          rw [List.append_assoc] at T32
          exact x_loop (j + 1, ts ++ [(rTy s pd).1], .slice a31 ((basic ++ ts).length + 1) c31, (rTy s pd).2, h32) ⟨jmid.step hj hbad, k_32, jb2_32, jb5_32, jo_32, T32, by simp only; omega⟩ (by simp only; omega) ⟨rfl, rfl, rfl, rfl, rfl, trivial⟩ rfl
        · have hend2 : rEach s 249 (rTy s) pc = (ts, pd) := jmid.stop (fun e => c28 ⟨by have := e.1; simp only; omega, by rw [e.2]; decide⟩)
          refine c_exit ?_; refine x_seq_exit ?_; refine x_loop_exit ?_; refine x_blk_hit ?_; refine x_seq ?_; refine c_seq ?_; refine c_reg ?_
          refine mv rfl rfl (cl (vs := [ptr h4.size 0, i64 64]) rfl (xcount_fn kl2.rx 64) rfl (fun v33 h33 r33 => ?_))
          obtain ⟨rfl, r33⟩ := r33
          have s33 : g2_.size ≤ h33.size := r33.2.size
          have k_33 := kl2.call r33
          have jb2_33 := r33.2.get jb2 (fun e => by have e : _ = h1.size := e; omega)
          have jb5_33 := r33.2.get jb5 (fun e => by have e : _ = h1.size := e; omega)
          have jo_33 := jo.mod r33.2 (fun e => by have e : _ = h1.size := e; omega)
          refine asg rfl rfl ?_; refine o_nil ?_; refine x_seq ?_
          refine c_seq ?_; refine c_seq ?_; refine c_reg ?_; refine asg rfl rfl ?_; refine o_nil ?_; refine x_seq ?_; refine c_blk ?_
          have T33 := jT.mod r33.2 (fun b hb _ e => by have e : b = h1.size := e; omega)
          have hM3 := rCount_in (s := s) (p := pd) (show (0 : Int) ≤ 64 by decide)
          refine c_loop (α := Nat × List Ob × Value × Nat × PS × Heap) (fun z => [(2, ptr h.size 0), (4, ptr h4.size 0), (5, ptr h5.size 0), (6, i64 (rCount s 64 pd).1), (10, i64 (z.1 : Nat))]) (fun z => z.2.2.2.2.2)
            (fun z => Mid (pOb s) (rCount s 64 pd).1.toNat (rCount s 64 pd).2 z.1 z.2.1 z.2.2.2.2.1 ∧ RdA h h4.size h1.size s z.2.2.2.2.1 z.2.2.2.2.2 ∧ z.2.2.2.2.2[h.size]? = some (.cells #[str [], .int .u32 0, .slice none 0 0, .slice none 0 0, .slice none 0 0] 28 (0, 0)) ∧
              z.2.2.2.2.2[h5.size]? = some (.cells (fcs s vu (.slice at_ (basic ++ ts).length ct_) z.2.2.1) 28 (0, 0)) ∧ OwnQ z.2.2.2.2.2 48 2 (usedR h) b0 vu us ∧ (TysOwn (fun b => g1_.size ≤ b ∧ b < h33.size) z.2.2.2.2.2 (.slice at_ (basic ++ ts).length ct_) (basic ++ ts) ∧ OwnQ z.2.2.2.2.2 58 7 (objR h) z.2.2.2.1 z.2.2.1 z.2.1) ∧ (∀ b, ownB z.2.2.1 b → h33.size ≤ b ∧ b < z.2.2.2.2.2.size) ∧
              (z.2.2.2.1 ≠ h1.size ∧ z.2.2.2.1 ≠ h.size ∧ z.2.2.2.1 ≠ h5.size ∧ z.2.2.2.1 < z.2.2.2.2.2.size) ∧ h33.size ≤ z.2.2.2.2.2.size) (fun z => (rCount s 64 pd).1.toNat - z.1) (0, [], .slice none 0 0, h4.size, (rCount s 64 pd).2, h33)
            ⟨Mid.start, k_33, jb2_33, jb5_33, jo_33, ⟨T33.mono (fun b hb e => ⟨e, hb⟩), OwnS.nil _ _ _ _, (fun b e => by cases e)⟩, (fun b e => by cases e), ⟨by simp only; omega, by simp only; omega, by simp only; omega, by simp only; omega⟩, Nat.le_refl _⟩ ⟨rfl, rfl, rfl, rfl, rfl, trivial⟩ rfl (fun z hz => ?_)
          obtain ⟨l, os, vo, bo, pe, g3_⟩ := z
          obtain ⟨lmid, kl3, lb2, lb5, lo, ⟨lT, lp⟩, hvo, hbo, hg3⟩ := hz
          simp only at lmid kl3 lb2 lb5 lo lT lp hvo hbo hg3
          have llow := lT.low
          change SC _ _ _ _ g3_
          refine c_seq ?_; refine c_seq ?_; refine c_reg ?_
          refine mv rfl rfl (mv rfl rfl (lti rfl rfl rfl (mv rfl rfl (gqt rfl rfl rfl (fun e => mv rfl rfl) (gqt rfl rfl rfl (fun e => nck (cg rfl e) rfl) (gqt rfl rfl rfl (fun e => fa (cg rfl e) rfl) ?_))))))
          refine gqt rfl rfl rfl (fun e => ld (cg rfl e) kl3.rx.cell rfl) (gqt rfl rfl rfl (fun e => clp (xbad_fn kl3.rx) (a1 (cg rfl e)) rfl) (gqt rfl rfl rfl (fun e => nt (cg rfl e) rfl) ?_))
          refine pka rfl rfl rfl rfl ?_; refine o_nil ?_; refine x_seq ?_; refine c_cond rfl (fun c34 => ?_) (fun c34 => ?_)
          · have hl : l < (rCount s 64 pd).1.toNat := by have := c34.1; omega
            have hbad : pe.2 = false := by simpa using c34.2
            refine c_skip ?_; refine x_seq ?_
            refine c_seq ?_; refine c_blk ?_
            refine c_treg (Mod (fun k => k = h1.size) g3_) (some 5) [5, 4, 3, 2, 1, 0] (.leaf [0, 1, 2, 3, 4] [5, 6, 7]) rfl (Mod.refl _ _) (by kernel_rfl) ?_
            have c0_2 : Mod (fun k => k = h1.size) g3_ g3_ := Mod.refl _ _
            refine t_leaf ?_
            refine fa rfl rfl (ldI rfl (fun _ hI => cell (hI.get lb5 (by first | exact id | (intro e; have e : _ = _ := e; omega) | assumption)) rfl) rfl (mv rfl rfl (clI (vs := [ptr h4.size 0]) rfl ((xobj_fn kl3.rx)) (fun _ _ w => c0_2.trans w.2.2) rfl (fun v35 h35 r35 => ?_))))
            obtain ⟨rfl, r35, m35⟩ := r35
            have z35 := m35.size
            have lT35 := lT.mod m35 (fun b hb _ e => by have e : b = h1.size := e; omega)
            have c_35 := c0_2.trans m35
            have k_35 := (kl3.call ⟨r35, m35⟩)
            have lb2_35 := (m35.get lb2 (fun e => by have e : _ = h1.size := e; omega))
            have lb5_35 := (m35.get lb5 (fun e => by have e : _ = h1.size := e; omega))
            have lo_35 := lo.mod m35 (fun e => by have e : _ = h1.size := e; omega)
            have lp_35 := lp.mod m35 (fun e => by have e : _ = h1.size := e; omega)
            refine bsl (vs := [(0, objV (pOb s pe).1)]) (cs := #[i64 (pOb s pe).1.cls, str (pOb s pe).1.name, i64 (pOb s pe).1.type, i64 (pOb s pe).1.val.form, i64 (pOb s pe).1.val.n, str (pOb s pe).1.val.text, i64 (pOb s pe).1.n]) (E := 58) rfl (fun _ => by kernel_rfl) (fun _ h' n' => c_35.trans (n'.ext.mod _)) rfl (fun h36 n36 => ?_)
            obtain ⟨css, o36, q1, q2, q3⟩ := (lp_35.mod n36.ext (fun e => e)).o
            have lT36 := lT35.mod n36.ext (fun _ _ _ e => e)
            have hxl := lmid.1
            have s36 : h36.size = h35.size + 1 := n36.size
            have c_36 := c_35.trans (n36.ext.mod _)
            have k_36 := k_35.ext n36.ext
            have lb2_36 := n36.ext.get lb2_35
            have lb5_36 := n36.ext.get lb5_35
            have lo_36 := lo_35.mod n36.ext (fun e => e)
            have lp_36 := lp_35.mod n36.ext (fun e => e)
            refine o_nil ?_; refine x_tail ?_
            refine app U_sl rfl rfl o36 (Src.slice (size := 7) (m := 1) rfl (row_blk n36.at_)) rfl (ones rfl) (by omega) (by omega) nofun rfl (fun v37 h37 o37 m37 f37 => ?_)
            obtain ⟨a37, c37, rfl⟩ := o37.form
            obtain ⟨bb, w1, w2⟩ : ∃ bb, (∀ b, ownB (.slice a37 (os.length + 1) c37) b → b = bb) ∧ (ownB (.slice a37 (os.length + 1) c37) bb ∨ bb = h4.size) := ⟨_, own1 _ _⟩
            have key : ∀ b, ownB (.slice a37 (os.length + 1) c37) b → h33.size ≤ b ∧ b < h37.size := fun b e => ⟨(f37 b e).elim (fun e => (hvo b e).1) (fun e => by omega), o37.lt b e⟩
            have hm37 := m37.size
            have lT37 := lT36.mod m37 (fun b hb _ e => by have := hvo b e; omega)
            have hbb : bb ≠ h1.size ∧ bb ≠ h.size ∧ bb ≠ h5.size ∧ bb < h37.size := by
             rcases w2 with e | e
             · have := key _ e; omega
             · omega
            have s37 : h36.size ≤ h37.size := m37.size
            have k_37 := (k_36.app m37 (fun b e => by have := hvo b e; omega))
            have lb2_37 := (m37.get lb2_36 (fun e => by have := hvo _ e; omega))
            have lb5_37 := (m37.get lb5_36 (fun e => by have := hvo _ e; omega))
            have lo_37 := lo_36.mod m37 (fun e => by have := hvo _ e; omega)
            refine fa rfl rfl (st rfl rfl rfl lb5_37 rfl nofun (fun h38 u38 => ?_))
            have s38 : h38.size = h37.size := u38.size
            have k_38 := k_37.upd u38 (by omega)
            have lb2_38 := u38.ne lb2_37 (by omega)
            have lo_38 := lo_37.mod u38.mod (fun e => by have := e; omega)
            have lb5_38 := u38.at_
            refine o_nil ?_; refine x_blk ?_; refine x_seq ?_; refine c_reg ?_; refine mv rfl rfl (add rfl rfl (by omega) rfl (asg rfl rfl ?_))
            refine o_nil ?_
            have O38 : OwnS h38 58 7 (objR h) (.slice a37 (os.length + 1) c37) (os ++ [(pOb s pe).1]) := OwnS.mono (OwnS.snoc q1 q2 q3 o37 rfl (ob_in s pe h)) u38.mod (fun b e e' => by have := key b e; have e' : b = h5.size := e'; omega) (fun _ _ w => w)
            have lT38 := lT37.mod u38.mod (fun b hb _ e => by have e : b = h5.size := e; omega)
            exact x_loop (l + 1, os ++ [(pOb s pe).1], .slice a37 (os.length + 1) c37, bb, (pOb s pe).2, h38) ⟨lmid.step hl hbad, k_38, lb2_38, lb5_38, lo_38, ⟨lT38, O38, w1⟩, (fun b e => by have := key b e; simp only; omega), by simp only; omega, by simp only; omega⟩ (by simp only; omega) ⟨rfl, rfl, rfl, rfl, rfl, trivial⟩ rfl
          · have hend3 : rEach s 64 (pOb s) pd = (os, pe) := lmid.stop (fun e => c34 ⟨by have := e.1; simp only; omega, by rw [e.2]; decide⟩)
            have hF := rFace_eq hend hend2 hend3
            have hF0 := hF
            obtain ⟨F, hFF⟩ : ∃ F : Face, F = ⟨(pText s (pText s (0, false)).2).1, (pWord s (pText s (pText s (0, false)).2).2).1, us, basic ++ ts, os⟩ := ⟨_, rfl⟩
            have fu : F.uses = us := by rw [hFF]
            have ft : F.types = basic ++ ts := by rw [hFF]
            have fo : F.objs = os := by rw [hFF]
            have lu : us.length ≤ maxLen := by have := hmid.1; have := hmid.2.1; omega
            have lt : (basic ++ ts).length ≤ maxLen := by have := jmid.2.1; omega
            have lob : os.length ≤ maxLen := by have := lmid.1; have := lmid.2.1; omega
            have FV : FaceV g3_.size g3_ (.agg (fcs s vu (.slice at_ (basic ++ ts).length ct_) vo)) F := by
             have e1 : (pText s (pText s (0, false)).2).1 = F.name := by rw [hFF]
             have e2 : (pWord s (pText s (pText s (0, false)).2).2).1 = F.key := by rw [hFF]
             unfold fcs
             rw [e1, e2]
             exact face_parts (B := fun b => g1_.size ≤ b ∧ b < h33.size) (by rw [← e1]; have := pText_len s (pText s (0, false)).2; omega) (by rw [← e2]; exact pWord_in _ _) (by rw [fu]; exact lo.o) (by rw [ft]; exact lT) (by rw [fo]; exact lp.o) (by rw [fu]; exact lu) (by rw [ft]; exact lt) (by rw [fo]; exact lob)
            have kk3 : At g3_.size g3_ g3_ := At.refl (Nat.le_refl _)
            rw [← hFF] at hF
            have hone : ∀ u ∈ (fcs s vu (.slice at_ (basic ++ ts).length ct_) vo).toList, u.oneCell' = true := by
             obtain ⟨_, o1⟩ := lo.o.own
             obtain ⟨_, o2⟩ := lp.o.own
             intro u hu
             simp only [fcs, List.mem_cons, List.not_mem_nil, or_false] at hu
             rcases hu with hu | hu | hu | hu | hu
             · rw [hu]; rfl
             · rw [hu]; rfl
             · rw [hu]; exact o1.one
             · rw [hu]; rfl
             · rw [hu]; exact o2.one
            refine c_exit ?_; refine x_seq_exit ?_; refine x_loop_exit ?_; refine x_blk_hit ?_; refine x_seq ?_
            refine c_seq ?_; refine c_seq ?_; refine c_reg ?_
            refine mv rfl rfl (nck rfl rfl (fa rfl rfl (ld rfl kl3.rx.cell rfl (clp (xend_fn kl3.rx) rfl rfl (nt rfl rfl (mv rfl rfl (gqf rfl rfl rfl (fun e => ldn rfl rfl (row_blk lb5) rfl) ?_)))))))
            refine gef rfl rfl rfl (fun e kk => clE ((good16_fn FV)) (a1 (cg rfl e)) rfl kk) (fun h39 x39 => ?_)
            have s39 : g3_.size ≤ h39.size := x39.size
            have k_39 := kl3.ext x39
            have lb2_39 := x39.get lb2
            have lb5_39 := x39.get lb5
            have lo_39 := lo.mod x39 (fun e => e)
            have lp_39 := lp.mod x39 (fun e => e)
            refine gqf rfl rfl rfl (fun e => nt (cg rfl e) rfl) (pko rfl rfl rfl rfl ?_)
            refine o_nil ?_; refine x_seq ?_; refine c_cond rfl (fun c40 => ?_) (fun c40 => ?_)
            · refine c_seq ?_; refine c_reg ?_
              refine bld (vs := []) (v := .agg #[str [], .int .u32 0, .slice none 0 0, .slice none 0 0, .slice none 0 0]) rfl (fun _ => by kernel_rfl) rfl (stw rfl rfl rfl (ones rfl) lb2_39 rfl nofun (fun h41 u41 => ?_))
              have s41 : h41.size = h39.size := u41.size
              have k_41 := k_39.upd u41 (by omega)
              have lb5_41 := u41.ne lb5_39 (by omega)
              have lo_41 := lo_39.mod u41.mod (fun e => by have := e; omega)
              have lp_41 := lp_39.mod u41.mod (fun e => by have := e; omega)
              have lb2_41 := u41.at_
              refine asg rfl rfl ?_; refine o_nil ?_; refine x_seq ?_; refine c_ret ?_; refine x_seq_ret ?_
              refine retc2 (.inr rfl) rfl rfl rfl rfl (row_blk lb2_41) ?_
              refine ⟨_, zeroF, 170, rfl, zero_face _, (k_41).k.toExt, .inr ⟨rfl, rfl, fun e => ?_⟩⟩
              obtain ⟨-, -, e1, e2⟩ := e
              rw [hF] at e1 e2
              have e1 : pe = (s.length, false) := e1
              rcases c40 with c | c
              · rw [e1] at c
                exact c ⟨rfl, rfl⟩
              · exact c e2
            · refine c_skip ?_; refine x_seq ?_; refine c_seq ?_; refine c_reg ?_
              refine ldn rfl rfl (row_blk lb5_39) rfl (stw rfl rfl rfl hone lb2_39 rfl nofun (fun h42 u42 => ?_))
              have s42 : h42.size = h39.size := u42.size
              have k_42 := k_39.upd u42 (by omega)
              have lb5_42 := u42.ne lb5_39 (by omega)
              have lo_42 := lo_39.mod u42.mod (fun e => by have := e; omega)
              have lp_42 := lp_39.mod u42.mod (fun e => by have := e; omega)
              have lb2_42 := u42.at_
              refine asg rfl rfl ?_; refine o_nil ?_; refine x_seq ?_; refine c_ret ?_; refine retc2 (.inr rfl) rfl rfl rfl rfl (row_blk lb2_42) ?_
              have m42 := (x39.mod (fun b => b = h.size)).trans u42.mod
              have nG := k_42
              have e1 : (pText s (pText s (0, false)).2).1 = F.name := by rw [hFF]
              have e2 : (pWord s (pText s (pText s (0, false)).2).2).1 = F.key := by rw [hFF]
              have FV2 : FaceV h42.size h42 (.agg (fcs s vu (.slice at_ (basic ++ ts).length ct_) vo)) F := by
               unfold fcs
               rw [e1, e2]
               exact face_parts (B := fun b => g1_.size ≤ b ∧ b < h33.size) (by rw [← e1]; have := pText_len s (pText s (0, false)).2; omega) (by rw [← e2]; exact pWord_in _ _) (by rw [fu]; exact OwnS.mono lo.o m42 (fun b e e' => by have := lo.b b e; have e' : b = h.size := e'; omega) (fun _ _ w => w)) (by rw [ft]; exact lT.mod m42 (fun b hb _ e => by have e : b = h.size := e; omega)) (by rw [fo]; exact OwnS.mono lp.o m42 (fun b e e' => by have := hvo b e; have e' : b = h.size := e'; omega) (fun _ _ w => w)) (by rw [fu]; exact lu) (by rw [ft]; exact lt) (by rw [fo]; exact lob)
              have c40a : pe.2 = false ∧ pe.1 = s.length := Classical.byContradiction fun e => c40 (.inl e)
              have c40b : FGood F := Classical.byContradiction fun e => c40 (.inr e)
              exact ⟨_, F, 0, rfl, FV2, nG.k.toExt, .inl ⟨rfl, ⟨hsl, c9', by rw [hF]; exact Prod.ext c40a.2 c40a.1, by rw [hF]; exact c40b⟩, by rw [hF]⟩⟩
end Go.Proofs.YtgnkfegkdjfnjaaGreat
