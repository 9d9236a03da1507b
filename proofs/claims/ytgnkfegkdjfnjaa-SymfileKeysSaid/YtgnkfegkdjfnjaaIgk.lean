/- The walk of the trim. The interface by which the laws wake: plain. The walks of what wakes. An interface, handed in. No condition but what each theorem says. -/
import Derived.Test.YtgnkfegkdjfnjaaIgj
import Derived.Test.YtgnkfegkdjfnjaaIgd
import Derived.Test.YtgnkfegkdjfnjaaEng15
namespace Go.Proofs.Ytgnkfegkdjfnjaa
/-! The walk of the trim. No condition but what each theorem says. -/
section
open Go Go.Eng

def zeroF : Face := ⟨[], 0, [], [], []⟩
def TrimOk (f : Face) : Prop := (ShapedP f ∧ ImpP f) ∧ owns f.types f.name (needed f).order ≤ 64
/-- what a trim answers -/
def TrimR (h : Heap) (f : Face) (v : Value) (h' : Heap) : Prop := ∃ xv x e, v = .tuple #[xv, i64 e] ∧ FaceV h'.size h' xv x ∧ Ext h h' ∧ ((TrimOk f ∧ x = trimF f ∧ e = 0) ∨ (¬ TrimOk f ∧ x = zeroF ∧ e = 160))
theorem NodesP.sized {t : List Ty} (h : NodesP t) : ∀ x ∈ t, x.fields.length ≤ 64 ∧ x.params.length ≤ 64 := by
  intro x hx
  obtain ⟨a, ha⟩ := List.mem_iff_getElem?.1 hx
  rcases h a x ha with ⟨-, hb⟩ | ⟨-, hk, -⟩
  · obtain ⟨⟨-, hf⟩, hp⟩ := hb
    omega
  · rcases hk with ⟨-, -, -, -, -, h1, h2⟩ | ⟨-, -, -, -, -, -, h1, h2⟩ | ⟨-, ⟨-, h1, -⟩, -, -, -, h2⟩ | ⟨-, -, -, -, -, -, h1, h2⟩ | ⟨-, ⟨h2, -⟩, -, -, -, -, h1⟩
    · rw [h1, h2]; simp
    · rw [h1, h2]; simp
    · rw [h2]; exact ⟨h1, by simp⟩
    · rw [h1, h2]; simp
    · rw [h1]; exact ⟨by simp, h2⟩
theorem basic_own {h : Heap} {v : Value} {B : Nat → Prop} (a : BasicR h v) (hB : ∀ b, ownB v b → B b) : TysOwn B h v basic := by
  obtain ⟨css, o, h1, h2, h3⟩ := a
  refine ⟨⟨css, o, h1, h2, fun i x cs hx hc => ?_⟩, hB⟩
  have e := h3 i x cs hx hc
  have hm := List.mem_of_getElem? hx
  simp only [basic, List.mem_cons, List.not_mem_nil, or_false] at hm
  have key : ∀ n : Int, 0 ≤ n ∧ n ≤ 6 → x = basicTy n → TyB (fun b => ¬ ownB v b ∧ B b) h x cs := by
    rintro n hn rfl
    exact ⟨⟨Nat.zero_le _, Nat.zero_le _, by show in64 n; unfold in64; omega, in0, in0, in0, in0, in0⟩, _, _, e, SliceB.nil _ _ _ _, SliceB.nil _ _ _ _⟩
  rcases hm with hm | hm | hm | hm | hm | hm | hm <;> exact key _ (by decide) hm
theorem zero_face (h : Heap) : FaceV h.size h (.agg #[str [], .int .u32 0, .slice none 0 0, .slice none 0 0, .slice none 0 0]) zeroF :=
  ⟨_, _, _, rfl, Nat.zero_le _, by unfold inU32 zeroF; decide, ⟨Nat.zero_le _, none, 0, rfl, fun i x e => by simp [zeroF] at e⟩, ⟨Nat.zero_le _, none, 0, rfl, fun i x e => by simp [zeroF] at e⟩, ⟨Nat.zero_le _, none, 0, rfl, fun i x e => by simp [zeroF] at e⟩⟩
theorem face_parts {g : Heap} {vu vt vo : Value} {f : Face} {B : Nat → Prop} (hn : f.name.length ≤ maxLen) (hk : inU32 f.key) (hU : OwnS g 65 2 (usedR g) vu f.uses) (hT : TysOwn B g vt f.types) (hO : OwnS g 34 7 (objR g) vo f.objs) (h1 : f.uses.length ≤ maxLen) (h2 : f.types.length ≤ maxLen) (h3 : f.objs.length ≤ maxLen) :
    FaceV g.size g (.agg #[str f.name, .int .u32 f.key, vu, vt, vo]) f :=
  ⟨_, _, _, rfl, hn, hk, hU.at_ h1 (fun b e => by obtain ⟨_, o⟩ := hU.own; exact o.lt b e), hT.at_ h2, hO.at_ h3 (fun b e => by obtain ⟨_, o⟩ := hO.own; exact o.lt b e)⟩
set_option maxHeartbeats 4000000 in
theorem trim_fn {h : Heap} {fv : Value} {f : Face} (hF : FaceV h.size h fv f) : Does Try.prog 23 [fv] h (TrimR h f) := by
  have hmx : maxLen = 9223372036854775807 := by decide
  have k0 : At h.size h h := At.refl (Nat.le_refl _)
  have hF0 := hF
  obtain ⟨vu, vt, vo, rfl, hn, hk, hU, hT, hO⟩ := hF
  have hO0 := hO
  have hT0 := hT
  have hU0 := hU
  obtain ⟨ao, co, rfl⟩ := hO.form
  obtain ⟨au, cu, rfl⟩ := hU.form
  obtain ⟨at0, ct0, rfl⟩ := SliceAt.form hT
  refine fn_enter (N := 56) Try.func23 (by kernel_rfl) rfl rfl rfl (fun w0 => ?_)
  refine c_seq ?_; refine c_reg ?_; refine bx rfl nofun rfl (fun h1 n1 => ?_)
  have s1 : h1.size = h.size + 1 := n1.size
  have k_1 := k0.ext n1.ext
  have b1_1 := n1.at_
  refine alc nofun rfl (fun h2 n2 => ?_)
  have s2 : h2.size = h1.size + 1 := n2.size
  have k_2 := k_1.ext n2.ext
  have b1_2 := n2.ext.get b1_1
  have b2_2 := n2.at_
  refine asg rfl rfl ?_; refine o_nil ?_; refine x_seq ?_
  refine c_seq ?_; refine c_seq ?_; refine c_reg ?_
  refine ldn rfl rfl (row_blk b1_2) rfl (clE ((framed_fn (FaceV.keep hF0 (At.k k_2) (At.n k_2)))) rfl rfl (fun h3 x3 => ?_))
  have s3 : h2.size ≤ h3.size := x3.size
  have k_3 := k_2.ext x3
  have b1_3 := x3.get b1_2
  have b2_3 := x3.get b2_2
  refine nt rfl rfl ?_; refine o_nil ?_; refine x_seq ?_; refine c_cond rfl (fun c4 => ?_) (fun c4 => ?_)
  · refine c_seq ?_; refine c_reg ?_
    refine bld (vs := []) (v := .agg #[str [], .int .u32 0, .slice none 0 0, .slice none 0 0, .slice none 0 0]) rfl (fun _ => by kernel_rfl) rfl (stw rfl rfl rfl (ones rfl) b2_3 rfl nofun (fun h5 u5 => ?_))
    have s5 : h5.size = h3.size := u5.size
    have k_5 := k_3.upd u5 (by omega)
    have b1_5 := u5.ne b1_3 (by omega)
    have b2_5 := u5.at_
    refine asg rfl rfl ?_; refine o_nil ?_; refine x_seq ?_; refine c_ret ?_; refine x_seq_ret ?_
    refine retc2 (.inr rfl) rfl rfl rfl rfl (row_blk b2_5) ?_
    exact ⟨_, zeroF, 160, rfl, zero_face _, (k_5).toExt, .inr ⟨fun e => c4 e.1, rfl, rfl⟩⟩
  · have hSI : ShapedP f ∧ ImpP f := Classical.not_not.1 c4
    obtain ⟨hS, hI⟩ := hSI
    obtain ⟨hTr, hPl⟩ := needed_ok hS
    have hu16 := hS.1.2.1
    have ho64 := hS.1.2.2.1
    have hlen := hS.1.2.2.2.1
    have hrf := hTr.nodes.refs hTr.len
    refine c_skip ?_; refine x_seq ?_; refine c_seq ?_
    refine c_treg (Mod (fun k => False) h3) (some 5) [5, 2, 4, 3, 1, 0] (.leaf [0, 1, 3, 4, 2] [5, 6, 7]) rfl (Mod.refl _ _) (by kernel_rfl) ?_
    have c0_1 : Mod (fun k => False) h3 h3 := Mod.refl _ _
    refine t_leaf ?_
    refine fa rfl rfl (ldI rfl (fun _ hI => cell (hI.get b1_3 (by first | exact id | (intro e; have e : _ = _ := e; omega) | assumption)) rfl) rfl (fa rfl rfl (ldI rfl (fun _ hI => cell (hI.get b1_3 (by first | exact id | (intro e; have e : _ = _ := e; omega) | assumption)) rfl) rfl ?_)))
    refine clI (vs := []) rfl (basicT_fn) (fun _ _ w => w.2.1) rfl (fun v6 h6 r6 => ?_)
    obtain ⟨hBas, x6, hBl⟩ := r6
    obtain ⟨a6, c6, rfl⟩ := OwnS.form (show OwnS _ _ _ _ _ basic from hBas)
    have z6 := x6.size
    have c_6 := x6
    have k_6 := (k_3.ext x6)
    have b1_6 := (x6.get b1_3)
    have b2_6 := (x6.get b2_3)
    refine o_nil ?_; refine x_tail ?_
    refine bld (vs := [(0, .slice at0 f.types.length ct0), (2, .slice a6 basic.length c6), (3, str f.name)]) (v := .agg (trimCells (.slice at0 f.types.length ct0) (fun _ => 0) (.slice a6 basic.length c6) f.name 0).toArray) rfl (fun _ => by kernel_rfl) rfl ?_
    refine bx rfl nofun rfl (fun h7 n7 => ?_)
    have s7 : h7.size = h6.size + 1 := n7.size
    have k_7 := k_6.ext n7.ext
    have b1_7 := n7.ext.get b1_6
    have b2_7 := n7.ext.get b2_6
    have b18_7 := n7.at_
    refine asg rfl rfl ?_; refine o_nil ?_; refine x_seq ?_
    refine c_cut (α := Nat × Heap × Value) (fun y => [(1, ptr h.size 0), (2, ptr h1.size 0), (4, ptr h6.size 0), (5, ptr y.1 0)]) (fun y => y.2.1)
      (fun y => Ext h7 y.2.1 ∧ h7.size ≤ y.1 ∧ y.2.1[y.1]? = some (.cells #[str f.name, .int .u32 f.key, y.2.2, .slice none 0 0, .slice none 0 0] 27 (0, 0)) ∧ OwnS y.2.1 65 2 (usedR y.2.1) y.2.2 f.uses ∧ ∀ b, ownB y.2.2 b → h7.size ≤ b ∧ b ≠ y.1) ?_ ?_
    · refine c_treg (Mod (fun k => False) h7) (some 9) [9, 8, 7, 6, 5, 4, 3, 2, 1, 0] (.fork [0, 1, 2, 3, 4, 5] 6 (.leaf [7, 8] [9]) 8 (.leaf [6, 7] [9])) rfl (Mod.refl _ _) (by kernel_rfl) ?_
      have c0_2 : Mod (fun k => False) h7 h7 := Mod.refl _ _
      refine t_fork ?_
      refine fa rfl rfl (ldI rfl (fun _ hI => cell (hI.get b1_7 (by first | exact id | (intro e; have e : _ = _ := e; omega) | assumption)) rfl) rfl (fa rfl rfl (ldI rfl (fun _ hI => cell (hI.get b1_7 (by first | exact id | (intro e; have e : _ = _ := e; omega) | assumption)) rfl) rfl ?_)))
      refine fa rfl rfl (ldI rfl (fun _ hI => cell (hI.get b1_7 (by first | exact id | (intro e; have e : _ = _ := e; omega) | assumption)) rfl) rfl ?_)
      refine o_nil ?_; refine x_fork ?_ ?_
      · refine clI (vs := [.slice au f.uses.length cu]) rfl ((cloneU_fn hU0 k_7 (by omega))) (fun _ _ w => w.2.2) rfl (fun v8 h8 r8 => ?_)
        obtain ⟨o8, l8, x8⟩ := r8
        obtain ⟨a8, c8, rfl⟩ := o8.form
        have z8 := x8.size
        have c_8 := x8
        have k_8 := (k_7.ext x8)
        have b1_8 := (x8.get b1_7)
        have b2_8 := (x8.get b2_7)
        have b18_8 := (x8.get b18_7)
        refine o_nil ?_; refine x_kT ?_; refine t_leaf ?_
        refine bld (vs := [(0, str f.name), (1, .int .u32 f.key), (2, .slice a8 f.uses.length c8)]) (v := .agg #[str f.name, .int .u32 f.key, .slice a8 f.uses.length c8, .slice none 0 0, .slice none 0 0]) rfl (fun _ => by kernel_rfl) rfl ?_
        refine alc (fun _ h' n' => c_8.trans (n'.ext.mod _)) rfl (fun h9 n9 => ?_)
        have s9 : h9.size = h8.size + 1 := n9.size
        have c_9 := c_8.trans (n9.ext.mod _)
        have k_9 := k_8.ext n9.ext
        have b1_9 := n9.ext.get b1_8
        have b2_9 := n9.ext.get b2_8
        have b18_9 := n9.ext.get b18_8
        have b5_9 := n9.at_
        refine o_nil ?_; refine x_tail ?_; refine stw rfl rfl rfl (ones rfl) b5_9 rfl nofun (fun h10 u10 => ?_)
        have s10 : h10.size = h9.size := u10.size
        have k_10 := k_9.upd u10 (by omega)
        have b1_10 := u10.ne b1_9 (by omega)
        have b2_10 := u10.ne b2_9 (by omega)
        have b18_10 := u10.ne b18_9 (by omega)
        have b5_10 := u10.at_
        refine o_nil ?_
        have hl8 : ∀ b, ownB (.slice a8 f.uses.length c8) b → b < h8.size := by obtain ⟨_, o⟩ := o8.own; exact o.lt
        exact x_cut (h8.size, h10, _) ⟨c_9.upd u10 (.inr (by omega)), by simp only; omega, b5_10, OwnS.mono (OwnS.mono o8 n9.ext (fun _ _ e => e) (fun _ _ r => r)) u10.mod (fun k e e' => by have := hl8 k e; have e' : k = h8.size := e'; omega) (fun _ _ r => r), fun b e => ⟨by have := l8 b e; omega, by have := hl8 b e; simp only; omega⟩⟩ ⟨rfl, rfl, rfl, rfl, trivial⟩ rfl
      · refine alc (fun _ h' n' => c0_2.trans (n'.ext.mod _)) rfl (fun h11 n11 => ?_)
        have s11 : h11.size = h7.size + 1 := n11.size
        have c_11 := c0_2.trans (n11.ext.mod _)
        have k_11 := k_7.ext n11.ext
        have b1_11 := n11.ext.get b1_7
        have b2_11 := n11.ext.get b2_7
        have b18_11 := n11.ext.get b18_7
        have b5_11 := n11.at_
        refine o_nil ?_; refine x_kT ?_; refine t_leaf ?_
        refine clI (vs := [.slice au f.uses.length cu]) rfl ((cloneU_fn hU0 k_11 (by omega))) (fun _ _ w => c_11.trans w.2.2) rfl (fun v12 h12 r12 => ?_)
        obtain ⟨o12, l12, x12⟩ := r12
        obtain ⟨a12, c12, rfl⟩ := o12.form
        have z12 := x12.size
        have c_12 := c_11.trans x12
        have k_12 := (k_11.ext x12)
        have b1_12 := (x12.get b1_11)
        have b2_12 := (x12.get b2_11)
        have b18_12 := (x12.get b18_11)
        have b5_12 := (x12.get b5_11)
        refine bld (vs := [(0, str f.name), (1, .int .u32 f.key), (2, .slice a12 f.uses.length c12)]) (v := .agg #[str f.name, .int .u32 f.key, .slice a12 f.uses.length c12, .slice none 0 0, .slice none 0 0]) rfl (fun _ => by kernel_rfl) rfl ?_
        refine o_nil ?_; refine x_tail ?_; refine stw rfl rfl rfl (ones rfl) b5_12 rfl nofun (fun h13 u13 => ?_)
        have s13 : h13.size = h12.size := u13.size
        have k_13 := k_12.upd u13 (by omega)
        have b1_13 := u13.ne b1_12 (by omega)
        have b2_13 := u13.ne b2_12 (by omega)
        have b18_13 := u13.ne b18_12 (by omega)
        have b5_13 := u13.at_
        refine o_nil ?_
        exact x_cut (h7.size, h13, _) ⟨c_12.upd u13 (.inr (by omega)), by simp only; omega, b5_13, OwnS.mono o12 u13.mod (fun k e e' => by have := l12 k e; have e' : k = h7.size := e'; omega) (fun _ _ r => r), fun b e => ⟨by have := l12 b e; omega, by have := l12 b e; simp only; omega⟩⟩ ⟨rfl, rfl, rfl, rfl, trivial⟩ rfl
    · intro y hy
      obtain ⟨q, y, vu⟩ := y
      obtain ⟨hx, hq0, hq, hUs, hUb⟩ := hy
      simp only at hx hq0 hq hUs hUb
      obtain ⟨au', cu', rfl⟩ := hUs.form
      have zy := hx.size
      have hql := lt_of_get hq
      have hky := k_7.ext hx
      have hb1 := hx.get b1_7
      have hb2 : y[h1.size]? = some (.cells #[str [], .int .u32 0, .slice none 0 0, .slice none 0 0, .slice none 0 0] 27 (0, 0)) := hx.get b2_7
      have X7 : XAt h7 h6.size (.slice at0 f.types.length ct0) (fun _ => 0) (.slice a6 basic.length c6) f.name 0 := ⟨n7.at_⟩
      have hv6 : ∀ b, ownB (.slice a6 basic.length c6) b → h3.size ≤ b ∧ b < h6.size := fun b e => ⟨hBl b e, by obtain ⟨_, o⟩ := OwnS.own (show OwnS _ _ _ _ _ basic from hBas); exact o.lt b e⟩
      have hUl : ∀ b, ownB (.slice au' f.uses.length cu') b → b < y.size := by obtain ⟨_, o⟩ := hUs.own; exact o.lt
      obtain ⟨B0, hB0⟩ : ∃ B0 : Nat → Prop, B0 = fun b => (h7.size ≤ b ∧ b ≠ q ∧ ¬ ownB (.slice au' f.uses.length cu') b) ∨ ownB (.slice a6 basic.length c6) b := ⟨_, rfl⟩
      have hB0i : ∀ b, y.size ≤ b → B0 b := fun b hb => by rw [hB0]; exact .inl ⟨by omega, by omega, fun e => by have := hUl b e; omega⟩
      have hB0o : ∀ b, B0 b → h3.size ≤ b ∧ b ≠ h6.size ∧ b ≠ q ∧ ¬ ownB (.slice au' f.uses.length cu') b := fun b hb => by
        rw [hB0] at hb
        rcases hb with hb | hb
        · exact ⟨by omega, by omega, hb.2.1, hb.2.2⟩
        · have := hv6 b hb
          exact ⟨this.1, by omega, by omega, fun e => by have := (hUb b e).1; omega⟩
      have T6 := basic_own (B := B0) hBas (fun b e => by rw [hB0]; exact .inr e)
      have Ty := (T6.mod n7.ext (fun _ _ _ e => e)).mod hx (fun _ _ _ e => e)
      have c : VCtx f.types h.size h h6.size (.slice at0 f.types.length ct0) := ⟨hT0, hlen.2, hTr.nodes.sized, hrf, by omega⟩
      have hu0 : unp f.types VS.none < f.types.length + 1 := by have := unp_le f.types VS.none; omega
      have hrange : ∀ o ∈ f.objs, 0 ≤ o.type ∧ o.type < f.types.length := fun o ho => (hS.2.2.2.2 o ho).2.1
      have hrl : ∀ r : Int, r ∈ f.objs.map (·.type) → 0 ≤ r ∧ r < f.types.length := fun r hr => by obtain ⟨o, ho, rfl⟩ := List.mem_map.1 hr; exact hrange o ho
      have hN : h.size ≤ h7.size := by omega
      have hm : h6.size < h7.size := by omega
      change SC _ _ _ _ y
      refine c_seq ?_; refine c_seq ?_; refine c_reg ?_; refine fa rfl rfl (ld rfl (cell hb1 rfl) rfl (lnl rfl rfl (mv rfl rfl ?_)))
      refine o_nil ?_; refine x_seq ?_; refine c_blk ?_
      refine c_loop (α := Nat × Heap × Value × Value) (fun z => [(2, ptr h1.size 0), (4, ptr h6.size 0), (5, ptr q 0), (28, .slice ao f.objs.length co), (29, i64 (f.objs.length : Nat)), (30, i64 (z.1 : Nat))]) (fun z => z.2.1)
        (fun z => (z.1 ≤ f.objs.length ∧ y.size ≤ z.2.1.size) ∧ (∃ W : Nat → Prop, BI f.types f.name h.size h h6.size (.slice at0 f.types.length ct0) (fun b => B0 b ∧ ¬ W b) VS.none basic h7 (.slice a6 basic.length c6) (sfs f.types (f.types.length + 1) (f.objs.map (·.type)) z.1 VS.none) z.2.1 z.2.2.1 ∧ (∀ b, W b → y.size ≤ b ∧ b < z.2.1.size) ∧ ∀ b, ownB z.2.2.2 b → W b) ∧
          z.2.1[h1.size]? = some (.cells #[str [], .int .u32 0, .slice none 0 0, .slice none 0 0, .slice none 0 0] 27 (0, 0)) ∧
          z.2.1[q]? = some (.cells #[str f.name, .int .u32 f.key, .slice au' f.uses.length cu', .slice none 0 0, z.2.2.2] 27 (0, 0)) ∧
          OwnS z.2.1 65 2 (usedR z.2.1) (.slice au' f.uses.length cu') f.uses ∧
          OwnS z.2.1 34 7 (objR z.2.1) z.2.2.2 ((f.objs.take z.1).map (turnOb (sfs f.types (f.types.length + 1) (f.objs.map (·.type)) z.1 VS.none).place))) (fun z => f.objs.length - z.1) (0, y, .slice a6 basic.length c6, .slice none 0 0)
        ⟨⟨Nat.zero_le _, Nat.le_refl _⟩, ⟨fun _ => False, ⟨hky, X7.mod hx (fun e => e), .refl (none_inv _), ⟨[], rfl, by simp, by simpa [outs] using Ty.mono (B' := fun b => B0 b ∧ ¬ False) (fun b _ e => ⟨e, fun e => e⟩)⟩, hx.mod _, fun b e => .inl e⟩, fun b e => e.elim, fun b e => by simp [ownB, Value.ownBlock] at e⟩, hb2, hq, hUs, OwnS.nil _ _ _ _⟩ ⟨rfl, rfl, rfl, rfl, rfl, rfl, trivial⟩ rfl (fun z hz => ?_)
      obtain ⟨i, g, vg, vO⟩ := z
      obtain ⟨⟨hi, hyg⟩, ⟨W, I1, hW, hvO⟩, hr2, hqg, hUg, hOg⟩ := hz
      simp only at hi hyg I1 hW hvO hr2 hqg hUg hOg
      have hkg := I1.k
      have zg := I1.mod.size
      have hqgl := lt_of_get hqg
      change SC _ _ _ _ g
      refine c_seq ?_; refine c_reg ?_; refine lti rfl rfl rfl ?_; refine o_nil ?_; refine x_seq ?_
      refine c_seq ?_; refine c_cond rfl (fun c14 => ?_) (fun c14 => ?_)
      · have hlt : i < f.objs.length := by have := c14; simp only at this; omega
        obtain ⟨o, hox⟩ : ∃ o, f.objs[i]? = some o := ⟨_, List.getElem?_eq_getElem hlt⟩
        have hom : o ∈ f.objs := List.mem_of_getElem? hox
        obtain ⟨bo, oo, cs2, ha2, hbo, hl2, hro, hR2⟩ := SliceAt.el hO0 hkg hox
        subst ha2
        have hR2' := hR2
        obtain ⟨rfl, hon, hot, hoc, hoty, hovf, hovn, hono⟩ := hR2
        refine c_skip ?_; refine x_seq ?_
        refine c_seq ?_; refine c_blk ?_; refine c_seq ?_; refine c_reg ?_
        refine ixs rfl rfl (by omega) rfl (ldn rfl rfl hro rfl (alc nofun rfl (fun h15 n15 => ?_)))
        have s15 : h15.size = g.size + 1 := n15.size
        have k_15 := hkg.ext n15.ext
        have hr2_15 := n15.ext.get hr2
        have hqg_15 := n15.ext.get hqg
        have b7_15 := n15.at_
        refine stw rfl rfl rfl (ones rfl) b7_15 rfl nofun (fun h16 u16 => ?_)
        have I16 := ((I1.narrow (B' := fun b => B0 b ∧ ¬ (W b ∨ b = g.size)) (fun b hb e => ⟨e.1, fun e' => e'.elim e.2 (fun e' => by omega)⟩)).move n15.ext hN hm (fun b e => e.elim)).move u16.mod hN hm (fun b e => by have e : b = g.size := e; subst e; exact ⟨by omega, fun e => e.2 (.inr rfl)⟩)
        have s16 : h16.size = h15.size := u16.size
        have k_16 := k_15.upd u16 (by omega)
        have hr2_16 := u16.ne hr2_15 (by omega)
        have hqg_16 := u16.ne hqg_15 (by omega)
        have b7_16 := u16.at_
        refine o_nil ?_; refine x_seq ?_; refine c_seq ?_; refine c_reg ?_
        refine mv rfl rfl (fa rfl rfl (ld rfl (cell b7_16 rfl) rfl (cl (vs := [ptr h6.size 0, i64 o.type]) rfl ((BI.step c (visit_fn c _) I16 (hrange o hom) rfl hu0 (fun b e => by have := hB0o b e.1; omega) (fun b hb => ⟨hB0i b (by omega), fun e => e.elim (fun e => by have := (hW b e).2; omega) (fun e => by omega)⟩))) rfl (fun v17 h17 r17 => ?_))))
        obtain ⟨vg', rfl, I17, P17, K17, M17, F17⟩ := r17
        have z17 := M17.size
        have k_17 := (I17.k)
        have hr2_17 := (M17.get hr2_16 (fun e => e.elim (fun e => by omega) (fun e => by have e1 := I16.inB _ e; have e2 := hB0o _ e1.1; first | omega | exact e1.2 (.inr rfl))))
        have hqg_17 := (M17.get hqg_16 (fun e => e.elim (fun e => by omega) (fun e => by have e1 := I16.inB _ e; have e2 := hB0o _ e1.1; first | omega | exact e1.2 (.inr rfl))))
        have b7_17 := (M17.get b7_16 (fun e => e.elim (fun e => by omega) (fun e => by have e1 := I16.inB _ e; have e2 := hB0o _ e1.1; first | omega | exact e1.2 (.inr rfl))))
        refine fa rfl rfl (st rfl rfl rfl b7_17 rfl nofun (fun h18 u18 => ?_))
        have I18 := I17.move u18.mod hN hm (fun b e => by have e : b = g.size := e; subst e; exact ⟨by omega, fun e => e.2 (.inr rfl)⟩)
        generalize hS' : visitF f.types (f.types.length + 1) o.type (sfs f.types (f.types.length + 1) (f.objs.map (·.type)) i VS.none) = S' at *
        have s18 : h18.size = h17.size := u18.size
        have k_18 := k_17.upd u18 (by omega)
        have hr2_18 := u18.ne hr2_17 (by omega)
        have hqg_18 := u18.ne hqg_17 (by omega)
        have b7_18 := u18.at_
        refine o_nil ?_; refine x_seq ?_; refine c_reg ?_
        refine fa rfl rfl (ld rfl (cell hqg_18 rfl) rfl (ldn rfl rfl (row_blk b7_18) rfl (bsl (vs := [(0, .agg #[i64 o.cls, str o.name, i64 (turned S'.place o.type), i64 o.val.form, i64 o.val.n, str o.val.text, i64 o.n])]) (cs := #[i64 o.cls, str o.name, i64 (turned S'.place o.type), i64 o.val.form, i64 o.val.n, str o.val.text, i64 o.n]) (E := 34) rfl (fun _ => by kernel_rfl) nofun rfl (fun h19 n19 => ?_))))
        have MM : Go.Eng.Mod (fun b => (b = h6.size ∨ ownB vg b) ∨ b = g.size) g h19 := ((((((Go.Eng.Mod.refl _ g).trans (n15.ext.mod _)).upd u16 (.inl (.inr rfl))).andMod M17 (fun b e => .inl (.inl e))).upd u18 (.inl (.inr rfl))).trans (n19.ext.mod _))
        have nW : ∀ b, W b → ¬ ((b = h6.size ∨ ownB vg b) ∨ b = g.size) := fun b e e' => by
          have := hW b e
          rcases e' with (e' | e') | e'
          · omega
          · exact (I1.inB b e').2 e
          · omega
        have nU : ∀ b, ownB (.slice au' f.uses.length cu') b → ¬ ((b = h6.size ∨ ownB vg b) ∨ b = g.size) := fun b e e' => by
          have h1 := hUl b e
          have h2 := hUb b e
          rcases e' with (e' | e') | e'
          · omega
          · exact (hB0o b (I1.inB b e').1).2.2.2 e
          · omega
        have U19 := OwnS.mono hUg MM nU (fun _ _ r => r)
        have hOg' := OwnS.mono hOg MM (fun k e => nW k (hvO k e)) (R' := objR g) (fun _ _ r => r)
        obtain ⟨css, hOw, q1, q2, q3⟩ := hOg'
        have hln : ((f.objs.take i).map (turnOb (sfs f.types (f.types.length + 1) (f.objs.map (·.type)) i VS.none).place)).length = i := by rw [List.length_map, List.length_take]; omega
        have s19 : h19.size = h18.size + 1 := n19.size
        have k_19 := k_18.ext n19.ext
        have hr2_19 := n19.ext.get hr2_18
        have hqg_19 := n19.ext.get hqg_18
        have b7_19 := n19.ext.get b7_18
        refine app U_sl rfl rfl hOw (Src.slice (size := 7) (m := 1) rfl (row_blk n19.at_)) rfl (ones rfl) (by rw [hln]; omega) (by rw [hln]; omega) nofun rfl (fun v20 h20 o20 m20 f20 => ?_)
        obtain ⟨aO, cO, rfl⟩ := o20.form
        have I20 := ((I18.move n19.ext hN hm (fun b e => e.elim)).narrow (B' := fun b => B0 b ∧ ¬ ((W b ∨ b = g.size) ∨ ownB (.slice aO (((f.objs.take i).map (turnOb (sfs f.types (f.types.length + 1) (f.objs.map (·.type)) i VS.none).place)).length + 1) cO) b)) (fun b hb e => ⟨e.1, fun e' => e'.elim e.2 (fun e' => (f20 b e').elim (fun e' => e.2 (.inl (hvO b e'))) (fun e' => by omega))⟩)).move m20 hN hm (fun b e => ⟨by have := (hW b (hvO b e)).1; omega, fun e' => e'.2 (.inl (.inl (hvO b e)))⟩)
        have s20 : h19.size ≤ h20.size := m20.size
        have k_20 := (I20.k)
        have hr2_20 := (m20.get hr2_19 (fun e => by have := hW _ (hvO _ e); omega))
        have hqg_20 := (m20.get hqg_19 (fun e => by have := hW _ (hvO _ e); omega))
        have b7_20 := (m20.get b7_19 (fun e => by have := hW _ (hvO _ e); omega))
        refine fa rfl rfl (st rfl rfl rfl hqg_20 rfl nofun (fun h21 u21 => ?_))
        have I21 := I20.move u21.mod hN hm (fun b e => by have e : b = q := e; subst e; exact ⟨hq0, fun e => (hB0o _ e.1).2.2.1 rfl⟩)
        have U21 := OwnS.mono (OwnS.mono U19 m20 (fun k e e' => by have := hW k (hvO k e'); have := hUl k e; omega) (fun _ _ r => r)) u21.mod (fun k e e' => (hUb k e).2 e') (fun _ _ r => r)
        have hok := sfs_ok hrf (l := f.objs.map (·.type)) i (none_inv f.types) hu0 hrl
        have s21 : h21.size = h20.size := u21.size
        have k_21 := k_20.upd u21 (by omega)
        have hr2_21 := u21.ne hr2_20 (by omega)
        have b7_21 := u21.ne b7_20 (by omega)
        have hqg_21 := u21.at_
        refine o_nil ?_; refine x_blk ?_; refine x_seq ?_; refine c_reg ?_; refine add rfl rfl (by omega) rfl (mv rfl rfl ?_)
        refine o_nil ?_
        have hsu : sfs f.types (f.types.length + 1) (f.objs.map (·.type)) (i + 1) VS.none = S' := (sfs_succ (by rw [List.getElem?_map, hox]; rfl) _).trans hS'
        have hobj : objR g (turnOb S'.place o) [i64 o.cls, str o.name, i64 (turned S'.place o.type), i64 o.val.form, i64 o.val.n, str o.val.text, i64 o.n] := ⟨rfl, hon, hot, hoc, turned_in I18.ok.inv hlen.2 (hrange o hom).1, hovf, hovn, hono⟩
        have O20 := OwnS.snoc q1 q2 q3 o20 rfl hobj
        have hlst : (f.objs.take i).map (turnOb (sfs f.types (f.types.length + 1) (f.objs.map (·.type)) i VS.none).place) ++ [turnOb S'.place o] = (f.objs.take (i + 1)).map (turnOb S'.place) := by
          rw [show f.objs.take (i + 1) = f.objs.take i ++ [o] by rw [List.take_add_one, hox]; rfl, List.map_append]
          refine congrArg (· ++ [turnOb S'.place o]) (List.map_congr_left fun p hp => ?_)
          unfold turnOb
          rw [turned_keep K17 (hok.2 _ (by rw [← List.map_take]; exact List.mem_map_of_mem hp))]
        rw [hlst] at O20
        have O21 := OwnS.mono O20 u21.mod (fun k e e' => by
          have e' : k = q := e'
          rcases f20 k e with e | e
          · have := hW k (hvO k e); omega
          · omega) (R' := objR h21) (fun _ _ r => r)
        have e20 : ∀ b, ownB (.slice aO (((f.objs.take i).map (turnOb (sfs f.types (f.types.length + 1) (f.objs.map (·.type)) i VS.none).place)).length + 1) cO) b → y.size ≤ b ∧ b < h21.size := fun b e => ⟨(f20 b e).elim (fun e => (hW b (hvO b e)).1) (fun e => by omega), by obtain ⟨_, o⟩ := O21.own; exact o.lt b e⟩
        exact x_loop (i + 1, h21, vg', _) ⟨⟨hlt, by simp only; omega⟩, ⟨fun b => (W b ∨ b = g.size) ∨ ownB (.slice aO (((f.objs.take i).map (turnOb (sfs f.types (f.types.length + 1) (f.objs.map (·.type)) i VS.none).place)).length + 1) cO) b, by simp only; rw [hsu]; exact I21, fun b e => e.elim (fun e => e.elim (fun e => by have := hW b e; simp only; omega) (fun e => by simp only; omega)) (e20 b), fun b e => .inr e⟩, hr2_21, hqg_21, U21, by simp only; rw [hsu]; exact O21⟩ (by simp only; omega) ⟨rfl, rfl, rfl, rfl, rfl, rfl, trivial⟩ rfl
      · have hin : i = f.objs.length := by have := c14; simp only at this; omega
        subst hin
        have hSn : sfs f.types (f.types.length + 1) (f.objs.map (·.type)) f.objs.length VS.none = needed f := by unfold sfs needed; rw [List.take_of_length_le (by simp)]
        rw [hSn] at I1 hOg
        rw [List.take_length] at hOg
        obtain ⟨bT, capT, curT, eT, -⟩ := I1.slice rfl
        subst eT
        obtain ⟨aO, cO, rfl⟩ := hOg.form
        obtain ⟨new, e1, e2, oT⟩ := I1.own
        have hnew : (needed f).order = new := e1.trans (List.nil_append _)
        have ol := vorder_le hTr.inv
        refine c_exit ?_; refine x_seq_exit ?_; refine x_loop_exit ?_; refine x_blk_hit ?_; refine x_seq ?_; refine c_seq ?_; refine c_reg ?_
        refine mv rfl rfl (nck rfl rfl (fa rfl rfl (ld rfl I1.x.out rfl (fa rfl rfl (st rfl rfl rfl hqg rfl nofun (fun h22 u22 => ?_))))))
        have U22 := OwnS.mono hUg u22.mod (fun k e e' => (hUb k e).2 e') (R' := usedR h22) (fun _ _ r => r)
        have T22 := oT.mod u22.mod (fun b hb _ e => (hB0o b hb.1).2.2.1 e)
        have O22 := OwnS.mono hOg u22.mod (fun k e e' => by have e' : k = q := e'; have := hW k (hvO k e); omega) (R' := objR h22) (fun _ _ r => r)
        have htl : (trimF f).types.length = 7 + (needed f).order.length := newT_len _ _ _
        have hTeq : basic ++ outs f.types f.name (needed f).place (owns f.types f.name VS.none.order) new = (trimF f).types := by rw [← hnew]; rfl
        rw [hTeq] at T22
        have hF22 : FaceV h22.size h22 (.agg #[str f.name, .int .u32 f.key, .slice au' f.uses.length cu', .slice (some ⟨bT, 0, none⟩) (7 + (needed f).order.length) capT, .slice aO (f.objs.map (turnOb (needed f).place)).length cO]) (trimF f) := face_parts (f := trimF f) hn hk U22 T22 O22 (by show f.uses.length ≤ _; omega) (by omega) (by show (f.objs.map _).length ≤ _; rw [List.length_map]; omega)
        have s22 : h22.size = g.size := u22.size
        have k_22 := hkg.upd u22 (by omega)
        have hr2_22 := u22.ne hr2 (by omega)
        have hqg_22 := u22.at_
        refine o_nil ?_; refine x_seq ?_
        refine c_seq ?_; refine c_seq ?_; refine c_reg ?_; refine ldn rfl rfl (row_blk hqg_22) rfl (clE ((fgood_fn hF22)) rfl rfl (fun h23 x23 => ?_))
        have s23 : h22.size ≤ h23.size := x23.size
        have k_23 := k_22.ext x23
        have hr2_23 := x23.get hr2_22
        have hqg_23 := x23.get hqg_22
        refine nt rfl rfl ?_; refine o_nil ?_; refine x_seq ?_; refine c_cond rfl (fun c24 => ?_) (fun c24 => ?_)
        · refine c_seq ?_; refine c_reg ?_
          refine bld (vs := []) (v := .agg #[str [], .int .u32 0, .slice none 0 0, .slice none 0 0, .slice none 0 0]) rfl (fun _ => by kernel_rfl) rfl (stw rfl rfl rfl (ones rfl) hr2_23 rfl nofun (fun h25 u25 => ?_))
          have s25 : h25.size = h23.size := u25.size
          have k_25 := k_23.upd u25 (by omega)
          have hqg_25 := u25.ne hqg_23 (by omega)
          have hr2_25 := u25.at_
          refine asg rfl rfl ?_; refine o_nil ?_; refine x_seq ?_; refine c_ret ?_; refine x_seq_ret ?_
          refine retc2 (.inr rfl) rfl rfl rfl rfl (row_blk hr2_25) ?_
          exact ⟨_, zeroF, 160, rfl, zero_face _, (k_25).toExt, .inr ⟨fun e => c24 ((trim_good hS hI).2 e.2), rfl, rfl⟩⟩
        · refine c_skip ?_; refine x_seq ?_; refine c_seq ?_; refine c_reg ?_
          refine ldn rfl rfl (row_blk hqg_23) rfl (stw rfl rfl rfl (ones rfl) hr2_23 rfl nofun (fun h26 u26 => ?_))
          have s26 : h26.size = h23.size := u26.size
          have k_26 := k_23.upd u26 (by omega)
          have hqg_26 := u26.ne hqg_23 (by omega)
          have hr2_26 := u26.at_
          refine asg rfl rfl ?_; refine o_nil ?_; refine x_seq ?_; refine c_ret ?_; refine retc2 (.inr rfl) rfl rfl rfl rfl (row_blk hr2_26) ?_
          have h1lt : h1.size < h3.size := by omega
          have U26 := OwnS.mono (OwnS.mono U22 x23 (fun _ _ e => e) (fun _ _ r => r)) u26.mod (fun k e e' => by have e' : k = h1.size := e'; have := (hUb k e).1; omega) (R' := usedR h26) (fun _ _ r => r)
          have T26 := (T22.mod x23 (fun _ _ _ e => e)).mod u26.mod (fun b hb _ e => by have e : b = h1.size := e; have := hB0o b hb.1; omega)
          have O26 := OwnS.mono (OwnS.mono O22 x23 (fun _ _ e => e) (fun _ _ r => r)) u26.mod (fun k e e' => by have e' : k = h1.size := e'; have := hW k (hvO k e); omega) (R' := objR h26) (fun _ _ r => r)
          exact ⟨_, trimF f, 0, rfl, face_parts (f := trimF f) hn hk U26 T26 O26 (by show f.uses.length ≤ _; omega) (by omega) (by show (f.objs.map _).length ≤ _; rw [List.length_map]; omega), (k_26).toExt, .inl ⟨⟨⟨hS, hI⟩, (trim_good hS hI).1 (Classical.not_not.1 c24)⟩, rfl, rfl⟩⟩
end

/-! The interface by which the laws wake: plain. No condition but what each theorem says. -/
section
open Go Go.Eng

def arrTy (n : Int) : Ty := ⟨7, [], [], n, 1, 0, [], [], 0, 0⟩
def plainOb (a : Int) : Ob := ⟨3, [120], a, ⟨0, 0, []⟩, 0⟩
def plainF : Face := ⟨[65], 0, [], basic ++ [arrTy 2, arrTy 3], [plainOb 8]⟩
theorem trim_plain : trimF plainF = ⟨[65], 0, [], basic ++ [arrTy 3], [plainOb 7]⟩ := by rfl
theorem owns_plain : owns plainF.types plainF.name (needed plainF).order = 0 := by rfl
theorem plain_low {j : Nat} (h : j < 7) : plainF.types[j]? = some (basicTy j) := by
  show (basic ++ _)[j]? = _
  rw [List.getElem?_append_left (by simp [basic]; omega)]; exact basic_at (by omega)
theorem plain_all {j : Nat} {x : Ty} (h : plainF.types[j]? = some x) : (j < 7 ∧ x = basicTy j) ∨ (j = 7 ∧ x = arrTy 2) ∨ (j = 8 ∧ x = arrTy 3) := by
  have hl := (List.getElem?_eq_some_iff.1 h).1
  have : j < 9 := hl
  by_cases h7 : j < 7
  · rw [plain_low h7] at h; exact .inl ⟨h7, (Option.some.inj h).symm⟩
  · by_cases e : j = 7
    · subst e; exact .inr (.inl ⟨rfl, (Option.some.inj h).symm⟩)
    · obtain rfl : j = 8 := by omega
      exact .inr (.inr ⟨rfl, (Option.some.inj h).symm⟩)
theorem plain_form1 : formOf plainF.types 1 = 1 := rfl
theorem plain_ends {a : Nat} (h : a < 7) : Ends (edges plainF.types) a := by
  refine .mk fun e he => ?_
  rw [edges, plain_low h] at he
  have e1 : ¬ ((basicTy a).form = 7 ∨ (basicTy a).form = 8) := by show ¬ ((a : Int) = 7 ∨ (a : Int) = 8); omega
  have e2 : ¬ (basicTy a).form = 9 := by show ¬ (a : Int) = 9; omega
  simp only at he
  rw [if_neg e1, if_neg e2] at he
  cases he
theorem plain_tgood : TGood plainF.types := by
  refine ⟨⟨by decide, by decide⟩, fun j y hj => ?_, fun a ha => ?_, ?_, fun x hx h9 => ?_⟩
  · rcases plain_all hj with ⟨h, rfl⟩ | ⟨rfl, rfl⟩ | ⟨rfl, rfl⟩
    · exact .inl ⟨by omega, by simp [BareP, basicTy]⟩
    · exact .inr ⟨by decide, .inl ⟨rfl, ⟨by decide, by decide, by rw [show (arrTy 2).elem = 1 from rfl, plain_form1]; unfold PartF; omega⟩, rfl, rfl, rfl, rfl, rfl⟩, .inl ⟨⟨rfl, rfl⟩, by simp [arrTy]⟩⟩
    · exact .inr ⟨by decide, .inl ⟨rfl, ⟨by decide, by decide, by rw [show (arrTy 3).elem = 1 from rfl, plain_form1]; unfold PartF; omega⟩, rfl, rfl, rfl, rfl, rfl⟩, .inl ⟨⟨rfl, rfl⟩, by simp [arrTy]⟩⟩
  · by_cases h : a < 7
    · exact plain_ends h
    · refine .mk fun e he => ?_
      have hx : plainF.types[a]? = some (plainF.types[a]'ha) := List.getElem?_eq_getElem ha
      rcases plain_all hx with ⟨h', -⟩ | ⟨-, e2⟩ | ⟨-, e2⟩
      · omega
      · rw [edges, hx, e2] at he; simp [arrTy] at he; subst he; exact plain_ends (a := 1) (by decide)
      · rw [edges, hx, e2] at he; simp [arrTy] at he; subst he; exact plain_ends (a := 1) (by decide)
  · show (recs plainF.types).Nodup
    rw [show recs plainF.types = [] from rfl]; exact .nil
  · obtain ⟨j, hj⟩ := List.mem_iff_getElem?.1 hx
    rcases plain_all hj with ⟨h, rfl⟩ | ⟨rfl, rfl⟩ | ⟨rfl, rfl⟩
    · have h9 : (j : Int) = 9 := h9; omega
    · exact absurd h9 (by decide)
    · exact absurd h9 (by decide)
theorem word_one {c : UInt8} (h : letterP c) : WordP [c] := ⟨Nat.le_refl _, by simp, h, fun i hi => by
  obtain rfl : i = 0 := by simp at hi; omega
  exact .inl h⟩
theorem plain_word : WordP [65] := word_one (by unfold letterP; decide)
theorem plain_tys {P : Ty → Prop} (h1 : ∀ j : Nat, j < 7 → P (basicTy j)) (h2 : P (arrTy 2)) (h3 : P (arrTy 3)) : ∀ x ∈ plainF.types, P x := fun x hx => by
  obtain ⟨j, hj⟩ := List.mem_iff_getElem?.1 hx
  rcases plain_all hj with ⟨h, rfl⟩ | ⟨rfl, rfl⟩ | ⟨rfl, rfl⟩
  · exact h1 j h
  · exact h2
  · exact h3
theorem plain_shaped : ShapedP plainF := by
  refine ⟨⟨plain_word, by decide, by decide, plain_tgood⟩, ⟨by simp [plainF], fun u hu => by simp [plainF] at hu⟩, ⟨plain_tys (fun j _ => .inl rfl) (.inl rfl) (.inl rfl), ?_⟩, by simp [plainF], fun o ho => ?_⟩
  · rw [show tkeys plainF.types = [] from rfl]; exact .nil
  · obtain rfl : o = plainOb 8 := by simpa [plainF] using ho
    exact ⟨word_one (by unfold letterP; decide), by decide, .inr ⟨rfl, rfl, rfl⟩, .inr (.inr (.inl ⟨rfl, by decide, by decide, by decide⟩))⟩
theorem plain_imp : ImpP plainF := plain_tys (fun j hj h9 => by have h9 : (j : Int) = 9 := h9; omega) (fun h9 => absurd h9 (by decide)) (fun h9 => absurd h9 (by decide))
theorem num_none {m : Bytes} : ∀ {l : List Ty} {n : Int}, (∀ x ∈ l, ¬ x.form = 9) → numP m n l
  | [], _, _ => trivial
  | x :: l, n, h => by
    unfold numP
    rw [if_neg (h x (List.mem_cons_self ..))]
    exact num_none fun y hy => h y (List.mem_cons_of_mem _ hy)
theorem plain_good : FGood plainF := ⟨plain_shaped, num_none (plain_tys (fun j hj h9 => by have h9 : (j : Int) = 9 := h9; omega) (by decide) (by decide))⟩
end

/-! The walks of what wakes. No condition but what each theorem says. -/
section
open Go Go.Eng

theorem _root_.Go.Eng.OwnS.app {α : Type} {h' : Heap} {E sz : Nat} {R : α → List Value → Prop} {v' : Value} {xs ys : List α} {css dss : List (List Value)}
    (h1 : css.length = xs.length) (h2 : ∀ c ∈ css, c.length = sz) (h3 : ∀ (i : Nat) x cs, xs[i]? = some x → css[i]? = some cs → R x cs)
    (k1 : dss.length = ys.length) (k2 : ∀ c ∈ dss, c.length = sz) (k3 : ∀ (i : Nat) x cs, ys[i]? = some x → dss[i]? = some cs → R x cs)
    (o : Owns h' E sz v' (xs.length + ys.length) (css.flatten ++ dss.flatten)) : OwnS h' E sz R v' (xs ++ ys) := by
  refine ⟨css ++ dss, by rw [List.length_append, List.flatten_append]; exact o, by rw [List.length_append, List.length_append, h1, k1], fun c hc => (List.mem_append.1 hc).elim (h2 c) (k2 c), fun i x cs hx hc => ?_⟩
  by_cases hi : i < xs.length
  · rw [List.getElem?_append_left hi] at hx
    rw [List.getElem?_append_left (by omega)] at hc
    exact h3 i x cs hx hc
  · rw [List.getElem?_append_right (by omega)] at hx
    rw [List.getElem?_append_right (by omega), h1] at hc
    exact k3 _ x cs hx hc
theorem arr_ty {B : Nat → Prop} (h : Heap) {n : Int} (hn : 0 ≤ n ∧ n ≤ 5000) : TyB B h (arrTy n) (tyCells (arrTy n) (.slice none 0 0) (.slice none 0 0)) :=
  ⟨⟨Nat.zero_le _, Nat.zero_le _, by show in64 7; unfold in64; omega, by show in64 n; unfold in64; omega, by show in64 1; unfold in64; omega, in0, in0, in0⟩, _, _, rfl, SliceB.nil _ _ _ _, SliceB.nil _ _ _ _⟩
def FaceB (B : Nat → Prop) (h : Heap) (v : Value) (f : Face) : Prop := ∃ vu vt vo, v = .agg #[str f.name, .int .u32 f.key, vu, vt, vo] ∧ TysOwn B h vt f.types ∧ OwnS h 65 2 (usedR h) vu f.uses ∧ OwnS h 34 7 (objR h) vo f.objs
set_option maxHeartbeats 2000000 in
theorem plainR_fn {h : Heap} : Does Try.prog 33 [] h (fun v h' => FaceV h'.size h' v plainF ∧ Ext h h') := by
  have hmx : maxLen = 9223372036854775807 := by decide
  have k0 : At h.size h h := At.refl (Nat.le_refl _)
  refine fn_enter (N := 11) Try.func33 (by kernel_rfl) rfl rfl rfl (fun w0 => ?_)
  refine c_seq ?_; refine c_reg ?_; refine alc nofun rfl (fun h1 n1 => ?_)
  have s1 : h1.size = h.size + 1 := n1.size
  have k_1 := k0.ext n1.ext
  have b0_1 := n1.at_
  refine o_nil ?_; refine x_seq ?_; refine c_seq ?_; refine c_reg ?_; refine cl (vs := []) rfl (basic13_fn) rfl (fun v2 h2 r2 => ?_)
  obtain ⟨hB, x2, l2⟩ := r2
  have z2 := x2.size
  have k_2 := (k_1.ext x2)
  have b0_2 := (x2.get b0_1)
  refine bld (vs := [(0, i64 7), (3, i64 2), (4, i64 1)]) (v := .agg (tyCells (arrTy 2) (.slice none 0 0) (.slice none 0 0)).toArray) rfl (fun _ => by kernel_rfl) rfl ?_
  refine bld (vs := [(0, i64 7), (3, i64 3), (4, i64 1)]) (v := .agg (tyCells (arrTy 3) (.slice none 0 0) (.slice none 0 0)).toArray) rfl (fun _ => by kernel_rfl) rfl ?_
  refine bsl (vs := [(0, .agg (tyCells (arrTy 2) (.slice none 0 0) (.slice none 0 0)).toArray), (1, .agg (tyCells (arrTy 3) (.slice none 0 0) (.slice none 0 0)).toArray)]) (cs := (tyCells (arrTy 2) (.slice none 0 0) (.slice none 0 0) ++ tyCells (arrTy 3) (.slice none 0 0) (.slice none 0 0)).toArray) (E := 49) rfl (fun _ => by kernel_rfl) nofun rfl (fun h3 n3 => ?_)
  have T2 := basic_own (B := fun b => h1.size ≤ b) hB l2
  obtain ⟨css, hOw, q1, q2, q3⟩ := T2.own
  have s3 : h3.size = h2.size + 1 := n3.size
  have k_3 := k_2.ext n3.ext
  have b0_3 := n3.ext.get b0_2
  refine app U_sl rfl rfl (hOw.mod n3.ext (fun _ _ e => e)) (Src.slice (size := 10) (m := 2) rfl (row_blk n3.at_)) rfl (ones rfl) (by rw [show basic.length = 7 from rfl]; omega) (by rw [show basic.length = 7 from rfl]; omega) nofun rfl (fun v4 h4 o4 m4 f4 => ?_)
  obtain ⟨a4, c4, rfl⟩ := o4.form
  have s4 : h3.size ≤ h4.size := m4.size
  have k_4 := (k_3.mod m4 (fun b e => by have := l2 b e; omega))
  have b0_4 := (m4.get b0_3 (fun e => by have := l2 _ e; omega))
  refine asg rfl rfl ?_; refine o_nil ?_; refine x_seq ?_; refine c_seq ?_; refine c_reg ?_
  refine mv rfl rfl (bld (vs := [(0, i64 3), (1, str [120]), (2, i64 8)]) (v := objV (plainOb 8)) rfl (fun _ => by kernel_rfl) rfl (bsl (vs := [(0, objV (plainOb 8))]) (cs := #[i64 3, str [120], i64 8, i64 0, i64 0, str [], i64 0]) (E := 34) rfl (fun _ => by kernel_rfl) nofun rfl (fun h5 n5 => ?_)))
  have s5 : h5.size = h4.size + 1 := n5.size
  have k_5 := k_4.ext n5.ext
  have b0_5 := n5.ext.get b0_4
  refine bld (vs := [(0, str [65]), (3, .slice a4 (basic.length + 2) c4), (4, .slice (some ⟨h4.size, 0, none⟩) 1 1)]) (v := .agg #[str [65], .int .u32 0, .slice none 0 0, .slice a4 (basic.length + 2) c4, .slice (some ⟨h4.size, 0, none⟩) 1 1]) rfl (fun _ => by kernel_rfl) rfl ?_
  refine stw rfl rfl rfl (ones rfl) b0_5 rfl nofun (fun h6 u6 => ?_)
  have s6 : h6.size = h5.size := u6.size
  have k_6 := k_5.upd u6 (by omega)
  have b0_6 := u6.at_
  refine o_nil ?_; refine x_seq ?_; refine c_ret ?_; refine retc1 (.inr rfl) rfl rfl rfl (row_blk b0_6) ?_
  have o4' : Owns h4 49 10 (.slice a4 (basic.length + 2) c4) (basic.length + [arrTy 2, arrTy 3].length) (css.flatten ++ [tyCells (arrTy 2) (.slice none 0 0) (.slice none 0 0), tyCells (arrTy 3) (.slice none 0 0) (.slice none 0 0)].flatten) := o4
  have T4 : OwnS h4 49 10 (TyB (fun b => h1.size ≤ b) h4) (.slice a4 (basic.length + 2) c4) plainF.types := OwnS.app q1 q2 (fun i x cs hx hc => ((q3 i x cs hx hc).mod n3.ext (B' := fun b => ¬ ownB _ b ∧ h1.size ≤ b) (fun b _ e => ⟨fun e => e, e⟩)).mod m4 (fun b _ e => ⟨e.1, e.2⟩)) rfl (by intro c hc; simp at hc; rcases hc with rfl | rfl <;> rfl) (fun i x cs hx hc => by
   match i, hx, hc with
   | 0, hx, hc => cases hx; cases hc; exact arr_ty _ (by decide)
   | 1, hx, hc => cases hx; cases hc; exact arr_ty _ (by decide)) o4'
  have hl4 : ∀ b, ownB (.slice a4 (basic.length + 2) c4) b → h1.size ≤ b ∧ b < h4.size := fun b e => ⟨(f4 b e).elim (l2 b) (fun e => by omega), o4.lt b e⟩
  have T6 : TypesAt h6.size h6 (.slice a4 (basic.length + 2) c4) plainF.types := OwnS.at_ (R := tyR h6.size) (OwnS.mono (OwnS.mono T4 n5.ext (fun _ _ e => e) (R' := TyB (fun b => h1.size ≤ b) h5) (fun _ _ r => r.mod n5.ext (fun b _ e => ⟨fun e => e, e⟩))) u6.mod (fun k e e' => by have e' : k = h.size := e'; have := hl4 k e; omega) (fun _ _ r => (r.mod u6.mod (B' := fun b => h1.size ≤ b) (fun b _ e => ⟨fun e' => by have e' : b = h.size := e'; omega, e⟩)).at_)) (by decide) (fun k e => by have := hl4 k e; omega)
  refine ⟨⟨_, _, _, rfl, by decide, by unfold inU32 plainF; decide, ⟨by decide, none, 0, rfl, fun i x e => by simp [plainF] at e⟩, T6, ⟨by decide, _, _, rfl, fun i x e => ?_⟩⟩, (k_6).toExt⟩
  have hi : i = 0 := by have := (List.getElem?_eq_some_iff.1 e).1; simp [plainF] at this; omega
  subst hi
  cases e
  exact ⟨_, 0, _, rfl, by omega, rfl, u6.mod.row (row_blk n5.at_) (fun e => by have e : h4.size = h.size := e; omega), ⟨rfl, by decide, by decide, by unfold in64; decide, by unfold in64; decide, in0, in0, in0⟩⟩
set_option maxHeartbeats 2000000 in
theorem wakes16_fn {h : Heap} : Does Try.prog 15 [] h (fun v h' => v = .bool true ∧ Ext h h') := by
  have hmx : maxLen = 9223372036854775807 := by decide
  have k0 : At h.size h h := At.refl (Nat.le_refl _)
  refine fn_enter (N := 51) Try.func15 (by kernel_rfl) rfl rfl rfl (fun w0 => ?_)
  refine c_seq ?_; refine c_reg ?_; refine asg rfl rfl ?_; refine o_nil ?_; refine x_seq ?_; refine c_seq ?_; refine c_reg ?_
  refine cl (vs := []) rfl (plainR_fn) rfl (fun v1 h1 r1 => ?_)
  obtain ⟨p1, x1⟩ := r1
  have z1 := x1.size
  have k_1 := (k0.ext x1)
  refine cl (vs := [v1]) rfl ((trim_fn p1)) rfl (fun v2 h2 r2 => ?_)
  obtain ⟨xv, x, e, rfl, p2, x2, hr⟩ := r2
  have z2 := x2.size
  have hr : x = trimF plainF ∧ e = 0 := by
    rcases hr with ⟨-, e1, e2⟩ | ⟨hno, -, -⟩
    · exact ⟨e1, e2⟩
    · exact absurd ⟨⟨plain_shaped, plain_imp⟩, by rw [owns_plain]; decide⟩ hno
  obtain ⟨rfl, rfl⟩ := hr
  rw [trim_plain] at p2
  obtain ⟨vu, vt, vo, rfl, hn, hk, hU, hT, hO⟩ := p2
  obtain ⟨au, cu, hvu⟩ := hU.form
  obtain ⟨at0, ct0, hvt⟩ := SliceAt.form hT
  obtain ⟨ao, co, hvo⟩ := hO.form
  obtain rfl : vu = .slice au 0 cu := hvu
  obtain rfl : vt = .slice at0 8 ct0 := hvt
  obtain rfl : vo = .slice ao 1 co := hvo
  have k_2 := (k_1.ext x2)
  refine mv rfl rfl (ext rfl rfl rfl (ext rfl rfl rfl (alc nofun rfl (fun h3 n3 => ?_))))
  have s3 : h3.size = h2.size + 1 := n3.size
  have k_3 := k_2.ext n3.ext
  have b1_3 := n3.at_
  refine stw rfl rfl rfl (ones rfl) b1_3 rfl nofun (fun h4 u4 => ?_)
  have s4 : h4.size = h3.size := u4.size
  have k_4 := k_3.upd u4 (by omega)
  have b1_4 := u4.at_
  refine asg rfl rfl ?_; refine o_nil ?_; refine x_seq ?_; refine c_seq ?_; refine c_reg ?_
  refine cl (vs := []) rfl (plainR_fn) rfl (fun v5 h5 r5 => ?_)
  obtain ⟨p5, x5⟩ := r5
  have z5 := x5.size
  have k_5 := (k_4.ext x5)
  have b1_5 := (x5.get b1_4)
  refine clE ((find_fn p5 [120])) rfl rfl (fun h6 x6 => ?_)
  have s6 : h5.size ≤ h6.size := x6.size
  have k_6 := k_5.ext x6
  have b1_6 := x6.get b1_5
  refine mv rfl rfl (ext rfl rfl rfl (ext rfl rfl rfl (alc nofun rfl (fun h7 n7 => ?_))))
  have s7 : h7.size = h6.size + 1 := n7.size
  have k_7 := k_6.ext n7.ext
  have b1_7 := n7.ext.get b1_6
  have b3_7 := n7.at_
  refine stw rfl rfl rfl (ones rfl) b3_7 rfl nofun (fun h8 u8 => ?_)
  have x28 : Ext h2 h8 := ((((((Go.Eng.Mod.refl (fun _ => False) h2).trans n3.ext).upd u4 (.inr (by omega))).trans x5).trans x6).trans n7.ext).upd u8 (.inr (by omega))
  have k28 : At h2.size h2 h8 := (At.refl (Nat.le_refl _)).ext x28
  obtain ⟨b7, o7, cs7, ha7, hb7, hl7, hr7, hR7⟩ := SliceAt.el hT k28 (i := 7) (x := arrTy 3) rfl
  obtain ⟨b0, o0, cs0, ha0, hb0, hl0, hr0, hR0⟩ := SliceAt.el hO k28 (i := 0) (x := plainOb 7) rfl
  subst ha7
  subst ha0
  obtain ⟨hf7, vf7, vp7, rfl, -⟩ := hR7
  obtain ⟨rfl, -⟩ := hR0
  have s8 : h8.size = h7.size := u8.size
  have k_8 := k_7.upd u8 (by omega)
  have b1_8 := u8.ne b1_7 (by omega)
  have b3_8 := u8.at_
  refine asg rfl rfl ?_; refine o_nil ?_; refine x_seq ?_; refine c_seq ?_; refine c_reg ?_
  refine mv rfl rfl (eqi rfl rfl rfl (mv rfl rfl (gd rfl rfl (fa rfl rfl (gd rfl rfl (ld rfl (cell b1_8 rfl) rfl (gd rfl rfl (lnl rfl rfl (gd rfl rfl (eqi rfl rfl rfl ?_))))))))))
  refine pkt rfl rfl rfl (mv rfl rfl (gd rfl rfl (fa rfl rfl (gd rfl rfl (ld rfl (cell b1_8 rfl) rfl (gd rfl rfl (ixs rfl rfl (by omega) rfl (gd rfl rfl (fa rfl rfl ?_)))))))))
  refine gd rfl rfl (ld rfl (hr7 3 _ rfl) rfl (gd rfl rfl (eqi rfl rfl rfl (pkt rfl rfl rfl (mv rfl rfl (gd rfl rfl (fa rfl rfl (gd rfl rfl (ld rfl (cell b1_8 rfl) rfl ?_)))))))))
  refine gd rfl rfl (ixs rfl rfl (by omega) rfl (gd rfl rfl (fa rfl rfl (gd rfl rfl (ld rfl (hr0 2 _ rfl) rfl (gd rfl rfl (eqi rfl rfl rfl (pkt rfl rfl rfl (mv rfl rfl ?_)))))))))
  refine gd rfl rfl (mv rfl rfl (pkt rfl rfl rfl (mv rfl rfl (gd rfl rfl (fa rfl rfl (gd rfl rfl (ld rfl (cell b3_8 rfl) rfl (gd rfl rfl (eqi rfl rfl rfl (pkt rfl rfl rfl ?_))))))))))
  refine mv rfl rfl (gd rfl rfl (cl (vs := []) rfl (plainR_fn) rfl (fun v9 h9 r9 => ?_)))
  obtain ⟨p9, x9⟩ := r9
  have z9 := x9.size
  have k_9 := (k_8.ext x9)
  have b1_9 := (x9.get b1_8)
  have b3_9 := (x9.get b3_8)
  refine gd rfl rfl (clE ((fgood_fn p9)) rfl rfl (fun h10 x10 => ?_))
  have s10 : h9.size ≤ h10.size := x10.size
  have k_10 := k_9.ext x10
  have b1_10 := x10.get b1_9
  have b3_10 := x10.get b3_9
  refine pkt rfl rfl rfl (asg rfl rfl ?_)
  refine o_nil ?_; refine x_seq ?_; refine c_ret ?_; refine ret1 (.inr rfl) rfl rfl ?_
  exact ⟨congrArg Value.bool (tb_t plain_good), (k_10).toExt⟩
end

/-! An interface, handed in. No condition but what each theorem says. -/
section
open Go Go.Eng

section
variable {H : Type} {enc : TypeId × Value → H} {w : World} {base : Nat} {spare : Nat → Bool} {held : Bool} {fuel : Nat} {cs : List Value} {x : DataW H × List MemPlace}
theorem op_int {t : TypeId} (ht : Try.prog.underlying t = some (.int .i64)) (h : DataW.trod enc Try.prog w base spare held fuel t cs = some x) : ∃ n, cs = [i64 n] ∧ in64 n := by
  obtain ⟨n, rfl, -, hw⟩ := DataW.trod_int ht h
  exact ⟨n, rfl, in64_of hw⟩
theorem op_u32 {t : TypeId} (ht : Try.prog.underlying t = some (.int .u32)) (h : DataW.trod enc Try.prog w base spare held fuel t cs = some x) : ∃ n, cs = [.int .u32 n] ∧ inU32 n := by
  obtain ⟨n, rfl, -, hw⟩ := DataW.trod_int ht h
  exact ⟨n, rfl, inU32_of hw⟩
theorem op_bool {t : TypeId} (ht : Try.prog.underlying t = some .bool) (h : DataW.trod enc Try.prog w base spare held fuel t cs = some x) : ∃ b : Bool, cs = [.bool b] := by
  obtain ⟨b, rfl, -⟩ := DataW.trod_bool ht h
  exact ⟨b, rfl⟩
theorem op_str {t : TypeId} (ht : Try.prog.underlying t = some .string) (h : DataW.trod enc Try.prog w base spare held fuel t cs = some x) : ∃ s : Bytes, cs = [str s] ∧ s.length ≤ maxLen := by
  obtain ⟨s, rfl, -, hl⟩ := DataW.trod_string ht h
  exact ⟨s.data.toList, rfl, by simpa using hl⟩
theorem op_used (h : DataW.trod enc Try.prog w base spare held fuel 65 cs = some x) (hz : Sz Try.prog 65 x.1) : ∃ u : Used, usedR w.heap u cs := by
  obtain ⟨hl, n, hf⟩ := open_row [(9, 0, 1), (22, 1, 1)] 2 (by kernel_rfl) (by kernel_rfl) h hz
  obtain ⟨y0, h0, -⟩ := hf 0 _ _ _ rfl
  obtain ⟨y1, h1, -⟩ := hf 1 _ _ _ rfl
  obtain ⟨s, e0, l0⟩ := op_str (by kernel_rfl) h0
  obtain ⟨k, e1, l1⟩ := op_u32 (by kernel_rfl) h1
  match cs, hl, e0, e1 with
  | [c0, c1], _, e0, e1 =>
    cases e0; cases e1
    exact ⟨⟨s, k⟩, rfl, l0, l1⟩
theorem op_fld (h : DataW.trod enc Try.prog w base spare held fuel 83 cs = some x) (hz : Sz Try.prog 83 x.1) : ∃ u : Fld, fldR w.heap u cs := by
  obtain ⟨hl, n, hf⟩ := open_row [(9, 0, 1), (4, 1, 1), (3, 2, 1)] 3 (by kernel_rfl) (by kernel_rfl) h hz
  obtain ⟨y0, h0, -⟩ := hf 0 _ _ _ rfl
  obtain ⟨y1, h1, -⟩ := hf 1 _ _ _ rfl
  obtain ⟨y2, h2, -⟩ := hf 2 _ _ _ rfl
  obtain ⟨s, e0, l0⟩ := op_str (by kernel_rfl) h0
  obtain ⟨b, e1⟩ := op_bool (by kernel_rfl) h1
  obtain ⟨k, e2, l2⟩ := op_int (by kernel_rfl) h2
  match cs, hl, e0, e1, e2 with
  | [c0, c1, c2], _, e0, e1, e2 =>
    cases e0; cases e1; cases e2
    exact ⟨⟨s, b, k⟩, rfl, l0, l2⟩
theorem op_par (h : DataW.trod enc Try.prog w base spare held fuel 85 cs = some x) (hz : Sz Try.prog 85 x.1) : ∃ u : Par, parR w.heap u cs := by
  obtain ⟨hl, n, hf⟩ := open_row [(4, 0, 1), (3, 1, 1)] 2 (by kernel_rfl) (by kernel_rfl) h hz
  obtain ⟨y1, h1, -⟩ := hf 0 _ _ _ rfl
  obtain ⟨y2, h2, -⟩ := hf 1 _ _ _ rfl
  obtain ⟨b, e1⟩ := op_bool (by kernel_rfl) h1
  obtain ⟨k, e2, l2⟩ := op_int (by kernel_rfl) h2
  match cs, hl, e1, e2 with
  | [c1, c2], _, e1, e2 =>
    cases e1; cases e2
    exact ⟨⟨b, k⟩, rfl, l2⟩
theorem op_obj (h : DataW.trod enc Try.prog w base spare held fuel 34 cs = some x) (hz : Sz Try.prog 34 x.1) : ∃ u : Ob, objR w.heap u cs := by
  obtain ⟨hl, n, hf⟩ := open_row [(3, 0, 1), (9, 1, 1), (3, 2, 1), (32, 3, 3), (3, 6, 1)] 7 (by kernel_rfl) (by kernel_rfl) h hz
  obtain ⟨y0, h0, -⟩ := hf 0 _ _ _ rfl
  obtain ⟨y1, h1, -⟩ := hf 1 _ _ _ rfl
  obtain ⟨y2, h2, -⟩ := hf 2 _ _ _ rfl
  obtain ⟨y3, h3, z3⟩ := hf 3 _ _ _ rfl
  obtain ⟨y4, h4, -⟩ := hf 4 _ _ _ rfl
  obtain ⟨k0, e0, l0⟩ := op_int (by kernel_rfl) h0
  obtain ⟨s, e1, l1⟩ := op_str (by kernel_rfl) h1
  obtain ⟨k2, e2, l2⟩ := op_int (by kernel_rfl) h2
  obtain ⟨hl', n', hf'⟩ := open_row [(3, 0, 1), (3, 1, 1), (9, 2, 1)] 3 (by kernel_rfl) (by kernel_rfl) h3 z3
  obtain ⟨v0, g0, -⟩ := hf' 0 _ _ _ rfl
  obtain ⟨v1, g1, -⟩ := hf' 1 _ _ _ rfl
  obtain ⟨v2, g2, -⟩ := hf' 2 _ _ _ rfl
  obtain ⟨m0, f0, j0⟩ := op_int (by kernel_rfl) g0
  obtain ⟨m1, f1, j1⟩ := op_int (by kernel_rfl) g1
  obtain ⟨m2, f2, j2⟩ := op_str (by kernel_rfl) g2
  obtain ⟨k4, e4, l4⟩ := op_int (by kernel_rfl) h4
  match cs, hl, e0, e1, e2, e4, f0, f1, f2 with
  | [c0, c1, c2, c3, c4, c5, c6], _, e0, e1, e2, e4, f0, f1, f2 =>
    cases e0; cases e1; cases e2; cases e4; cases f0; cases f1; cases f2
    exact ⟨⟨k0, s, k2, ⟨m0, m1, m2⟩, k4⟩, rfl, l1, j2, l0, l2, j0, j1, l4⟩
/-- a type's lists are no longer than the reach -/
def TyShort (t : Ty) : Prop := t.fields.length * 32 ≤ reachBytes ∧ t.params.length * 16 ≤ reachBytes
theorem op_ty (h : DataW.trod enc Try.prog w base spare held fuel 49 cs = some x) (hz : Sz Try.prog 49 x.1) : ∃ u : Ty, tyR w.heap.size w.heap u cs ∧ TyShort u := by
  obtain ⟨hl, n, hf⟩ := open_row [(3, 0, 1), (9, 1, 1), (9, 2, 1), (3, 3, 1), (3, 4, 1), (3, 5, 1), (46, 6, 1), (47, 7, 1), (3, 8, 1), (3, 9, 1)] 10 (by kernel_rfl) (by kernel_rfl) h hz
  obtain ⟨y0, h0, -⟩ := hf 0 _ _ _ rfl
  obtain ⟨y1, h1, -⟩ := hf 1 _ _ _ rfl
  obtain ⟨y2, h2, -⟩ := hf 2 _ _ _ rfl
  obtain ⟨y3, h3, -⟩ := hf 3 _ _ _ rfl
  obtain ⟨y4, h4, -⟩ := hf 4 _ _ _ rfl
  obtain ⟨y5, h5, -⟩ := hf 5 _ _ _ rfl
  obtain ⟨y6, h6, z6⟩ := hf 6 _ _ _ rfl
  obtain ⟨y7, h7, z7⟩ := hf 7 _ _ _ rfl
  obtain ⟨y8, h8, -⟩ := hf 8 _ _ _ rfl
  obtain ⟨y9, h9, -⟩ := hf 9 _ _ _ rfl
  obtain ⟨k0, e0, l0⟩ := op_int (by kernel_rfl) h0
  obtain ⟨k1, e1, l1⟩ := op_str (by kernel_rfl) h1
  obtain ⟨k2, e2, l2⟩ := op_str (by kernel_rfl) h2
  obtain ⟨k3, e3, l3⟩ := op_int (by kernel_rfl) h3
  obtain ⟨k4, e4, l4⟩ := op_int (by kernel_rfl) h4
  obtain ⟨k5, e5, l5⟩ := op_int (by kernel_rfl) h5
  obtain ⟨v6, xs6, e6, s6, b6⟩ := open_list (⟨[], false, 0⟩ : Fld) (sz := 3) (by' := 32) (R := fldR w.heap) (by kernel_rfl) (by kernel_rfl) (by decide) (by kernel_rfl) h6 z6 (fun n cs' y a b => op_fld a b)
  obtain ⟨v7, xs7, e7, s7, b7⟩ := open_list (⟨false, 0⟩ : Par) (sz := 2) (by' := 16) (R := parR w.heap) (by kernel_rfl) (by kernel_rfl) (by decide) (by kernel_rfl) h7 z7 (fun n cs' y a b => op_par a b)
  obtain ⟨k8, e8, l8⟩ := op_int (by kernel_rfl) h8
  obtain ⟨k9, e9, l9⟩ := op_int (by kernel_rfl) h9
  match cs, hl, e0, e1, e2, e3, e4, e5, e6, e7, e8, e9 with
  | [c0, c1, c2, c3, c4, c5, c6, c7, c8, c9], _, e0, e1, e2, e3, e4, e5, e6, e7, e8, e9 =>
    cases e0; cases e1; cases e2; cases e3; cases e4; cases e5; cases e6; cases e7; cases e8; cases e9
    exact ⟨⟨k0, k1, k2, k3, k4, k5, xs6, xs7, k8, k9⟩, ⟨⟨l1, l2, l0, l3, l4, l5, l8, l9⟩, _, _, rfl, s6, s7⟩, b6, b7⟩
end
/-- the lists are no longer than the reach -/
def FaceShort (f : Face) : Prop := (∀ t ∈ f.types, TyShort t) ∧ f.uses.length * 24 ≤ reachBytes ∧ f.types.length * 128 ≤ reachBytes ∧ f.objs.length * 72 ≤ reachBytes
theorem face_open {H : Type} {enc : TypeId × Value → H} {w : World} {base : Nat} {spare : Nat → Bool} {held : Bool} {v : Value} {d : DataW H} {ps : List MemPlace}
    (h : DataW.Trod enc Try.prog w base spare held 27 v d ps) (hz : Sz Try.prog 27 d) : ∃ f : Face, FaceV w.heap.size w.heap v f ∧ FaceShort f := by
  obtain ⟨fuel, h⟩ := h
  obtain ⟨vs, rfl⟩ : ∃ vs, v = .agg vs := by
    have hl := (open_row [(9, 0, 1), (22, 1, 1), (23, 2, 1), (24, 3, 1), (25, 4, 1)] 5 (by kernel_rfl) (by kernel_rfl) h hz).1
    cases v <;> first | exact ⟨_, rfl⟩ | exact absurd hl (by simp [Value.cells])
  have hcs : (Value.agg vs).cells.toList = vs.toList := rfl
  rw [hcs] at h
  obtain ⟨hl, n, hf⟩ := open_row [(9, 0, 1), (22, 1, 1), (23, 2, 1), (24, 3, 1), (25, 4, 1)] 5 (by kernel_rfl) (by kernel_rfl) h hz
  obtain ⟨y0, h0, -⟩ := hf 0 _ _ _ rfl
  obtain ⟨y1, h1, -⟩ := hf 1 _ _ _ rfl
  obtain ⟨y2, h2, z2⟩ := hf 2 _ _ _ rfl
  obtain ⟨y3, h3, z3⟩ := hf 3 _ _ _ rfl
  obtain ⟨y4, h4, z4⟩ := hf 4 _ _ _ rfl
  obtain ⟨k0, e0, l0⟩ := op_str (by kernel_rfl) h0
  obtain ⟨k1, e1, l1⟩ := op_u32 (by kernel_rfl) h1
  obtain ⟨v2, xs2, e2, s2, b2⟩ := open_list (⟨[], 0⟩ : Used) (sz := 2) (by' := 24) (R := usedR w.heap) (by kernel_rfl) (by kernel_rfl) (by decide) (by kernel_rfl) h2 z2 (fun n cs' y a b => op_used a b)
  obtain ⟨v3, xs3, e3, s3, b3⟩ := open_list (basicTy 0) (sz := 10) (by' := 128) (R := fun t cs => tyR w.heap.size w.heap t cs ∧ TyShort t) (by kernel_rfl) (by kernel_rfl) (by decide) (by kernel_rfl) h3 z3 (fun n cs' y a b => op_ty a b)
  obtain ⟨v4, xs4, e4, s4, b4⟩ := open_list zeroOb (sz := 7) (by' := 72) (R := objR w.heap) (by kernel_rfl) (by kernel_rfl) (by decide) (by kernel_rfl) h4 z4 (fun n cs' y a b => op_obj a b)
  obtain ⟨s3, q3⟩ := s3.split (R' := tyR w.heap.size) (Q := TyShort) (fun _ _ a => a.1) (fun _ _ a => a.2)
  obtain ⟨cs⟩ := vs
  match cs, hl, e0, e1, e2, e3, e4 with
  | [c0, c1, c2, c3, c4], _, e0, e1, e2, e3, e4 =>
    cases e0; cases e1; cases e2; cases e3; cases e4
    exact ⟨⟨k0, k1, xs2, xs3, xs4⟩, ⟨_, _, _, rfl, l0, l1, s2, s3, s4⟩, q3, b2, b3, b4⟩
end
end Go.Proofs.Ytgnkfegkdjfnjaa
