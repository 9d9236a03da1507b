/- The copies of types and interfaces, in blocks apart. No condition but what each theorem says. -/
import Derived.Test.YtgnkfegkdjfnjaaIfb1
namespace Go.Proofs.Ytgnkfegkdjfnjaa
open Go Go.Eng

/-- a type's row, its number and its lists in blocks of their own (β tells whose a block is) -/
def TyO (B : Nat → Prop) (β : Nat → Nat) (v : Value) (h : Heap) (p : Ty × Nat) (cs : List Value) : Prop := p.1.fits ∧ ∃ vf vp, cs = tyCells p.1 vf vp ∧ OwnS h 83 3 (fldR h) vf p.1.fields ∧ OwnS h 85 2 (parR h) vp p.1.params ∧
  (∀ b, ownB vf b → β b = 2 * p.2 ∧ B b ∧ ¬ ownB v b) ∧ ∀ b, ownB vp b → β b = 2 * p.2 + 1 ∧ B b ∧ ¬ ownB v b
theorem TyO.mod {B B' : Nat → Prop} {β β' : Nat → Nat} {v v' : Value} {S : Nat → Prop} {h h' : Heap} {p : Ty × Nat} {cs : List Value} (a : TyO B β v h p cs) (m : Go.Eng.Mod S h h') (hS : ∀ b, b < h.size → B b → ¬ ownB v b → (β b = 2 * p.2 ∨ β b = 2 * p.2 + 1) → ¬ S b ∧ β' b = β b ∧ ¬ ownB v' b ∧ B' b) : TyO B' β' v' h' p cs := by
  obtain ⟨hf, vf, vp, hc, h1, h2, h3, h4⟩ := a
  have l1 : ∀ b, ownB vf b → b < h.size := by obtain ⟨_, o⟩ := h1.own; exact o.lt
  have l2 : ∀ b, ownB vp b → b < h.size := by obtain ⟨_, o⟩ := h2.own; exact o.lt
  refine ⟨hf, vf, vp, hc, OwnS.mono h1 m (fun b e => (hS b (l1 b e) (h3 b e).2.1 (h3 b e).2.2 (.inl (h3 b e).1)).1) (fun _ _ r => r), OwnS.mono h2 m (fun b e => (hS b (l2 b e) (h4 b e).2.1 (h4 b e).2.2 (.inr (h4 b e).1)).1) (fun _ _ r => r), fun b e => ?_, fun b e => ?_⟩
  · obtain ⟨k1, k2, k3⟩ := h3 b e
    obtain ⟨-, g2, g3, g4⟩ := hS b (l1 b e) k2 k3 (.inl k1)
    exact ⟨by rw [g2]; exact k1, g4, g3⟩
  · obtain ⟨k1, k2, k3⟩ := h4 b e
    obtain ⟨-, g2, g3, g4⟩ := hS b (l2 b e) k2 k3 (.inr k1)
    exact ⟨by rw [g2]; exact k1, g4, g3⟩
structure TysO (B : Nat → Prop) (β : Nat → Nat) (h : Heap) (v : Value) (xs : List Ty) : Prop where
  own : OwnS h 49 10 (TyO B β v h) v xs.zipIdx
  low : ∀ b, ownB v b → B b
theorem TysO.lt {B : Nat → Prop} {β : Nat → Nat} {h : Heap} {v : Value} {xs : List Ty} (a : TysO B β h v xs) : ∀ b, ownB v b → b < h.size := by
  obtain ⟨_, o⟩ := a.own.own; exact o.lt
theorem TysO.mod {B B' : Nat → Prop} {β : Nat → Nat} {S : Nat → Prop} {h h' : Heap} {v : Value} {xs : List Ty} (a : TysO B β h v xs) (m : Go.Eng.Mod S h h') (hS : ∀ b, b < h.size → B b → ¬ S b ∧ B' b) : TysO B' β h' v xs :=
  ⟨OwnS.mono a.own m (fun b e => (hS b (a.lt b e) (a.low b e)).1) (fun _ _ r => r.mod m (fun b h1 h2 h3 _ => ⟨(hS b h1 h2).1, rfl, h3, (hS b h1 h2).2⟩)), fun b e => (hS b (a.lt b e) (a.low b e)).2⟩
theorem TyO.tyB {B : Nat → Prop} {β : Nat → Nat} {v : Value} {h : Heap} {p : Ty × Nat} {cs : List Value} (a : TyO B β v h p cs) (hl : p.1.fields.length ≤ maxLen ∧ p.1.params.length ≤ maxLen) : TyB (fun b => ¬ ownB v b ∧ B b) h p.1 cs := by
  obtain ⟨hf, vf, vp, hc, h1, h2, h3, h4⟩ := a
  exact ⟨hf, vf, vp, hc, h1.sliceB hl.1 (fun b e => ⟨(h3 b e).2.2, (h3 b e).2.1⟩), h2.sliceB hl.2 (fun b e => ⟨(h4 b e).2.2, (h4 b e).2.1⟩)⟩
theorem TysO.own_ {B : Nat → Prop} {β : Nat → Nat} {h : Heap} {v : Value} {xs : List Ty} (a : TysO B β h v xs) (hl : ∀ x ∈ xs, x.fields.length ≤ maxLen ∧ x.params.length ≤ maxLen) : TysOwn B h v xs := by
  obtain ⟨css, o, h1, h2, h3⟩ := a.own
  have hlen : xs.zipIdx.length = xs.length := List.length_zipIdx
  refine ⟨⟨css, by rw [hlen] at o; exact o, by omega, h2, fun i x cs hx hc => ?_⟩, a.low⟩
  have := h3 i (x, i) cs (by rw [List.getElem?_zipIdx, hx]; simp) hc
  exact this.tyB (hl x (List.mem_of_getElem? hx))

set_option maxHeartbeats 4000000 in
theorem copy13o_fn {h : Heap} {vt : Value} {t : List Ty} (ht : TypesAt h.size h vt t) (hl : t.length ≤ 300) (hsz : ∀ x ∈ t, x.fields.length ≤ 3000 ∧ x.params.length ≤ 3000) :
    Does Try.prog 34 [vt] h (fun v h' => Ext h h' ∧ ∃ β, TysO (fun b => h.size ≤ b) β h' v t) := by
  have ht0 := ht
  have hmx : maxLen = 9223372036854775807 := by decide
  have k0 : At h.size h h := At.refl (Nat.le_refl _)
  obtain ⟨at0, ct0, rfl⟩ := SliceAt.form ht
  refine fn_enter (N := 31) Try.func34 (by kernel_rfl) rfl rfl rfl (fun w0 => ?_)
  refine c_seq ?_; refine c_reg ?_; refine asg rfl rfl ?_; refine o_nil ?_; refine x_seq ?_; refine c_seq ?_; refine c_reg ?_; refine asg rfl rfl ?_
  refine o_nil ?_; refine x_seq ?_
  refine c_seq ?_; refine c_seq ?_; refine c_reg ?_; refine asg rfl rfl ?_; refine o_nil ?_; refine x_seq ?_; refine c_blk ?_
  refine c_loop (α := Nat × Value × Heap) (fun s => [(0, .slice at0 t.length ct0), (3, s.2.1), (4, i64 (s.1 : Nat))]) (fun s => s.2.2)
    (fun s => At h.size h s.2.2 ∧ s.1 ≤ t.length ∧ ∃ β, TysO (fun b => h.size ≤ b) β s.2.2 s.2.1 (t.take s.1)) (fun s => t.length - s.1) (0, .slice none 0 0, h) ⟨k0, Nat.zero_le _, fun _ => 0, OwnS.nil _ _ _ _, fun b e => by simp [ownB, Value.ownBlock] at e⟩ ⟨rfl, rfl, rfl, trivial⟩ rfl (fun s hs => ?_)
  obtain ⟨i, vo, g⟩ := s
  obtain ⟨kg, hil, β, hO⟩ := hs
  simp only at kg hil hO
  have hOb := hO.low
  have kgn := kg.n
  have kk : At g.size g g := At.refl (Nat.le_refl _)
  change SC _ _ _ _ g
  refine c_seq ?_; refine c_seq ?_; refine c_reg ?_; refine mv rfl rfl (mv rfl rfl (lnl rfl rfl (lti rfl rfl rfl ?_)))
  refine o_nil ?_; refine x_seq ?_; refine c_cond rfl (fun c1 => ?_) (fun c1 => ?_)
  · have hlt : i < t.length := by have := c1; simp only at this; omega
    have hx : t[i]? = some t[i] := List.getElem?_eq_getElem hlt
    have htk : t.take (i + 1) = t.take i ++ [t[i]] := by rw [List.take_add_one, hx]; rfl
    have htl : (t.take i).length = i := by rw [List.length_take]; omega
    have hszx := hsz _ (List.getElem_mem hlt)
    obtain ⟨b2, o2, cs2, ha2, hb2, hl2, hr2, hR2⟩ := SliceAt.el ht0 kg hx
    generalize t[i] = x at *
    subst ha2
    obtain ⟨hfit, vf, vp, rfl, hF, hP⟩ := hR2
    have hF0 := hF
    have hP0 := hP
    obtain ⟨af, cf, rfl⟩ := hF.form
    obtain ⟨ap, cp, rfl⟩ := hP.form
    refine c_skip ?_; refine x_seq ?_
    refine c_seq ?_; refine c_blk ?_; refine c_seq ?_; refine c_reg ?_
    refine mv rfl rfl (mv rfl rfl (ixs rfl rfl (by omega) rfl (ldn rfl rfl hr2 rfl (alc nofun rfl (fun h2 n2 => ?_)))))
    have s2 : h2.size = g.size + 1 := n2.size
    have k_2 := kk.ext n2.ext
    have b5_2 := n2.at_
    refine stw rfl rfl rfl (ones rfl) b5_2 rfl nofun (fun h3 u3 => ?_)
    have s3 : h3.size = h2.size := u3.size
    have k_3 := k_2.upd u3 (by omega)
    have b5_3 := u3.at_
    refine o_nil ?_; refine x_seq ?_
    refine c_cut (α := Heap × Value × Value) (fun y => [(0, .slice (some ⟨b2, o2, none⟩) t.length ct0), (3, vo), (4, i64 (i : Nat)), (5, ptr g.size 0)]) (fun y => y.1)
      (fun y => At g.size g y.1 ∧ y.1[g.size]? = some (.cells (tyCells x y.2.1 y.2.2).toArray 49 (0, 0)) ∧ (OwnS y.1 83 3 (fldR y.1) y.2.1 x.fields ∧ ∀ b, ownB y.2.1 b → g.size < b) ∧ (OwnS y.1 85 2 (parR y.1) y.2.2 x.params ∧ ∀ b, ownB y.2.2 b → g.size < b) ∧ ∀ b, ownB y.2.1 b → ¬ ownB y.2.2 b) ?_ ?_
    · refine c_treg (Mod (fun k => False) h3) (some 9) [9, 7, 4, 8, 3, 0, 6, 5, 2, 1] (.fork [1, 2, 5, 6] 0 (.fork [] 3 (.leaf [8, 4, 7] [9, 10, 11]) 4 (.leaf [3, 8, 7] [9, 10, 11])) 4 (.leaf [0, 3, 8, 7] [9, 10, 11])) rfl (Mod.refl _ _) (by kernel_rfl) ?_
      have c0_1 : Mod (fun k => False) h3 h3 := Mod.refl _ _
      refine t_fork ?_
      refine fa rfl rfl (ldI rfl (fun _ hI => cell (hI.get b5_3 (by first | exact id | (intro e; have e : _ = _ := e; omega) | assumption)) rfl) rfl (fa rfl rfl (ldI rfl (fun _ hI => cell (hI.get b5_3 (by first | exact id | (intro e; have e : _ = _ := e; omega) | assumption)) rfl) rfl ?_)))
      refine o_nil ?_; refine x_fork ?_ ?_
      · refine bsl (vs := []) (cs := #[]) (E := 83) rfl (fun _ => by kernel_rfl) (fun _ h' n' => c0_1.trans (n'.ext.mod _)) rfl (fun h4 n4 => ?_)
        obtain ⟨cf1, sf1, qf1, qf2, qf3⟩ := hF0.src Try.prog (kg.ext (k_3.ext n4.ext).toExt)
        have s4 : h4.size = h3.size + 1 := n4.size
        have c_4 := c0_1.trans (n4.ext.mod _)
        have k_4 := k_3.ext n4.ext
        have b5_4 := n4.ext.get b5_3
        refine o_nil ?_; refine x_kT ?_; refine t_fork ?_; refine o_nil ?_; refine x_fork ?_ ?_
        · refine app U_sl rfl rfl (n4.owns (n := 0) rfl (by decide)) sf1 (by rw [flat_len _ qf2, qf1]) (flat_ones qf1 qf3 fld_ones) (by omega) (by omega) (fun _ v' h' o' m' f' => c_4.andMod m' (fun k e => .inr (by have := ownB_eq e; omega))) rfl (fun v5 h5 o5 m5 f5 => ?_)
          rw [Nat.zero_add, List.nil_append] at o5
          obtain ⟨a5, ca5, rfl⟩ := o5.form
          have s5 : h4.size ≤ h5.size := m5.size
          have c_5 := c_4.andMod m5 (fun k e => .inr (by have := ownB_eq e; omega))
          have k_5 := (k_4.mod m5 (fun k e => by have := ownB_eq e; omega))
          have b5_5 := (m5.get b5_4 (fun e => by have := ownB_eq e; omega))
          refine o_nil ?_; refine x_kT ?_; refine t_leaf ?_
          refine fa rfl rfl (bsl (vs := []) (cs := #[]) (E := 85) rfl (fun _ => by kernel_rfl) (fun _ h' n' => c_5.trans (n'.ext.mod _)) rfl (fun h6 n6 => ?_))
          obtain ⟨cp1, sp1, qp1, qp2, qp3⟩ := hP0.src Try.prog (kg.ext (k_5.ext n6.ext).toExt)
          have s6 : h6.size = h5.size + 1 := n6.size
          have c_6 := c_5.trans (n6.ext.mod _)
          have k_6 := k_5.ext n6.ext
          have b5_6 := n6.ext.get b5_5
          refine app U_sl rfl rfl (n6.owns (n := 0) rfl (by decide)) sp1 (by rw [flat_len _ qp2, qp1]) (flat_ones qp1 qp3 par_ones) (by omega) (by omega) (fun _ v' h' o' m' f' => c_6.andMod m' (fun k e => .inr (by have := ownB_eq e; omega))) rfl (fun v7 h7 o7 m7 f7 => ?_)
          rw [Nat.zero_add, List.nil_append] at o7
          obtain ⟨a7, ca7, rfl⟩ := o7.form
          have s7 : h6.size ≤ h7.size := m7.size
          have c_7 := c_6.andMod m7 (fun k e => .inr (by have := ownB_eq e; omega))
          have k_7 := (k_6.mod m7 (fun k e => by have := ownB_eq e; omega))
          have b5_7 := (m7.get b5_6 (fun e => by have := ownB_eq e; omega))
          refine o_nil ?_; refine x_tail ?_; refine st rfl rfl rfl b5_7 rfl nofun (fun h8 u8 => ?_)
          have s8 : h8.size = h7.size := u8.size
          have k_8 := k_7.upd u8 (by omega)
          have b5_8 := u8.at_
          refine fa rfl rfl (st rfl rfl rfl b5_8 rfl nofun (fun h9 u9 => ?_))
          have s9 : h9.size = h8.size := u9.size
          have k_9 := k_8.upd u9 (by omega)
          have b5_9 := u9.at_
          refine o_nil ?_
          have r1 := OwnS.mono (OwnS.mono (OwnS.mono (OwnS.mono (R' := fldR h9) (⟨cf1, o5, qf1, qf2, qf3⟩ : OwnS h5 83 3 (fldR h9) _ x.fields) n6.ext (fun _ _ e => e) (fun _ _ r => r)) m7 (fun b e e' => by have := ownB_eq e'; have := o5.lt b e; omega) (fun _ _ r => r)) u8.mod (fun b e e' => by have e' : b = g.size := e'; have := (f5 b e).imp ownB_eq id; omega) (fun _ _ r => r)) u9.mod (fun b e e' => by have e' : b = g.size := e'; have := (f5 b e).imp ownB_eq id; omega) (fun _ _ r => r)
          have r2 := OwnS.mono (OwnS.mono (R' := parR h9) (⟨cp1, o7, qp1, qp2, qp3⟩ : OwnS h7 85 2 (parR h9) _ x.params) u8.mod (fun b e e' => by have e' : b = g.size := e'; have := (f7 b e).imp ownB_eq id; omega) (fun _ _ r => r)) u9.mod (fun b e e' => by have e' : b = g.size := e'; have := (f7 b e).imp ownB_eq id; omega) (fun _ _ r => r)
          exact x_cut (h9, _, _) ⟨k_9, b5_9, ⟨r1, fun b e => by have := (f5 b e).imp ownB_eq id; omega⟩, ⟨r2, fun b e => by have := (f7 b e).imp ownB_eq id; omega⟩, fun b e e' => by have := (f5 b e).imp ownB_eq id; have := (f7 b e').imp ownB_eq id; have := o5.lt b e; omega⟩ ⟨rfl, rfl, rfl, rfl, trivial⟩ rfl
        · refine bsl (vs := []) (cs := #[]) (E := 85) rfl (fun _ => by kernel_rfl) (fun _ h' n' => c_4.trans (n'.ext.mod _)) rfl (fun h10 n10 => ?_)
          obtain ⟨cf1, sf1, qf1, qf2, qf3⟩ := hF0.src Try.prog (kg.ext ((k_3.ext n4.ext).ext n10.ext).toExt)
          have s10 : h10.size = h4.size + 1 := n10.size
          have c_10 := c_4.trans (n10.ext.mod _)
          have k_10 := k_4.ext n10.ext
          have b5_10 := n10.ext.get b5_4
          refine o_nil ?_; refine x_kT ?_; refine t_leaf ?_
          refine app U_sl rfl rfl ((n4.owns (n := 0) rfl (by decide)).mod n10.ext (fun _ _ e => e)) sf1 (by rw [flat_len _ qf2, qf1]) (flat_ones qf1 qf3 fld_ones) (by omega) (by omega) (fun _ v' h' o' m' f' => c_10.andMod m' (fun k e => .inr (by have := ownB_eq e; omega))) rfl (fun v11 h11 o11 m11 f11 => ?_)
          rw [Nat.zero_add, List.nil_append] at o11
          obtain ⟨a11, ca11, rfl⟩ := o11.form
          have kq := k_10.mod m11 (fun k e => by have := ownB_eq e; omega)
          obtain ⟨cp1, sp1, qp1, qp2, qp3⟩ := hP0.src Try.prog (kg.ext (kq).toExt)
          have s11 : h10.size ≤ h11.size := m11.size
          have c_11 := c_10.andMod m11 (fun k e => .inr (by have := ownB_eq e; omega))
          have k_11 := (k_10.mod m11 (fun k e => by have := ownB_eq e; omega))
          have b5_11 := (m11.get b5_10 (fun e => by have := ownB_eq e; omega))
          refine fa rfl rfl (app U_sl rfl rfl ((n10.owns (n := 0) rfl (by decide)).mod m11 (fun _ e1 e2 => by have := ownB_eq e1; have := ownB_eq e2; omega)) sp1 (by rw [flat_len _ qp2, qp1]) (flat_ones qp1 qp3 par_ones) (by omega) (by omega) (fun _ v' h' o' m' f' => c_11.andMod m' (fun k e => .inr (by have := ownB_eq e; omega))) rfl (fun v12 h12 o12 m12 f12 => ?_))
          rw [Nat.zero_add, List.nil_append] at o12
          obtain ⟨a12, ca12, rfl⟩ := o12.form
          have s12 : h11.size ≤ h12.size := m12.size
          have c_12 := c_11.andMod m12 (fun k e => .inr (by have := ownB_eq e; omega))
          have k_12 := (k_11.mod m12 (fun k e => by have := ownB_eq e; omega))
          have b5_12 := (m12.get b5_11 (fun e => by have := ownB_eq e; omega))
          refine o_nil ?_; refine x_tail ?_; refine st rfl rfl rfl b5_12 rfl nofun (fun h13 u13 => ?_)
          have s13 : h13.size = h12.size := u13.size
          have k_13 := k_12.upd u13 (by omega)
          have b5_13 := u13.at_
          refine fa rfl rfl (st rfl rfl rfl b5_13 rfl nofun (fun h14 u14 => ?_))
          have s14 : h14.size = h13.size := u14.size
          have k_14 := k_13.upd u14 (by omega)
          have b5_14 := u14.at_
          refine o_nil ?_
          have r1 := OwnS.mono (OwnS.mono (OwnS.mono (R' := fldR h14) (⟨cf1, o11, qf1, qf2, qf3⟩ : OwnS h11 83 3 (fldR h14) _ x.fields) m12 (fun b e e' => by have := ownB_eq e'; have := o11.lt b e; have := (f11 b e).imp ownB_eq id; omega) (fun _ _ r => r)) u13.mod (fun b e e' => by have e' : b = g.size := e'; have := (f11 b e).imp ownB_eq id; omega) (fun _ _ r => r)) u14.mod (fun b e e' => by have e' : b = g.size := e'; have := (f11 b e).imp ownB_eq id; omega) (fun _ _ r => r)
          have r2 := OwnS.mono (OwnS.mono (R' := parR h14) (⟨cp1, o12, qp1, qp2, qp3⟩ : OwnS h12 85 2 (parR h14) _ x.params) u13.mod (fun b e e' => by have e' : b = g.size := e'; have := (f12 b e).imp ownB_eq id; omega) (fun _ _ r => r)) u14.mod (fun b e e' => by have e' : b = g.size := e'; have := (f12 b e).imp ownB_eq id; omega) (fun _ _ r => r)
          exact x_cut (h14, _, _) ⟨k_14, b5_14, ⟨r1, fun b e => by have := (f11 b e).imp ownB_eq id; omega⟩, ⟨r2, fun b e => by have := (f12 b e).imp ownB_eq id; omega⟩, fun b e e' => by have := (f11 b e).imp ownB_eq id; have := (f12 b e').imp ownB_eq id; have := o11.lt b e; omega⟩ ⟨rfl, rfl, rfl, rfl, trivial⟩ rfl
      · refine bsl (vs := []) (cs := #[]) (E := 85) rfl (fun _ => by kernel_rfl) (fun _ h' n' => c0_1.trans (n'.ext.mod _)) rfl (fun h15 n15 => ?_)
        have s15 : h15.size = h3.size + 1 := n15.size
        have c_15 := c0_1.trans (n15.ext.mod _)
        have k_15 := k_3.ext n15.ext
        have b5_15 := n15.ext.get b5_3
        refine o_nil ?_; refine x_kT ?_; refine t_leaf ?_
        refine bsl (vs := []) (cs := #[]) (E := 83) rfl (fun _ => by kernel_rfl) (fun _ h' n' => c_15.trans (n'.ext.mod _)) rfl (fun h16 n16 => ?_)
        obtain ⟨cf1, sf1, qf1, qf2, qf3⟩ := hF0.src Try.prog (kg.ext ((k_3.ext n15.ext).ext n16.ext).toExt)
        have s16 : h16.size = h15.size + 1 := n16.size
        have c_16 := c_15.trans (n16.ext.mod _)
        have k_16 := k_15.ext n16.ext
        have b5_16 := n16.ext.get b5_15
        refine app U_sl rfl rfl (n16.owns (n := 0) rfl (by decide)) sf1 (by rw [flat_len _ qf2, qf1]) (flat_ones qf1 qf3 fld_ones) (by omega) (by omega) (fun _ v' h' o' m' f' => c_16.andMod m' (fun k e => .inr (by have := ownB_eq e; omega))) rfl (fun v17 h17 o17 m17 f17 => ?_)
        rw [Nat.zero_add, List.nil_append] at o17
        obtain ⟨a17, ca17, rfl⟩ := o17.form
        have kq := k_16.mod m17 (fun k e => by have := ownB_eq e; omega)
        obtain ⟨cp1, sp1, qp1, qp2, qp3⟩ := hP0.src Try.prog (kg.ext (kq).toExt)
        have s17 : h16.size ≤ h17.size := m17.size
        have c_17 := c_16.andMod m17 (fun k e => .inr (by have := ownB_eq e; omega))
        have k_17 := (k_16.mod m17 (fun k e => by have := ownB_eq e; omega))
        have b5_17 := (m17.get b5_16 (fun e => by have := ownB_eq e; omega))
        refine fa rfl rfl (app U_sl rfl rfl (((n15.owns (n := 0) rfl (by decide)).mod n16.ext (fun _ _ e => e)).mod m17 (fun _ e1 e2 => by have := ownB_eq e1; have := ownB_eq e2; omega)) sp1 (by rw [flat_len _ qp2, qp1]) (flat_ones qp1 qp3 par_ones) (by omega) (by omega) (fun _ v' h' o' m' f' => c_17.andMod m' (fun k e => .inr (by have := ownB_eq e; omega))) rfl (fun v18 h18 o18 m18 f18 => ?_))
        rw [Nat.zero_add, List.nil_append] at o18
        obtain ⟨a18, ca18, rfl⟩ := o18.form
        have s18 : h17.size ≤ h18.size := m18.size
        have c_18 := c_17.andMod m18 (fun k e => .inr (by have := ownB_eq e; omega))
        have k_18 := (k_17.mod m18 (fun k e => by have := ownB_eq e; omega))
        have b5_18 := (m18.get b5_17 (fun e => by have := ownB_eq e; omega))
        refine o_nil ?_; refine x_tail ?_; refine st rfl rfl rfl b5_18 rfl nofun (fun h19 u19 => ?_)
        have s19 : h19.size = h18.size := u19.size
        have k_19 := k_18.upd u19 (by omega)
        have b5_19 := u19.at_
        refine fa rfl rfl (st rfl rfl rfl b5_19 rfl nofun (fun h20 u20 => ?_))
        have s20 : h20.size = h19.size := u20.size
        have k_20 := k_19.upd u20 (by omega)
        have b5_20 := u20.at_
        refine o_nil ?_
        have r1 := OwnS.mono (OwnS.mono (OwnS.mono (R' := fldR h20) (⟨cf1, o17, qf1, qf2, qf3⟩ : OwnS h17 83 3 (fldR h20) _ x.fields) m18 (fun b e e' => by have := ownB_eq e'; have := o17.lt b e; have := (f17 b e).imp ownB_eq id; omega) (fun _ _ r => r)) u19.mod (fun b e e' => by have e' : b = g.size := e'; have := (f17 b e).imp ownB_eq id; omega) (fun _ _ r => r)) u20.mod (fun b e e' => by have e' : b = g.size := e'; have := (f17 b e).imp ownB_eq id; omega) (fun _ _ r => r)
        have r2 := OwnS.mono (OwnS.mono (R' := parR h20) (⟨cp1, o18, qp1, qp2, qp3⟩ : OwnS h18 85 2 (parR h20) _ x.params) u19.mod (fun b e e' => by have e' : b = g.size := e'; have := (f18 b e).imp ownB_eq id; omega) (fun _ _ r => r)) u20.mod (fun b e e' => by have e' : b = g.size := e'; have := (f18 b e).imp ownB_eq id; omega) (fun _ _ r => r)
        exact x_cut (h20, _, _) ⟨k_20, b5_20, ⟨r1, fun b e => by have := (f17 b e).imp ownB_eq id; omega⟩, ⟨r2, fun b e => by have := (f18 b e).imp ownB_eq id; omega⟩, fun b e e' => by have := (f17 b e).imp ownB_eq id; have := (f18 b e').imp ownB_eq id; have := o17.lt b e; omega⟩ ⟨rfl, rfl, rfl, rfl, trivial⟩ rfl
    · intro y hy
      obtain ⟨gq, vf, vp⟩ := y
      obtain ⟨kq, bq, ⟨r1, l1⟩, ⟨r2, l2⟩, l12⟩ := hy
      simp only at kq bq r1 l1 r2 l2 l12
      have kqn := kq.n
      have hlo := hO.lt
      obtain ⟨af', cf', rfl⟩ := r1.form
      obtain ⟨ap', cp', rfl⟩ := r2.form
      change SC _ _ _ _ gq
      refine c_reg ?_
      refine mv rfl rfl (ldn rfl rfl (row_blk bq) rfl (bsl (vs := [(0, .agg (tyCells x (.slice af' x.fields.length cf') (.slice ap' x.params.length cp')).toArray)]) (cs := (tyCells x (.slice af' x.fields.length cf') (.slice ap' x.params.length cp')).toArray) (E := 49) rfl (fun _ => by kernel_rfl) nofun rfl (fun h21 n21 => ?_)))
      have kz := kq.ext n21.ext
      have kzn := kz.n
      obtain ⟨⟨css, hOw0, d1, d2, d3⟩, -⟩ := hO
      have hOw := hOw0.mod kz.toExt (fun _ _ e => e)
      have hzl : (t.take i).zipIdx.length = i := by rw [List.length_zipIdx]; exact htl
      have lt1 : ∀ b, ownB (.slice af' x.fields.length cf') b → b < gq.size := by obtain ⟨_, o⟩ := r1.own; exact o.lt
      have lt2 : ∀ b, ownB (.slice ap' x.params.length cp') b → b < gq.size := by obtain ⟨_, o⟩ := r2.own; exact o.lt
      obtain ⟨β', hβ'⟩ : ∃ β' : Nat → Nat, β' = fun b => if b < g.size then β b else if @decide (ownB (.slice af' x.fields.length cf') b) (Classical.propDecidable _) then 2 * i else 2 * i + 1 := ⟨_, rfl⟩
      have s21 : h21.size = gq.size + 1 := n21.size
      have k_21 := kq.ext n21.ext
      have bq_21 := n21.ext.get bq
      refine app U_sl rfl rfl hOw (Src.slice (size := 10) (m := 1) rfl (row_blk n21.at_)) rfl (ones rfl) (by omega) (by omega) nofun rfl (fun v22 h22 o22 m22 f22 => ?_)
      have s22 : h21.size ≤ h22.size := m22.size
      have k_22 := ((kg.ext (At.toExt k_21)).mod m22 (fun k e => hOb k e))
      have bq_22 := (m22.get bq_21 (fun e => by have := hlo _ e; omega))
      refine asg rfl rfl ?_; refine o_nil ?_; refine x_blk ?_; refine x_seq ?_; refine c_reg ?_
      refine mv rfl rfl (add rfl rfl (by omega) rfl (asg rfl rfl ?_))
      refine o_nil ?_
      have hnew : TyO (fun b => h.size ≤ b) β' v22 h22 (x, i) (tyCells x (.slice af' x.fields.length cf') (.slice ap' x.params.length cp')) := by
        refine ⟨hfit, _, _, rfl, OwnS.mono (OwnS.mono r1 n21.ext (fun _ _ e => e) (fun _ _ r => r)) m22 (fun b e e' => by have := hlo b e'; have := l1 b e; omega) (fun _ _ r => r), OwnS.mono (OwnS.mono r2 n21.ext (fun _ _ e => e) (fun _ _ r => r)) m22 (fun b e e' => by have := hlo b e'; have := l2 b e; omega) (fun _ _ r => r), fun b e => ?_, fun b e => ?_⟩
        · have h1 := l1 b e
          refine ⟨by rw [hβ']; simp only; rw [if_neg (by omega), if_pos (by simpa using e)], by omega, fun e' => (f22 b e').elim (fun e' => by have := hlo b e'; omega) (fun e' => by have := lt1 b e; have := n21.size; omega)⟩
        · have h1 := l2 b e
          refine ⟨by rw [hβ']; simp only; rw [if_neg (by omega), if_neg (by simpa using fun e' => l12 b e' e)], by omega, fun e' => (f22 b e').elim (fun e' => by have := hlo b e'; omega) (fun e' => by have := lt2 b e; have := n21.size; omega)⟩
      have hold : ∀ (j : Nat) p cs, (t.take i).zipIdx[j]? = some p → css[j]? = some cs → TyO (fun b => h.size ≤ b) β' v22 h22 p cs := fun j p cs hp hc => by
        exact (d3 j p cs hp hc).mod ((kz.toExt.mod (ownB vo)).trans m22) (fun b hb hN hv _ => ⟨fun e => hv e, by rw [hβ']; simp only; rw [if_pos hb], fun e => (f22 b e).elim hv (fun e => by omega), hN⟩)
      refine x_loop (i + 1, v22, h22) ⟨k_22, hlt, β', ?_, fun b e => (f22 b e).elim (hOb b) (fun e => by omega)⟩ (by simp only; omega) ⟨rfl, rfl, rfl, trivial⟩ rfl
      simp only; rw [htk, List.zipIdx_append, Nat.zero_add, htl]
      exact OwnS.snoc d1 d2 hold o22 rfl hnew
  · have hie : i = t.length := by have := c1; simp only at this; omega
    subst hie
    rw [List.take_length] at hO
    refine c_exit ?_; refine x_seq_exit ?_; refine x_loop_exit ?_; refine x_blk_hit ?_; refine x_seq ?_; refine c_seq ?_; refine c_reg ?_
    refine mv rfl rfl (asg rfl rfl ?_)
    refine o_nil ?_; refine x_seq ?_; refine c_ret ?_; refine ret1 (.inr rfl) rfl rfl ?_
    exact ⟨kg.toExt, β, hO⟩
/-- an interface in blocks of its own, each list apart -/
def FaceO (N : Nat) (h : Heap) (v : Value) (f : Face) : Prop := ∃ vu vt vo β M, ∃ T : Nat → Prop, v = .agg #[str f.name, .int .u32 f.key, vu, vt, vo] ∧ TysO T β h vt f.types ∧ OwnS h 65 2 (usedR h) vu f.uses ∧ OwnS h 34 7 (objR h) vo f.objs ∧
  (∀ b, T b → N ≤ b ∧ ¬ ownB vu b ∧ ¬ ownB vo b) ∧ (∀ b, ownB vu b → N ≤ b ∧ ¬ ownB vo b) ∧ (∀ b, ownB vo b → N ≤ b ∧ M ≤ b) ∧ (∀ b, T b → b < M) ∧ N ≤ M ∧ M ≤ h.size
set_option maxHeartbeats 2000000 in
theorem copy16o_fn {h : Heap} {fv : Value} {f : Face} (hF : FaceV h.size h fv f) (hlg : ¬ Large16P f) : Does Try.prog 16 [fv] h (fun v h' => FaceO h.size h' v f ∧ Ext h h') := by
  have hmx : maxLen = 9223372036854775807 := by decide
  have k0 : At h.size h h := At.refl (Nat.le_refl _)
  obtain ⟨vu, vt, vo, rfl, hn, hk, hU, hT, hO⟩ := hF
  have hO0 := hO
  have hU0 := hU
  have hT0 := hT
  obtain ⟨ao, co, rfl⟩ := hO.form
  obtain ⟨au, cu, rfl⟩ := hU.form
  obtain ⟨at0, ct0, rfl⟩ := SliceAt.form hT
  have hu100 : f.uses.length ≤ 100 := Nat.le_of_not_lt fun e => hlg (.inl (.inl (.inl (.inl e))))
  have ho200 : f.objs.length ≤ 200 := Nat.le_of_not_lt fun e => hlg (.inl (.inl (.inl (.inr e))))
  obtain ⟨ht300, hsz⟩ := not_large (fun e => hlg (.inl (.inr e)))
  refine fn_enter (N := 18) Try.func16 (by kernel_rfl) rfl rfl rfl (fun w0 => ?_)
  refine c_seq ?_; refine c_reg ?_; refine bx rfl nofun rfl (fun h1 n1 => ?_)
  have s1 : h1.size = h.size + 1 := n1.size
  have k_1 := k0.ext n1.ext
  have b1_1 := n1.at_
  refine alc nofun rfl (fun h2 n2 => ?_)
  have s2 : h2.size = h1.size + 1 := n2.size
  have k_2 := k_1.ext n2.ext
  have b1_2 := n2.ext.get b1_1
  have b2_2 := n2.at_
  refine o_nil ?_; refine x_seq ?_; refine c_seq ?_; refine c_reg ?_
  refine bsl (vs := []) (cs := #[]) (E := 65) rfl (fun _ => by kernel_rfl) nofun rfl (fun h3 n3 => ?_)
  obtain ⟨cf1, sf1, qf1, qf2, qf3⟩ := hU0.src Try.prog (k_2.ext n3.ext)
  have s3 : h3.size = h2.size + 1 := n3.size
  have k_3 := k_2.ext n3.ext
  have b1_3 := n3.ext.get b1_2
  have b2_3 := n3.ext.get b2_2
  refine fa rfl rfl (ld rfl (cell b1_3 rfl) rfl (app U_sl rfl rfl (n3.owns (n := 0) rfl (by decide)) sf1 (by rw [flat_len _ qf2, qf1]) (flat_ones qf1 qf3 used_ones) (by omega) (by omega) nofun rfl (fun v4 h4 o4 m4 f4 => ?_)))
  rw [Nat.zero_add, List.nil_append] at o4
  obtain ⟨a4, ca4, rfl⟩ := o4.form
  have s4 : h3.size ≤ h4.size := m4.size
  have k_4 := (k_3.mod m4 (fun k e => by have := ownB_eq e; omega))
  have b1_4 := (m4.get b1_3 (fun e => by have := ownB_eq e; omega))
  have b2_4 := (m4.get b2_3 (fun e => by have := ownB_eq e; omega))
  refine fa rfl rfl (st rfl rfl rfl b1_4 rfl nofun (fun h5 u5 => ?_))
  have s5 : h5.size = h4.size := u5.size
  have k_5 := k_4.upd u5 (by omega)
  have b2_5 := u5.ne b2_4 (by omega)
  have b1_5 := u5.at_
  refine o_nil ?_; refine x_seq ?_; refine c_seq ?_; refine c_reg ?_
  refine fa rfl rfl (ld rfl (cell b1_5 rfl) rfl (cl (vs := [.slice at0 f.types.length ct0]) rfl ((copy13o_fn (TypesAt.keep hT0 (At.k k_5) (At.n k_5)) ht300 hsz)) rfl (fun v6 h6 r6 => ?_)))
  obtain ⟨x6, β, hTy6⟩ := r6
  obtain ⟨a6, ca6, e6⟩ := hTy6.own.form
  rw [List.length_zipIdx] at e6
  subst e6
  have s6 := x6.size
  have k_6 := (k_5.ext x6)
  have b1_6 := (x6.get b1_5)
  have b2_6 := (x6.get b2_5)
  refine fa rfl rfl (st rfl rfl rfl b1_6 rfl nofun (fun h7 u7 => ?_))
  have s7 : h7.size = h6.size := u7.size
  have k_7 := k_6.upd u7 (by omega)
  have b2_7 := u7.ne b2_6 (by omega)
  have b1_7 := u7.at_
  refine o_nil ?_; refine x_seq ?_; refine c_seq ?_; refine c_reg ?_
  refine bsl (vs := []) (cs := #[]) (E := 34) rfl (fun _ => by kernel_rfl) nofun rfl (fun h8 n8 => ?_)
  obtain ⟨cp1, sp1, qp1, qp2, qp3⟩ := hO0.src Try.prog (k_7.ext n8.ext)
  have s8 : h8.size = h7.size + 1 := n8.size
  have k_8 := k_7.ext n8.ext
  have b1_8 := n8.ext.get b1_7
  have b2_8 := n8.ext.get b2_7
  refine fa rfl rfl (ld rfl (cell b1_8 rfl) rfl (app U_sl rfl rfl (n8.owns (n := 0) rfl (by decide)) sp1 (by rw [flat_len _ qp2, qp1]) (flat_ones qp1 qp3 obj_ones) (by omega) (by omega) nofun rfl (fun v9 h9 o9 m9 f9 => ?_)))
  rw [Nat.zero_add, List.nil_append] at o9
  obtain ⟨a9, ca9, rfl⟩ := o9.form
  have s9 : h8.size ≤ h9.size := m9.size
  have k_9 := (k_8.mod m9 (fun k e => by have := ownB_eq e; omega))
  have b1_9 := (m9.get b1_8 (fun e => by have := ownB_eq e; omega))
  have b2_9 := (m9.get b2_8 (fun e => by have := ownB_eq e; omega))
  refine fa rfl rfl (st rfl rfl rfl b1_9 rfl nofun (fun h10 u10 => ?_))
  have s10 : h10.size = h9.size := u10.size
  have k_10 := k_9.upd u10 (by omega)
  have b2_10 := u10.ne b2_9 (by omega)
  have b1_10 := u10.at_
  refine o_nil ?_; refine x_seq ?_; refine c_seq ?_; refine c_reg ?_
  refine ldn rfl rfl (row_blk b1_10) rfl (stw rfl rfl rfl (ones rfl) b2_10 rfl nofun (fun h11 u11 => ?_))
  have s11 : h11.size = h10.size := u11.size
  have k_11 := k_10.upd u11 (by omega)
  have b1_11 := u11.ne b1_10 (by omega)
  have b2_11 := u11.at_
  refine o_nil ?_; refine x_seq ?_; refine c_ret ?_; refine retc1 (.inr rfl) rfl rfl rfl (row_blk b2_11) ?_
  have cm : Go.Eng.Mod (fun k => k = h.size ∨ k = h1.size) h6 h11 := (((((Go.Eng.Mod.refl _ h6).upd u7 (.inl (.inl rfl))).trans (n8.ext.mod _)).andMod m9 (fun k e => .inr (by have := ownB_eq e; omega))).upd u10 (.inl (.inl rfl))).upd u11 (.inl (.inr rfl))
  have cu : Go.Eng.Mod (fun k => k = h.size ∨ k = h1.size) h4 h11 := ((((((((Go.Eng.Mod.refl _ h4).upd u5 (.inl (.inl rfl))).trans (x6.mod _)).upd u7 (.inl (.inl rfl))).trans (n8.ext.mod _)).andMod m9 (fun k e => .inr (by have := ownB_eq e; omega))).upd u10 (.inl (.inl rfl))).upd u11 (.inl (.inr rfl)))
  have q0 : TysO (fun b => h5.size ≤ b ∧ b < h6.size) β h11 (.slice a6 f.types.length ca6) f.types := hTy6.mod cm (fun b p1 p2 => ⟨fun e => by omega, p2, p1⟩)
  have lu : ∀ b, ownB (.slice a4 f.uses.length ca4) b → h2.size ≤ b ∧ b < h4.size := fun b e => by have := (f4 b e).imp ownB_eq id; have := o4.lt b e; omega
  have lo : ∀ b, ownB (.slice a9 f.objs.length ca9) b → h7.size ≤ b ∧ b < h9.size := fun b e => by have := (f9 b e).imp ownB_eq id; have := o9.lt b e; omega
  have r1 := OwnS.mono (R' := usedR h11) (⟨cf1, o4, qf1, qf2, qf3⟩ : OwnS h4 65 2 (usedR h11) _ f.uses) cu (fun b e e' => by have := lu b e; omega) (fun _ _ r => r)
  have r2 := OwnS.mono (OwnS.mono (R' := objR h11) (⟨cp1, o9, qp1, qp2, qp3⟩ : OwnS h9 34 7 (objR h11) _ f.objs) u10.mod (fun b e e' => by have e' : b = h.size := e'; have := lo b e; omega) (fun _ _ r => r)) u11.mod (fun b e e' => by have e' : b = h1.size := e'; have := lo b e; omega) (fun _ _ r => r)
  exact ⟨⟨_, _, _, β, h6.size, fun b => h5.size ≤ b ∧ b < h6.size, rfl, q0, r1, r2, fun b e => ⟨by omega, fun e' => by have := lu b e'; omega, fun e' => by have := lo b e'; omega⟩, fun b e => ⟨by have := lu b e; omega, fun e' => by have := lo b e'; have := lu b e; omega⟩, fun b e => by have := lo b e; omega, fun b e => e.2, by omega, by have := cm.size; omega⟩, (k_11).toExt⟩
end Go.Proofs.Ytgnkfegkdjfnjaa
