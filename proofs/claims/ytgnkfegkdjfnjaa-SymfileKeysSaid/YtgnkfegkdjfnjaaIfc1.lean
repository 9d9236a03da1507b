/- The walk of the reference's trim. No condition but what each theorem says. -/
import Derived.Test.YtgnkfegkdjfnjaaIfb8
import Derived.Test.YtgnkfegkdjfnjaaIfb9
namespace Go.Proofs.Ytgnkfegkdjfnjaa
open Go Go.Eng

theorem TysO.at_ {B : Nat → Prop} {β : Nat → Nat} {N : Nat} {h : Heap} {v : Value} {xs : List Ty} (a : TysO B β h v xs) (hl : ∀ x ∈ xs, x.fields.length ≤ maxLen ∧ x.params.length ≤ maxLen) (hx : xs.length ≤ maxLen) (hB : ∀ b, B b → b < N) : TypesAt N h v xs := by
  have o := a.own_ hl
  refine OwnS.at_ (R := tyR N) (OwnS.mono o.own (Go.Eng.Mod.refl (fun _ => False) h) (fun _ _ e => e) (fun x cs r => ?_)) hx (fun k e => hB k (a.low k e))
  obtain ⟨hf, vf, vp, hc, h1, h2⟩ := r
  exact ⟨hf, vf, vp, hc, h1.at_ (fun b _ e => hB b e.2), h2.at_ (fun b _ e => hB b e.2)⟩
theorem tyB_bare {N : Nat} {B : Nat → Prop} {h h' : Heap} {x : Ty} {cs : List Value} (a : tyR N h x cs) (h1 : x.fields = []) (h2 : x.params = []) : TyB B h' x cs := by
  obtain ⟨hf, vf, vp, hc, hF, hP⟩ := a
  rw [h1] at hF
  rw [h2] at hP
  obtain ⟨af, cf, rfl⟩ := hF.form
  obtain ⟨ap, cp, rfl⟩ := hP.form
  exact ⟨hf, _, _, hc, by rw [h1]; exact ⟨Nat.zero_le _, af, cf, rfl, fun i x e => by simp at e⟩, by rw [h2]; exact ⟨Nat.zero_le _, ap, cp, rfl, fun i x e => by simp at e⟩⟩
theorem bare_eq {x : Ty} {j : Int} (hb : BareP x j) : x = basicTy j := by
  obtain ⟨⟨⟨⟨⟨⟨⟨⟨⟨e1, e2⟩, e3⟩, e4⟩, e5⟩, e6⟩, e7⟩, e8⟩, e9⟩, e10⟩ := hb
  have e9 : x.fields = [] := List.length_eq_zero_iff.1 (by omega)
  have e10 : x.params = [] := List.length_eq_zero_iff.1 (by omega)
  obtain ⟨x1, x2, x3, x4, x5, x6, x7, x8, x9, x10⟩ := x
  simp only at e1 e2 e3 e4 e5 e6 e7 e8 e9 e10
  rw [e1, e2, e3, e4, e5, e6, e7, e8, e9, e10]; rfl
theorem take7 {t : List Ty} {S : VS} (hT : Trims t S) : t.take 7 = basic := by
  have hl := hT.len
  refine List.ext_getElem? fun j => ?_
  by_cases hj : j < 7
  · rw [List.getElem?_take_of_lt hj]
    have hx : t[j]? = some (t[j]'(by omega)) := List.getElem?_eq_getElem _
    rw [basic_at (by omega), hx, bare_eq (bare_at hT (by omega) hx)]
  · rw [List.getElem?_eq_none (by simp; omega), List.getElem?_eq_none (by simp [basic]; omega)]
theorem tyR_ones {N : Nat} {h : Heap} : ∀ (x : Ty) cs, tyR N h x cs → ∀ u ∈ cs, u.oneCell' = true := by
  intro x cs ⟨_, vf, vp, hc, hF, hP⟩
  obtain ⟨af, cf, rfl⟩ := hF.form
  obtain ⟨ap, cp, rfl⟩ := hP.form
  subst hc
  exact tyCells_ones rfl rfl
theorem basic_nil : ∀ x ∈ basic, x.fields = [] ∧ x.params = [] := by simp [basic, basicTy]
theorem own_cap {h : Heap} {E sz n cap g : Nat} {xs : List Value} (o : Owns h E sz (.slice (some ⟨g, 0, none⟩) n cap) n xs) : n ≤ cap := by
  rcases o.2 with ⟨e, _⟩ | ⟨g', cap', cur, e, hg, h1, -⟩
  · cases e
  · cases e; exact h1
/-- what holds between visits: as RI, without the way -/
structure LI (t : List Ty) (N : Nat) (h0 : Heap) (m bp : Nat) (vt : Value) (L0 : Nat) (s : VS) (g : Heap) (vo : Value) : Prop where
  k : At N h0 g
  x : RX g m bp t.length vt s.place vo
  ok : VOk t VS.none s
  own : Owns g 3 1 vo s.order.length (ncells s.order)
  far : ∀ b, ownB vo b → N ≤ b ∧ b ≠ m ∧ b ≠ bp
  low : ∀ b, ownB vo b → L0 ≤ b
theorem LI.move {t : List Ty} {N : Nat} {h0 : Heap} {m bp : Nat} {vt : Value} {L0 : Nat} {s : VS} {g g' : Heap} {vo : Value} {S : Nat → Prop} (a : LI t N h0 m bp vt L0 s g vo) (x : Go.Eng.Mod S g g') (hS' : ∀ b, S b → N ≤ b ∧ b ≠ m ∧ b ≠ bp ∧ ¬ ownB vo b) : LI t N h0 m bp vt L0 s g' vo :=
  ⟨a.k.mod x (fun b hb => (hS' b hb).1), a.x.mod x (fun hb => (hS' m hb).2.1 rfl) (fun hb => (hS' bp hb).2.2.1 rfl), a.ok, a.own.mod x (fun b e hb => (hS' b hb).2.2.2 e), a.far, a.low⟩
theorem LI.step {t : List Ty} {N : Nat} {h0 : Heap} {m bp : Nat} {vt : Value} (c : RCtx t N h0 m bp vt) {k : Nat} {L0 : Nat} {s : VS} {g : Heap} {vo : Value} (hk : unp t VS.none < k) (a : LI t N h0 m bp vt L0 s g vo) {r : Int} (hr : 0 ≤ r ∧ r < t.length) (hL : L0 ≤ g.size) :
    Does Try.prog 43 [ptr m 0, i64 r] g (fun _ g' => ∃ vo', LI t N h0 m bp vt L0 (visitF t k r s) g' vo' ∧ Placed (visitF t k r s) r ∧ VOk t s (visitF t k r s) ∧ Go.Eng.Mod (fun b => b = m ∨ b = bp ∨ ownB vo b) g g') := by
  have hu' : unp t s < k := Nat.lt_of_le_of_lt a.ok.unp hk
  obtain ⟨q1, q2⟩ := visitF_ok c.refs k r s a.ok.inv hu' hr
  refine Does.mono (rvisit_fn c k a.k a.x a.own a.far a.ok.inv hu' hr) (fun v g' w => ?_)
  obtain ⟨vo', b⟩ := w
  exact ⟨vo', ⟨b.k, b.x, a.ok.trans q1, b.own, b.far, fun d hd => (b.low d hd).elim (a.low d) (fun e => by omega)⟩, q2, q1, b.mod⟩
theorem imp_low {t : List Ty} {name : Bytes} (hN : NodesP t) {i : Nat} (hi : i ≤ 7) : ∀ x ∈ t.take i, x.form = 9 → x.mod ≠ name → 0 ≤ x.desc := by
  intro x hx h9
  obtain ⟨j, hj⟩ := List.mem_iff_getElem?.1 hx
  have hjl := (List.getElem?_eq_some_iff.1 hj).1
  rw [List.length_take] at hjl
  rw [List.getElem?_take_of_lt (by omega)] at hj
  rcases hN j x hj with ⟨h6, hb⟩ | ⟨h6, -⟩
  · have hf : x.form = j := hb.1.1.1.1.1.1.1.1.1
    omega
  · omega
set_option maxHeartbeats 8000000 in
theorem rtrim_fn {h : Heap} {fv : Value} {f : Face} (hF : FaceV h.size h fv f) (hlg : ¬ Large16P f) : Does Try.prog 24 [fv] h (TrimR h f) := by
  have hmx : maxLen = 9223372036854775807 := by decide
  have k0 : At h.size h h := At.refl (Nat.le_refl _)
  have hF0 := hF
  obtain ⟨hfn, hfk, hft⟩ := face_name hF
  have hT0 : ∃ at0 ct0, TypesAt h.size h (.slice at0 f.types.length ct0) f.types ∧ ∃ ao co au cu, fv = faceC f au cu at0 ct0 ao co := by
    obtain ⟨vu, vt, vo, rfl, hn, hk, hU, hT, hO⟩ := hF
    have hT' := hT
    obtain ⟨ao, co, rfl⟩ := hO.form
    obtain ⟨au, cu, rfl⟩ := hU.form
    obtain ⟨at0, ct0, rfl⟩ := SliceAt.form hT
    exact ⟨at0, ct0, hT', ao, co, au, cu, rfl⟩
  obtain ⟨at0, ct0, hT0, ao, co, au, cu, rfl⟩ := hT0
  refine fn_enter (N := 188) Try.func24 (by kernel_rfl) rfl rfl rfl (fun w0 => ?_)
  refine c_seq ?_; refine c_reg ?_; refine bx rfl nofun rfl (fun h1 n1 => ?_)
  have s1 : h1.size = h.size + 1 := n1.size
  have k_1 := k0.ext n1.ext
  have b1_1 := n1.at_
  refine alc nofun rfl (fun h2 n2 => ?_)
  have s2 : h2.size = h1.size + 1 := n2.size
  have k_2 := k_1.ext n2.ext
  have b1_2 := n2.ext.get b1_1
  have b2_2 := n2.at_
  refine asg rfl rfl ?_; refine o_nil ?_; refine x_seq ?_
  refine c_seq ?_; refine c_seq ?_; refine c_reg ?_
  refine ldn rfl rfl (row_blk b1_2) rfl (clE ((shaped_fn (FaceV.up hF0 k_2))) rfl rfl (fun h3 x3 => ?_))
  have s3 : h2.size ≤ h3.size := x3.size
  have k_3 := k_2.ext x3
  have b1_3 := x3.get b1_2
  have b2_3 := x3.get b2_2
  refine nt rfl rfl ?_; refine o_nil ?_; refine x_seq ?_; refine c_cond rfl (fun c4 => ?_) (fun c4 => ?_)
  · refine c_seq ?_; refine c_reg ?_
    refine bld (vs := []) (v := .agg #[str [], .int .u32 0, .slice none 0 0, .slice none 0 0, .slice none 0 0]) rfl (fun _ => by kernel_rfl) rfl (stw rfl rfl rfl (ones rfl) b2_3 rfl nofun (fun h5 u5 => ?_))
    have s5 : h5.size = h3.size := u5.size
    have k_5 := k_3.upd u5 (by omega)
    have b1_5 := u5.ne b1_3 (by omega)
    have b2_5 := u5.at_
    refine asg rfl rfl ?_; refine o_nil ?_; refine x_seq ?_; refine c_ret ?_; refine x_seq_ret ?_
    refine retc2 (.inr rfl) rfl rfl rfl rfl (row_blk b2_5) ?_
    exact ⟨_, zeroF, 160, rfl, zero_face _, (k_5).toExt, .inr ⟨fun e => c4 e.1.1, rfl, rfl⟩⟩
  · have hS : ShapedP f := Classical.not_not.1 c4
    obtain ⟨hTr, hPl⟩ := needed_ok hS
    have hu16 := hS.1.2.1
    have ho64 := hS.1.2.2.1
    have hlen := hS.1.2.2.2.1
    have hrf := hTr.nodes.refs hTr.len
    have hsz := hTr.nodes.sized
    refine c_skip ?_; refine x_seq ?_
    refine c_seq ?_; refine c_seq ?_; refine c_reg ?_; refine asg rfl rfl ?_; refine o_nil ?_; refine x_seq ?_; refine c_blk ?_
    refine c_loop (α := Nat × Heap) (fun z => [(1, ptr h.size 0), (2, ptr h1.size 0), (4, i64 (z.1 : Nat))]) (fun z => z.2)
      (fun z => (7 ≤ z.1 ∧ z.1 ≤ f.types.length) ∧ At h.size h z.2 ∧ z.2[h.size]? = some (.cells #[str f.name, .int .u32 f.key, .slice au f.uses.length cu, .slice at0 f.types.length ct0, .slice ao f.objs.length co] 27 (0, 0)) ∧
        z.2[h1.size]? = some (.cells #[str [], .int .u32 0, .slice none 0 0, .slice none 0 0, .slice none 0 0] 27 (0, 0)) ∧ ∀ x ∈ f.types.take z.1, x.form = 9 → x.mod ≠ f.name → 0 ≤ x.desc) (fun z => f.types.length - z.1) (7, h3)
      ⟨⟨Nat.le_refl _, hlen.1⟩, k_3, b1_3, b2_3, imp_low hTr.nodes (Nat.le_refl _)⟩ ⟨rfl, rfl, rfl, trivial⟩ rfl (fun z hz => ?_)
    obtain ⟨i, g1⟩ := z
    obtain ⟨⟨hi7, hi⟩, kl, hb1, hb2, himp⟩ := hz
    simp only at hi7 hi kl hb1 hb2 himp
    have hgl1 := lt_of_get hb2
    change SC _ _ _ _ g1
    refine c_seq ?_; refine c_seq ?_; refine c_reg ?_; refine mv rfl rfl (fa rfl rfl (ld rfl (cell hb1 rfl) rfl (lnl rfl rfl (lti rfl rfl rfl ?_))))
    refine o_nil ?_; refine x_seq ?_; refine c_cond rfl (fun c6 => ?_) (fun c6 => ?_)
    · have hlt : i < f.types.length := by have := c6; simp only at this; omega
      have hx : f.types[i]? = some f.types[i] := List.getElem?_eq_getElem hlt
      have htk : f.types.take (i + 1) = f.types.take i ++ [f.types[i]] := by rw [List.take_add_one, hx]; rfl
      have hxm := List.mem_of_getElem? hx
      obtain ⟨b2, o2, cs2, ha2, hb2', hl2, hr2, hR2⟩ := SliceAt.el hT0 kl hx
      generalize f.types[i] = x at *
      subst ha2
      obtain ⟨hfit, vf, vp, rfl, hFx, hPx⟩ := hR2
      obtain ⟨af, cf, rfl⟩ := hFx.form
      obtain ⟨ap, cp, rfl⟩ := hPx.form
      refine c_skip ?_; refine x_seq ?_
      refine c_seq ?_; refine c_blk ?_; refine c_seq ?_; refine c_reg ?_
      refine fa rfl rfl (ld rfl (cell hb1 rfl) rfl (mv rfl rfl (ixs rfl rfl (by omega) rfl (ldn rfl rfl hr2 rfl (alc nofun rfl (fun h7 n7 => ?_))))))
      have s7 : h7.size = g1.size + 1 := n7.size
      have k_7 := kl.ext n7.ext
      have hb1_7 := n7.ext.get hb1
      have hb2_7 := n7.ext.get hb2
      have b5_7 := n7.at_
      refine stw rfl rfl rfl (ones rfl) b5_7 rfl nofun (fun h8 u8 => ?_)
      have s8 : h8.size = h7.size := u8.size
      have k_8 := k_7.upd u8 (by omega)
      have hb1_8 := u8.ne hb1_7 (by omega)
      have hb2_8 := u8.ne hb2_7 (by omega)
      have b5_8 := u8.at_
      refine o_nil ?_; refine x_seq ?_; refine c_seq ?_; refine c_reg ?_
      refine fa rfl rfl (ld rfl (cell b5_8 rfl) rfl (eqi rfl rfl rfl (mv rfl rfl (gqt rfl rfl rfl (fun e => fa rfl rfl) (gqt rfl rfl rfl (fun e => ld (cg rfl e) (cell b5_8 rfl) rfl) ?_)))))
      refine gqt rfl rfl rfl (fun e => fa rfl rfl) (gqt rfl rfl rfl (fun e => ld (cg rfl e) (cell hb1_8 rfl) rfl) (gqt rfl rfl rfl (fun e => nes (cg rfl e) (cg rfl e) rfl) ?_))
      refine pka rfl rfl rfl rfl (mv rfl rfl (gqt rfl rfl rfl (fun e => fa rfl rfl) (gqt rfl rfl rfl (fun e => ld (cg rfl e) (cell b5_8 rfl) rfl) (gqt rfl rfl rfl (fun e => lti (cg rfl e) rfl rfl) ?_))))
      refine pka rfl rfl rfl rfl ?_; refine o_nil ?_; refine x_seq ?_; refine c_cond rfl (fun c9 => ?_) (fun c9 => ?_)
      · refine c_seq ?_; refine c_reg ?_
        refine bld (vs := []) (v := .agg #[str [], .int .u32 0, .slice none 0 0, .slice none 0 0, .slice none 0 0]) rfl (fun _ => by kernel_rfl) rfl (stw rfl rfl rfl (ones rfl) hb2_8 rfl nofun (fun h10 u10 => ?_))
        have s10 : h10.size = h8.size := u10.size
        have k_10 := k_8.upd u10 (by omega)
        have hb1_10 := u10.ne hb1_8 (by omega)
        have b5_10 := u10.ne b5_8 (by omega)
        have hb2_10 := u10.at_
        refine asg rfl rfl ?_; refine o_nil ?_; refine x_seq ?_; refine c_ret ?_; refine x_blk_ret ?_; refine x_seq_ret ?_; refine x_loop_ret ?_
        refine x_blk_ret ?_; refine x_seq_ret ?_; refine retc2 (.inr rfl) rfl rfl rfl rfl (row_blk hb2_10) ?_
        refine ⟨_, zeroF, 160, rfl, zero_face _, (k_10).toExt, .inr ⟨fun e => ?_, rfl, rfl⟩⟩
        have := e.1.2 x hxm c9.1.1 c9.1.2
        have := c9.2
        omega
      · refine c_skip ?_; refine x_blk ?_; refine x_seq ?_; refine c_reg ?_; refine mv rfl rfl (add rfl rfl (by omega) rfl (asg rfl rfl ?_))
        refine o_nil ?_
        refine x_loop (i + 1, h8) ⟨⟨by simp only; omega, hlt⟩, k_8, hb1_8, hb2_8, fun y hy h9 hm => ?_⟩ (by simp only; omega) ⟨rfl, rfl, rfl, trivial⟩ rfl
        simp only at hy
        rw [htk] at hy
        rcases List.mem_append.1 hy with hy | hy
        · exact himp y hy h9 hm
        · rw [List.mem_singleton] at hy; subst hy
          exact Int.not_lt.1 (fun e => c9 ⟨⟨h9, hm⟩, e⟩)
    · have hie : i = f.types.length := by have := c6; simp only at this; omega
      subst hie
      rw [List.take_length] at himp
      have hImp : ImpP f := himp
      refine c_exit ?_; refine x_seq_exit ?_; refine x_loop_exit ?_; refine x_blk_hit ?_; refine x_seq ?_; refine c_seq ?_; refine c_reg ?_
      refine ldn rfl rfl (row_blk hb1) rfl (cl (vs := [faceC f au cu at0 ct0 ao co]) rfl ((copy16o_fn (FaceV.up hF0 kl) hlg)) rfl (fun v11 h11 r11 => ?_))
      obtain ⟨⟨vu, vt, vO, β, M, T, rfl, hT, hU, hO, d1, d2, d3, d4, d5, d6⟩, x11⟩ := r11
      have z11 := x11.size
      obtain ⟨aU, cU, rfl⟩ := hU.form
      obtain ⟨aO, cO, rfl⟩ := hO.form
      obtain ⟨aT, cT, eT⟩ := hT.own.form
      rw [List.length_zipIdx] at eT
      subst eT
      have k_11 := (kl.ext x11)
      have hb1_11 := (x11.get hb1)
      have hb2_11 := (x11.get hb2)
      refine stw rfl rfl rfl (ones rfl) hb1_11 rfl nofun (fun h12 u12 => ?_)
      have hS1 : ∀ b, g1.size ≤ b → ¬ b = h.size := fun b hb => by omega
      have T12 := hT.mod (B' := T) u12.mod (fun b _ e => ⟨hS1 b (d1 b e).1, e⟩)
      have U12 := OwnS.mono (R' := usedR h12) hU u12.mod (fun b e => hS1 b (d2 b e).1) (fun _ _ r => r)
      have O12 := OwnS.mono (R' := objR h12) hO u12.mod (fun b e => hS1 b (d3 b e).1) (fun _ _ r => r)
      have hmxl : ∀ x ∈ f.types, x.fields.length ≤ maxLen ∧ x.params.length ≤ maxLen := fun x hx => by have := hsz x hx; omega
      have A12 := T12.at_ (N := M) hmxl hft d4
      have s12 : h12.size = h11.size := u12.size
      have k_12 := k_11.upd u12 (by omega)
      have hb2_12 := u12.ne hb2_11 (by omega)
      have hb1_12 := u12.at_
      refine o_nil ?_; refine x_seq ?_; refine c_seq ?_
      refine c_treg (Mod (fun k => False) h12) (some 6) [6, 5, 4, 3, 2, 1, 0] (.leaf [0, 1, 2, 3, 4, 5] [6, 7, 8]) rfl (Mod.refl _ _) (by kernel_rfl) ?_
      have c0_1 : Mod (fun k => False) h12 h12 := Mod.refl _ _
      refine t_leaf ?_
      refine fa rfl rfl (ldI rfl (fun _ hI => cell (hI.get hb1_12 (by first | exact id | (intro e; have e : _ = _ := e; omega) | assumption)) rfl) rfl (fa rfl rfl (ldI rfl (fun _ hI => cell (hI.get hb1_12 (by first | exact id | (intro e; have e : _ = _ := e; omega) | assumption)) rfl) rfl ?_)))
      refine lnl rfl rfl (mks rfl rfl (by omega) (fun _ h' n' => c0_1.trans (n'.ext.mod _)) rfl (fun h13 n13 => ?_))
      have s13 : h13.size = h12.size + 1 := n13.size
      have c_13 := c0_1.trans (n13.ext.mod _)
      have k_13 := k_12.ext n13.ext
      have hb1_13 := n13.ext.get hb1_12
      have hb2_13 := n13.ext.get hb2_12
      refine o_nil ?_; refine x_tail ?_
      refine bld (vs := [(0, .slice aT f.types.length cT), (1, .slice (some ⟨h12.size, 0, none⟩) f.types.length f.types.length)]) (v := .agg #[.slice aT f.types.length cT, .slice (some ⟨h12.size, 0, none⟩) f.types.length f.types.length, .slice none 0 0]) rfl (fun _ => by kernel_rfl) rfl ?_
      refine bx rfl nofun rfl (fun h14 n14 => ?_)
      have X14 : RX h14 h13.size h12.size f.types.length (.slice aT f.types.length cT) (fun _ => 0) (.slice none 0 0) := ⟨n14.at_, n14.ext.get (n13.at_.trans (congrArg (fun c => some (Obj.cells c 3 (0, 0))) (Array.ext' (by unfold plCells; rw [List.map_const', List.length_range]; rfl))))⟩
      have M1214 : Ext h12 h14 := n13.ext.trans n14.ext
      have z1214 := M1214.size
      have T14 := T12.mod (B' := T) M1214 (fun b _ e => ⟨fun e => e, e⟩)
      have U14 := OwnS.mono (R' := usedR h14) U12 M1214 (fun b _ e => e) (fun _ _ r => r)
      have O14 := OwnS.mono (R' := objR h14) O12 M1214 (fun b _ e => e) (fun _ _ r => r)
      have ltU : ∀ b, ownB (.slice aU f.uses.length cU) b → b < h11.size := by obtain ⟨_, o⟩ := hU.own; exact o.lt
      have ltO : ∀ b, ownB (.slice aO f.objs.length cO) b → b < h11.size := by obtain ⟨_, o⟩ := hO.own; exact o.lt
      have s1112 : h12.size = h11.size := u12.size
      have s1213 : h13.size = h12.size + 1 := n13.size
      have c : RCtx f.types M h12 h13.size h12.size (.slice aT f.types.length cT) := ⟨A12, hlen.2, hsz, hrf, by omega, by omega, by omega⟩
      have L14 : LI f.types M h12 h13.size h12.size (.slice aT f.types.length cT) h14.size VS.none h14 (.slice none 0 0) := ⟨(At.refl (by omega)).ext M1214, X14, .refl (none_inv _), Owns.nil _ _ _, fun b e => by simp [ownB, Value.ownBlock] at e, fun b e => by simp [ownB, Value.ownBlock] at e⟩
      have hu0 : unp f.types VS.none < f.types.length + 1 := by have := unp_le f.types VS.none; omega
      have hrange : ∀ o ∈ f.objs, 0 ≤ o.type ∧ o.type < f.types.length := fun o ho => (hS.2.2.2.2 o ho).2.1
      have hrl : ∀ r : Int, r ∈ f.objs.map (·.type) → 0 ≤ r ∧ r < f.types.length := fun r hr => by obtain ⟨o, ho, rfl⟩ := List.mem_map.1 hr; exact hrange o ho
      have s14 : h14.size = h13.size + 1 := n14.size
      have k_14 := k_13.ext n14.ext
      have hb1_14 := n14.ext.get hb1_13
      have hb2_14 := n14.ext.get hb2_13
      have b55_14 := n14.at_
      refine asg rfl rfl ?_; refine o_nil ?_; refine x_seq ?_
      refine c_seq ?_; refine c_seq ?_; refine c_reg ?_; refine asg rfl rfl ?_; refine o_nil ?_; refine x_seq ?_; refine c_blk ?_
      refine c_loop (α := Nat × Heap × Value) (fun z => [(1, ptr h.size 0), (2, ptr h1.size 0), (6, ptr h13.size 0), (7, i64 (z.1 : Nat))]) (fun z => z.2.1)
        (fun z => (z.1 ≤ f.objs.length ∧ h14.size ≤ z.2.1.size) ∧ At h.size h z.2.1 ∧ LI f.types M h12 h13.size h12.size (.slice aT f.types.length cT) h14.size (sfs f.types (f.types.length + 1) (f.objs.map (·.type)) z.1 VS.none) z.2.1 z.2.2 ∧
          (z.2.1[h.size]? = some (.cells #[str f.name, .int .u32 f.key, .slice aU f.uses.length cU, .slice aT f.types.length cT, .slice aO f.objs.length cO] 27 (0, 0)) ∧
          z.2.1[h1.size]? = some (.cells #[str [], .int .u32 0, .slice none 0 0, .slice none 0 0, .slice none 0 0] 27 (0, 0))) ∧
          TysO T β z.2.1 (.slice aT f.types.length cT) f.types ∧ OwnS z.2.1 65 2 (usedR z.2.1) (.slice aU f.uses.length cU) f.uses ∧
          OwnS z.2.1 34 7 (objR z.2.1) (.slice aO f.objs.length cO) (tk (turnOb (sfs f.types (f.types.length + 1) (f.objs.map (·.type)) z.1 VS.none).place) z.1 f.objs)) (fun z => f.objs.length - z.1) (0, h14, .slice none 0 0)
        ⟨⟨Nat.zero_le _, Nat.le_refl _⟩, k_14, L14, ⟨hb1_14, hb2_14⟩, T14, U14, by rw [tk_zero]; exact O14⟩ ⟨rfl, rfl, rfl, rfl, trivial⟩ rfl (fun z hz => ?_)
      obtain ⟨i, g2, vg⟩ := z
      obtain ⟨⟨hi2, hgg⟩, kl2, L2, ⟨hb1, hb2⟩, T2, U2, O2⟩ := hz
      simp only at hi2 hgg kl2 L2 hb1 hb2 T2 U2 O2
      change SC _ _ _ _ g2
      refine c_seq ?_; refine c_seq ?_; refine c_reg ?_; refine mv rfl rfl (fa rfl rfl (ld rfl (cell hb1 rfl) rfl (lnl rfl rfl (lti rfl rfl rfl ?_))))
      refine o_nil ?_; refine x_seq ?_; refine c_cond rfl (fun c15 => ?_) (fun c15 => ?_)
      · have hlt : i < f.objs.length := by have := c15; simp only at this; omega
        obtain ⟨o, hox⟩ : ∃ o, f.objs[i]? = some o := ⟨_, List.getElem?_eq_getElem hlt⟩
        have hom : o ∈ f.objs := List.mem_of_getElem? hox
        have hro := hrange o hom
        obtain ⟨bo, capo, curo, eo, hbo, hco, hrow⟩ := O2.blk (by rw [tk_len]; omega)
        rw [tk_len] at eo hco
        cases eo
        obtain ⟨cs2, hl2, hr2, hR2⟩ := hrow i o (tk_at _ hox)
        obtain ⟨rfl, hon, hot, hoc, hoty, hovf, hovn, hono⟩ := hR2
        have hr2 : Go.Eng.rowAt g2 bo (0 + ((i : Nat) : Int).toNat * 7) [i64 o.cls, str o.name, i64 o.type, i64 o.val.form, i64 o.val.n, str o.val.text, i64 o.n] := by rw [Nat.zero_add]; exact hr2
        have hbob := ltO bo (by simp [ownB, Value.ownBlock])
        have hbom := d3 bo (by simp [ownB, Value.ownBlock])
        have far2 : ∀ b, b < h12.size → ¬ (b = h13.size ∨ b = h12.size ∨ ownB vg b) := fun b hb e => e.elim (fun e => by omega) (fun e => e.elim (fun e => by omega) (fun e => by have := L2.low b e; omega))
        refine c_skip ?_; refine x_seq ?_
        refine c_seq ?_; refine c_blk ?_; refine c_seq ?_; refine c_reg ?_
        refine mv rfl rfl (fa rfl rfl (ld rfl (cell hb1 rfl) rfl (mv rfl rfl (ixs rfl rfl (by omega) rfl (fa rfl rfl (ld rfl (hr2 2 _ rfl) rfl (cl (vs := [ptr h13.size 0, i64 o.type]) rfl ((LI.step c hu0 L2 hro hgg)) rfl (fun v16 h16 r16 => ?_))))))))
        obtain ⟨vo16, L16, P16, K16, M16⟩ := r16
        have z16 := M16.size
        have X16 := L16.x
        have T16 := T2.mod (B' := T) M16 (fun b _ e => ⟨far2 b (by have := d4 b e; omega), e⟩)
        have U16 := OwnS.mono (R' := usedR g2) U2 M16 (fun b e => far2 b (by have := ltU b e; omega)) (fun _ _ r => r)
        have O16 := OwnS.mono (R' := objR g2) O2 M16 (fun b e => far2 b (by have := ltO b e; omega)) (fun _ _ r => r)
        have hbo16 := M16.get hbo (far2 bo (by omega))
        have hr16 := M16.row hr2 (far2 bo (by omega))
        have k_16 := (kl2.mod M16 (fun b e => e.elim (fun e => by omega) (fun e => e.elim (fun e => by omega) (fun e => by have := L2.low b e; omega))))
        have hb1_16 := (M16.get hb1 (far2 _ (by omega)))
        have hb2_16 := (M16.get hb2 (far2 _ (by omega)))
        refine o_nil ?_; refine x_seq ?_
        refine c_treg (Mod (fun k => False) h16) (some 11) [11, 10, 9, 8, 7, 6, 5, 4, 3, 2, 1, 0] (.leaf [0, 1, 2, 3, 4, 5, 6, 7, 8, 9, 10] [11, 12, 13]) rfl (Mod.refl _ _) (by kernel_rfl) ?_
        have c0_2 : Mod (fun k => False) h16 h16 := Mod.refl _ _
        refine t_leaf ?_
        refine fa rfl rfl (ldI rfl (fun _ hI => cell (hI.get hb1_16 (by first | exact id | (intro e; have e : _ = _ := e; omega) | assumption)) rfl) rfl (mv rfl rfl (mv rfl rfl ?_)))
        refine fa rfl rfl (ldI rfl (fun _ hI => cell (hI.get hb1_16 (by first | exact id | (intro e; have e : _ = _ := e; omega) | assumption)) rfl) rfl (mv rfl rfl (ixs rfl rfl (by omega) rfl ?_)))
        refine fa rfl rfl (ldI rfl (fun _ hI => Mod.cell hI (hr16 2 _ rfl) (by first | exact id | (intro e; have e : _ = _ := e; omega) | assumption)) rfl (clpI ((turned_fn (by assumption) (by assumption))) rfl c0_2 rfl ?_))
        refine o_nil ?_; refine x_tail ?_
        refine ixs rfl rfl (by omega) rfl (fa rfl rfl (st rfl rfl rfl hbo16 (by rw [Nat.blt_eq]; omega) nofun (fun h17 u17 => ?_)))
        have hob : ¬ ownB vo16 bo := fun e => by have := L16.low bo e; omega
        have L17 := L16.move u17.mod (fun b e => by have e : b = bo := e; subst e; exact ⟨hbom.2, by omega, by omega, hob⟩)
        have T17 := T16.mod (B' := T) u17.mod (fun b _ e => ⟨fun e' => by have e' : b = bo := e'; have := d4 b e; omega, e⟩)
        have U17 := OwnS.mono (R' := usedR h17) U16 u17.mod (fun b e e' => by have e' : b = bo := e'; subst e'; exact (d2 _ e).2 (by simp [ownB, Value.ownBlock])) (fun _ _ r => r)
        have hok := sfs_ok hrf (l := f.objs.map (·.type)) i (none_inv f.types) hu0 hrl
        have O17 := OwnS.set1 (R' := objR h17) O16 (by rw [tk_len]) hbo16 (i := i) (c := 2) (by rw [tk_len]; exact hlt) (by decide) (by rw [show i * 7 + 2 = 0 + ((i : Nat) : Int).toNat * 7 + 2 by omega]; exact u17.at_) (turnOb (visitF f.types (f.types.length + 1) o.type (sfs f.types (f.types.length + 1) (f.objs.map (·.type)) i VS.none)).place o) (fun y cs hy hcs => by
          rw [tk_at _ hox] at hy; cases hy
          obtain ⟨rfl, h1, h2, h3, h4, h5, h6, h7⟩ := hcs
          exact ⟨rfl, h1, h2, h3, turned_in L16.ok.inv hlen.2 hro.1, h5, h6, h7⟩) (fun _ _ r => r)
        rw [tk_congr (g' := turnOb (visitF f.types (f.types.length + 1) o.type (sfs f.types (f.types.length + 1) (f.objs.map (·.type)) i VS.none)).place) (fun y hy => by unfold turnOb; rw [turned_keep K16 (hok.2 _ (by rw [← List.map_take]; exact List.mem_map_of_mem hy))]), tk_step _ hox] at O17
        have s17 : h17.size = h16.size := u17.size
        have k_17 := k_16.upd u17 (by omega)
        have hb1_17 := u17.ne hb1_16 (by omega)
        have hb2_17 := u17.ne hb2_16 (by omega)
        refine o_nil ?_; refine x_blk ?_; refine x_seq ?_; refine c_reg ?_; refine mv rfl rfl (add rfl rfl (by omega) rfl (asg rfl rfl ?_))
        refine o_nil ?_
        have hsu : sfs f.types (f.types.length + 1) (f.objs.map (·.type)) (i + 1) VS.none = _ := sfs_succ (by rw [List.getElem?_map, hox]; rfl) _
        exact x_loop (i + 1, h17, vo16) ⟨⟨hlt, by simp only; omega⟩, k_17, by simp only; rw [hsu]; exact L17, ⟨hb1_17, hb2_17⟩, T17, U17, by simp only; rw [hsu]; exact O17⟩ (by simp only; omega) ⟨rfl, rfl, rfl, rfl, trivial⟩ rfl
      · have hin : i = f.objs.length := by have := c15; simp only at this; omega
        subst hin
        have hSn : sfs f.types (f.types.length + 1) (f.objs.map (·.type)) f.objs.length VS.none = needed f := by unfold sfs needed; rw [List.take_of_length_le (by simp)]
        rw [hSn] at L2 O2
        rw [tk_all] at O2
        generalize hSS : needed f = S at *
        obtain ⟨av, cv, rfl⟩ := L2.own.form
        have A2 := T2.at_ (N := M) hmxl hft d4
        have hcap : ∀ bt c', Value.slice aT f.types.length cT = .slice (some ⟨bt, 0, none⟩) f.types.length c' → f.types.length ≤ cT := fun bt c' e => by
          obtain ⟨css, o, -⟩ := T2.own
          rw [List.length_zipIdx, e] at o
          have := own_cap o
          cases e; exact this
        obtain ⟨bt, capt, curt, eT, hbt, hct, hrowt⟩ := T2.own.blk (by rw [List.length_zipIdx]; omega)
        rw [List.length_zipIdx] at eT hct
        have hcap := hcap bt capt eT
        cases eT
        have S7 : SliceAt M g2 10 (tyR M) (.slice (some ⟨bt, 0, none⟩) 7 cT) basic := by
          obtain ⟨_, a', c', e', rows⟩ := A2
          cases e'
          refine ⟨by decide, _, _, rfl, fun j x hx => rows j x ?_⟩
          have hj : j < 7 := (List.getElem?_eq_some_iff.1 hx).1
          rw [← take7 hTr, List.getElem?_take_of_lt hj] at hx
          exact hx
        refine c_exit ?_; refine x_seq_exit ?_; refine x_loop_exit ?_; refine x_blk_hit ?_; refine x_seq ?_; refine c_seq ?_; refine c_reg ?_
        refine bsl (vs := []) (cs := #[]) (E := 49) rfl (fun _ => by kernel_rfl) nofun rfl (fun h18 n18 => ?_)
        obtain ⟨css7, sf7, q71, q72, q73⟩ := SliceAt.src Try.prog S7 ((At.refl (show M ≤ g2.size by omega)).ext n18.ext)
        have s18 : h18.size = g2.size + 1 := n18.size
        have k_18 := kl2.ext n18.ext
        have hb1_18 := n18.ext.get hb1
        have hb2_18 := n18.ext.get hb2
        refine fa rfl rfl (ld rfl (cell hb1_18 rfl) rfl (slt_slice rfl rfl (by omega) rfl (app U_sl rfl rfl (n18.owns (n := 0) rfl (by decide)) sf7 (by rw [flat_len _ q72, q71]) (flat_ones q71 q73 tyR_ones) (by show 0 + 7 ≤ maxLen; decide) (by show (0 + 7) * 128 ≤ 140737488355328; decide) nofun rfl (fun v19 h19 o19 m19 f19 => ?_))))
        have o19' : Owns h19 49 10 v19 basic.length css7.flatten := by rw [Nat.zero_add, List.nil_append] at o19; exact o19
        obtain ⟨a19, c19, rfl⟩ := o19'.form
        have V19 : TysOwn (fun b => g2.size ≤ b) h19 (.slice a19 basic.length c19) basic := ⟨⟨css7, o19', q71, q72, fun j x cs hx hc => tyB_bare (q73 j x cs hx hc) (basic_nil x (List.mem_of_getElem? hx)).1 (basic_nil x (List.mem_of_getElem? hx)).2⟩, fun b e => (f19 b e).elim (fun e => by have := ownB_eq e; omega) (fun e => by have := n18.size; omega)⟩
        have M219 : Ext g2 h19 := ((Go.Eng.Mod.refl (fun _ => False) g2).trans n18.ext).andMod m19 (fun b e => .inr (by have := ownB_eq e; omega))
        have z219 := M219.size
        have T19 := T2.mod (B' := T) M219 (fun b _ e => ⟨fun e => e, e⟩)
        obtain ⟨P, hP⟩ : ∃ P : (Nat → Prop) → Heap → Prop, P = fun D g => At h.size h g ∧ h19.size ≤ g.size ∧ RX g h13.size h12.size f.types.length (.slice (some ⟨bt, 0, none⟩) f.types.length cT) S.place (.slice av S.order.length cv) ∧
            Owns g 3 1 (.slice av S.order.length cv) S.order.length (ncells S.order) ∧
            (g[h.size]? = some (.cells #[str f.name, .int .u32 f.key, .slice aU f.uses.length cU, .slice (some ⟨bt, 0, none⟩) f.types.length cT, .slice aO f.objs.length cO] 27 (0, 0)) ∧
            g[h1.size]? = some (.cells #[str [], .int .u32 0, .slice none 0 0, .slice none 0 0, .slice none 0 0] 27 (0, 0))) ∧
            OwnS g 65 2 (usedR g) (.slice aU f.uses.length cU) f.uses ∧ OwnS g 34 7 (objR g) (.slice aO f.objs.length cO) (f.objs.map (turnOb S.place)) ∧
            ∀ (a : Nat) (x : Ty), f.types[a]? = some x → ∃ vf vp, Go.Eng.rowAt g bt (0 + a * 10) (tyCells x vf vp) ∧ x.fits ∧ (∀ b, ownB vf b → β b = 2 * a ∧ T b ∧ b ≠ bt) ∧ (∀ b, ownB vp b → β b = 2 * a + 1 ∧ T b ∧ b ≠ bt) ∧
              (¬ D a → OwnS g 83 3 (fldR g) vf x.fields ∧ OwnS g 85 2 (parR g) vp x.params) := ⟨_, rfl⟩
        have hmove : ∀ (D D' E : Nat → Prop) (g g' : Heap) (Q : Nat → Prop), P D g → Go.Eng.Mod Q g g' → (∀ b, Q b → g2.size ≤ b ∨ (T b ∧ b ≠ bt ∧ ∃ a, E a ∧ (β b = 2 * a ∨ β b = 2 * a + 1))) → (∀ c, ¬ D' c → ¬ D c ∧ ¬ E c) → P D' g' := fun D D' E g g' Q hg x hQ hD => by
          rw [hP] at hg ⊢
          obtain ⟨p1, p2, p3, p4, ⟨p5, p6⟩, p7, p8, p9⟩ := hg
          have hout : ∀ b, b < g2.size → ¬ T b → ¬ Q b := fun b hb hT e => (hQ b e).elim (fun e => by omega) (fun e => hT e.1)
          have hnT : ∀ b, M ≤ b → ¬ T b := fun b hb e => by have := d4 b e; omega
          have hTlo : ∀ b, b < g1.size → ¬ T b := fun b hb e => by have := (d1 b e).1; omega
          have hown := L2.low
          have hbtQ : ¬ Q bt := fun e => (hQ bt e).elim (fun e => by have := T2.lt bt (by simp [ownB, Value.ownBlock]); omega) (fun e => e.2.1 rfl)
          refine ⟨p1.mod x (fun b e => (hQ b e).elim (fun e => by have := kl2.n; omega) (fun e => by have := (d1 b e.1).1; have := kl.n; omega)), Nat.le_trans p2 x.size, p3.mod x (hout _ (by omega) (hnT _ (by omega))) (hout _ (by omega) (hnT _ (by omega))), p4.mod x (fun b e => hout b (by have := L2.own.lt b e; omega) (hnT b (by have := hown b e; omega))),
            ⟨x.get p5 (hout _ (by omega) (hTlo _ (by omega))), x.get p6 (hout _ (by omega) (hTlo _ (by omega)))⟩, OwnS.mono p7 x (fun b e => hout b (by have := ltU b e; omega) (fun e' => (d1 b e').2.1 e)) (fun _ _ r => r), OwnS.mono p8 x (fun b e => hout b (by have := ltO b e; omega) (fun e' => (d1 b e').2.2 e)) (fun _ _ r => r), fun a y hy => ?_⟩
          obtain ⟨vf, vp, r1, r2, r3, r4, r5⟩ := p9 a y hy
          refine ⟨vf, vp, x.row r1 hbtQ, r2, r3, r4, fun hD' => ?_⟩
          obtain ⟨e1, e2⟩ := hD a hD'
          obtain ⟨w1, w2⟩ := r5 e1
          have key : ∀ b, T b → (β b = 2 * a ∨ β b = 2 * a + 1) → ¬ Q b := fun b hT hb e => (hQ b e).elim (fun e => by have := d4 b hT; omega) (fun ⟨_, _, a', hE, hb'⟩ => e2 (by rw [show a = a' by omega]; exact hE))
          exact ⟨OwnS.mono w1 x (fun b e => key b (r3 b e).2.1 (.inl (r3 b e).1)) (fun _ _ r => r), OwnS.mono w2 x (fun b e => key b (r4 b e).2.1 (.inr (r4 b e).1)) (fun _ _ r => r)⟩
        have hol := vorder_le L2.ok.inv
        have s19 : h18.size ≤ h19.size := m19.size
        have k_19 := (k_18.mod m19 (fun b e => by have := ownB_eq e; have := kl2.n; omega))
        have hb1_19 := (m19.get hb1_18 (fun e => by have := ownB_eq e; omega))
        have hb2_19 := (m19.get hb2_18 (fun e => by have := ownB_eq e; omega))
        refine asg rfl rfl ?_; refine o_nil ?_; refine x_seq ?_; refine c_seq ?_; refine c_reg ?_; refine asg rfl rfl ?_; refine o_nil ?_
        refine x_seq ?_
        refine c_seq ?_; refine c_seq ?_; refine c_reg ?_; refine asg rfl rfl ?_; refine o_nil ?_; refine x_seq ?_; refine c_blk ?_
        refine c_loop (α := Nat × Heap × Value) (fun z => [(1, ptr h.size 0), (2, ptr h1.size 0), (6, ptr h13.size 0), (8, z.2.2), (9, i64 (owns f.types f.name (S.order.take z.1) : Int)), (10, i64 (z.1 : Nat))]) (fun z => z.2.1)
          (fun z => z.1 ≤ S.order.length ∧ P (· ∈ S.order.take z.1) z.2.1 ∧ TysOwn (fun b => (T b ∧ b ≠ bt ∧ ∃ a ∈ S.order.take z.1, β b = 2 * a ∨ β b = 2 * a + 1) ∨ (g2.size ≤ b ∧ b < z.2.1.size)) z.2.1 z.2.2 (basic ++ outs f.types f.name S.place 0 (S.order.take z.1))) (fun z => S.order.length - z.1) (0, h19, .slice a19 basic.length c19)
          ⟨Nat.zero_le _, ?_, by simpa [outs] using V19.mono (B' := (fun b => (T b ∧ b ≠ bt ∧ ∃ a ∈ S.order.take 0, β b = 2 * a ∨ β b = 2 * a + 1) ∨ (g2.size ≤ b ∧ b < h19.size))) (fun b hb e => .inr ⟨e, hb⟩)⟩ ⟨rfl, rfl, rfl, rfl, rfl, rfl, trivial⟩ rfl (fun z hz => ?_)
        · rw [hP]
          refine ⟨k_19, Nat.le_refl _, L2.x.mod M219 (fun e => e) (fun e => e), L2.own.mod M219 (fun _ _ e => e), ⟨hb1_19, hb2_19⟩, OwnS.mono U2 M219 (fun _ _ e => e) (fun _ _ r => r), OwnS.mono O2 M219 (fun _ _ e => e) (fun _ _ r => r), fun a x hx => ?_⟩
          obtain ⟨css, o, e1, e2, e3⟩ := T19.own
          have hl := (List.getElem?_eq_some_iff.1 hx).1
          have hz : f.types.zipIdx[a]? = some (x, a) := by rw [List.getElem?_zipIdx, hx]; simp
          have hc : css[a]? = some (css[a]'(by rw [e1, List.length_zipIdx]; exact hl)) := List.getElem?_eq_getElem _
          obtain ⟨w1, vf, vp, w2, w3, w4, w5, w6⟩ := e3 a _ _ hz hc
          rw [List.length_zipIdx] at o
          have hrow := flat_row css 0 a _ e2 o.row.2 hc
          rw [w2] at hrow
          have hb : ∀ b, ¬ ownB (.slice (some ⟨bt, 0, none⟩) f.types.length cT) b → b ≠ bt := fun b e e' => e (by rw [e']; simp [ownB, Value.ownBlock])
          exact ⟨vf, vp, hrow, w1, fun b e => ⟨(w5 b e).1, (w5 b e).2.1, hb b (w5 b e).2.2⟩, fun b e => ⟨(w6 b e).1, (w6 b e).2.1, hb b (w6 b e).2.2⟩, fun _ => ⟨w3, w4⟩⟩
        obtain ⟨i, g3, v8⟩ := z
        obtain ⟨hi3, hP3, V3⟩ := hz
        simp only at hi3 hP3 V3
        have hP3' := hP3
        rw [hP] at hP3'
        obtain ⟨kl3, zg3, X3, o3, ⟨hb1, hb2⟩, U3, O3, r3⟩ := hP3'
        obtain ⟨b8, c8, cur8, e8, -⟩ := V3.own.blk (by simp [basic])
        generalize hn8 : (basic ++ outs f.types f.name S.place 0 (S.order.take i)).length = n8 at e8
        subst e8
        change SC _ _ _ _ g3
        refine c_seq ?_; refine c_seq ?_; refine c_reg ?_
        refine mv rfl rfl (mv rfl rfl (nck rfl rfl (fa rfl rfl (ld rfl (cell X3.at_ rfl) rfl (lnl rfl rfl (lti rfl rfl rfl ?_))))))
        refine o_nil ?_; refine x_seq ?_; refine c_cond rfl (fun c20 => ?_) (fun c20 => ?_)
        · have hlt : i < S.order.length := by have := c20; simp only at this; omega
          obtain ⟨a, hoa⟩ : ∃ a, S.order[i]? = some a := ⟨_, List.getElem?_eq_getElem hlt⟩
          have ham : a ∈ S.order := List.mem_of_getElem? hoa
          have har := L2.ok.inv.range a ham
          have hna : a ∉ S.order.take i := fun e => by
            obtain ⟨j, hj⟩ := List.mem_iff_getElem?.1 e
            have hjl := (List.getElem?_eq_some_iff.1 hj).1
            rw [List.length_take] at hjl
            rw [List.getElem?_take_of_lt (by omega)] at hj
            have h1 := L2.ok.inv.at_ j a hj
            have h2 := L2.ok.inv.at_ i a hoa
            omega
          have htk : S.order.take (i + 1) = S.order.take i ++ [a] := by rw [List.take_add_one, hoa]; rfl
          obtain ⟨x, hx⟩ : ∃ x, f.types[a]? = some x := ⟨_, List.getElem?_eq_getElem har.2⟩
          have hxm := List.mem_of_getElem? hx
          have hxs := hsz x hxm
          have hxr : ∀ r ∈ refsTy x, 0 ≤ r ∧ r < f.types.length := by have := hrf a; rwa [refsAt_of hx] at this
          obtain ⟨vF, vQ, hrowa, hfit, hvF, hvQ, hown⟩ := r3 a x hx
          obtain ⟨oF, oQ⟩ := hown hna
          obtain ⟨aF, cF, rfl⟩ := oF.form
          obtain ⟨aQ, cQ, rfl⟩ := oQ.form
          obtain ⟨bord, cord, evg, rord⟩ := o3.some (by omega)
          cases evg
          have hord : cellAt g3 bord (0 + ((i : Nat) : Int).toNat * 1) = some (i64 (a : Int)) := by
            have := rord i (i64 (a : Int)) (by unfold ncells; rw [List.getElem?_map, hoa]; rfl)
            simpa using this
          have hrowa : Go.Eng.rowAt g3 bt (0 + ((a : Nat) : Int).toNat * 10) (tyCells x (.slice aF x.fields.length cF) (.slice aQ x.params.length cQ)) := hrowa
          have ltF : ∀ b, T b → b < g3.size := fun b e => by have := d4 b e; omega
          refine c_skip ?_; refine x_seq ?_
          refine c_seq ?_; refine c_blk ?_; refine c_seq ?_
          refine c_treg (Mod (fun k => False) g3) (some 12) [12, 11, 10, 9, 8, 7, 6, 5, 4, 3, 2, 1, 0] (.leaf [0, 1, 2, 3, 4, 5, 6, 7, 8, 9, 10, 11] [12]) rfl (Mod.refl _ _) (by kernel_rfl) ?_
          have c0_3 : Mod (fun k => False) g3 g3 := Mod.refl _ _
          refine t_leaf ?_
          refine fa rfl rfl (ldI rfl (fun _ hI => cell (hI.get hb1 (by first | exact id | (intro e; have e : _ = _ := e; omega) | assumption)) rfl) rfl (mv rfl rfl (nck rfl rfl ?_)))
          refine fa rfl rfl (ldI rfl (fun _ hI => Mod.cell hI (cell X3.at_ rfl) (by first | exact id | (intro e; have e : _ = _ := e; omega) | assumption)) rfl (mv rfl rfl ?_))
          refine ixs rfl rfl (by omega) rfl (ldI rfl (fun _ hI => Mod.cell hI (hord) (by first | exact id | (intro e; have e : _ = _ := e; omega) | assumption)) rfl (ixs rfl rfl (by omega) rfl ?_))
          refine ldnI rfl rfl (fun _ hI => Mod.row hI (hrowa) (by first | exact id | (intro e; have e : _ = _ := e; omega) | assumption)) rfl (alc (fun _ h' n' => c0_3.trans (n'.ext.mod _)) rfl (fun h21 n21 => ?_))
          have s21 : h21.size = g3.size + 1 := n21.size
          have c_21 := c0_3.trans (n21.ext.mod _)
          have k_21 := kl3.ext n21.ext
          have hb1_21 := n21.ext.get hb1
          have hb2_21 := n21.ext.get hb2
          have b11_21 := n21.at_
          refine o_nil ?_; refine x_tail ?_; refine stw rfl rfl rfl (ones rfl) b11_21 rfl nofun (fun h22 u22 => ?_)
          have P22 := hmove _ _ (fun _ => False) _ _ _ (hmove _ _ (fun _ => False) _ _ _ hP3 n21.ext (fun b e => e.elim) (fun c hc => ⟨hc, fun e => e⟩)) u22.mod (fun b e => .inl (by have e : b = g3.size := e; omega)) (fun c hc => ⟨hc, fun e => e⟩)
          have P22' := P22
          rw [hP] at P22'
          have X22 := P22'.2.2.1
          have hBq : ∀ b, ((T b ∧ b ≠ bt ∧ ∃ a ∈ S.order.take i, β b = 2 * a ∨ β b = 2 * a + 1) ∨ (g2.size ≤ b ∧ b < g3.size)) → b ≠ g3.size := fun b hb => hb.elim (fun hb => by have := ltF b hb.1; omega) (fun hb => by omega)
          have V22 := (V3.mod n21.ext (fun _ _ _ e => e)).mod u22.mod (fun b hb _ e => hBq b hb e)
          have oF22 := OwnS.mono (OwnS.mono (R' := fldR h22) oF n21.ext (fun _ _ e => e) (fun _ _ r => r)) u22.mod (fun b e e' => by have e' : b = g3.size := e'; have := ltF b (hvF b e).2.1; omega) (fun _ _ r => r)
          have oQ22 := OwnS.mono (OwnS.mono (R' := parR h22) oQ n21.ext (fun _ _ e => e) (fun _ _ r => r)) u22.mod (fun b e e' => by have e' : b = g3.size := e'; have := ltF b (hvQ b e).2.1; omega) (fun _ _ r => r)
          have rg1 := hxr _ ref_e
          have rg2 := hxr _ ref_b
          have rg3 := hxr _ ref_r
          have s22 : h22.size = h21.size := u22.size
          have k_22 := k_21.upd u22 (by omega)
          have hb1_22 := u22.ne hb1_21 (by omega)
          have hb2_22 := u22.ne hb2_21 (by omega)
          have b11_22 := u22.at_
          refine o_nil ?_; refine x_seq ?_; refine c_seq ?_
          refine c_treg (Mod (fun k => False) h22) (some 13) [13, 11, 7, 12, 3, 10, 9, 8, 6, 5, 4, 2, 1, 0] (.leaf [0, 1, 2, 4, 5, 6, 8, 9, 10, 3, 12, 7, 11] [13, 14, 15, 16, 17]) rfl (Mod.refl _ _) (by kernel_rfl) ?_
          have c0_4 : Mod (fun k => False) h22 h22 := Mod.refl _ _
          refine t_leaf ?_
          refine mv rfl rfl (fa rfl rfl (ldI rfl (fun _ hI => cell (hI.get b11_22 (by first | exact id | (intro e; have e : _ = _ := e; omega) | assumption)) rfl) rfl (mv rfl rfl ?_)))
          refine fa rfl rfl (ldI rfl (fun _ hI => cell (hI.get b11_22 (by first | exact id | (intro e; have e : _ = _ := e; omega) | assumption)) rfl) rfl (mv rfl rfl (fa rfl rfl ?_)))
          refine ldI rfl (fun _ hI => cell (hI.get b11_22 (by first | exact id | (intro e; have e : _ = _ := e; omega) | assumption)) rfl) rfl (clpI ((turned_fn (by assumption) (by assumption))) rfl c0_4 rfl ?_)
          refine fa rfl rfl (clpI ((turned_fn (by assumption) (by assumption))) rfl c0_4 rfl (clpI ((turned_fn (by assumption) (by assumption))) rfl c0_4 rfl ?_))
          refine o_nil ?_; refine x_tail ?_; refine st rfl rfl rfl b11_22 rfl nofun (fun h23 u23 => ?_)
          have s23 : h23.size = h22.size := u23.size
          have k_23 := k_22.upd u23 (by omega)
          have hb1_23 := u23.ne hb1_22 (by omega)
          have hb2_23 := u23.ne hb2_22 (by omega)
          have b11_23 := u23.at_
          refine fa rfl rfl (st rfl rfl rfl b11_23 rfl nofun (fun h24 u24 => ?_))
          have s24 : h24.size = h23.size := u24.size
          have k_24 := k_23.upd u24 (by omega)
          have hb1_24 := u24.ne hb1_23 (by omega)
          have hb2_24 := u24.ne hb2_23 (by omega)
          have b11_24 := u24.at_
          refine fa rfl rfl (st rfl rfl rfl b11_24 rfl nofun (fun h25 u25 => ?_))
          have U225 : Go.Eng.Mod (· = g3.size) h22 h25 := (u23.mod.trans u24.mod).trans u25.mod
          have P25 := hmove _ (· ∈ S.order.take (i + 1)) (fun _ => False) _ _ _ P22 U225 (fun b e => .inl (by have e : b = g3.size := e; omega)) (fun c hc => ⟨fun e => hc (by rw [htk]; exact List.mem_append_left _ e), fun e => e⟩)
          have V25 := V22.mod U225 (fun b hb _ e => hBq b hb e)
          have oF25 := OwnS.mono (R' := fldR h25) oF22 U225 (fun b e e' => by have e' : b = g3.size := e'; have := ltF b (hvF b e).2.1; omega) (fun _ _ r => r)
          have oQ25 := OwnS.mono (R' := parR h25) oQ22 U225 (fun b e e' => by have e' : b = g3.size := e'; have := ltF b (hvQ b e).2.1; omega) (fun _ _ r => r)
          have s2125 : g3.size < h25.size := by have := n21.size; have := u22.size; have := U225.size; omega
          have s25 : h25.size = h24.size := u25.size
          have k_25 := k_24.upd u25 (by omega)
          have hb1_25 := u25.ne hb1_24 (by omega)
          have hb2_25 := u25.ne hb2_24 (by omega)
          have b11_25 := u25.at_
          refine o_nil ?_; refine x_seq ?_
          refine c_seq ?_; refine c_seq ?_; refine c_reg ?_; refine asg rfl rfl ?_; refine o_nil ?_; refine x_seq ?_; refine c_blk ?_
          refine c_loop (α := Nat × Heap) (fun z => [(1, ptr h.size 0), (2, ptr h1.size 0), (6, ptr h13.size 0), (8, .slice (some ⟨b8, 0, none⟩) n8 c8), (9, i64 (owns f.types f.name (S.order.take i) : Int)), (10, i64 (i : Nat)), (11, ptr g3.size 0), (12, i64 (z.1 : Nat))]) (fun z => z.2)
            (fun z => (z.1 ≤ x.fields.length ∧ g3.size < z.2.size) ∧ P (· ∈ S.order.take (i + 1)) z.2 ∧ TysOwn (fun b => (T b ∧ b ≠ bt ∧ ∃ a ∈ S.order.take i, β b = 2 * a ∨ β b = 2 * a + 1) ∨ (g2.size ≤ b ∧ b < g3.size)) z.2 (.slice (some ⟨b8, 0, none⟩) n8 c8) (basic ++ outs f.types f.name S.place 0 (S.order.take i)) ∧
              z.2[g3.size]? = some (.cells (tyCells { x with elem := turned S.place x.elem, base := turned S.place x.base, res := turned S.place x.res } (.slice aF x.fields.length cF) (.slice aQ x.params.length cQ)).toArray 49 (0, 0)) ∧
              OwnS z.2 83 3 (fldR z.2) (.slice aF x.fields.length cF) (tk (tfld S.place) z.1 x.fields) ∧ OwnS z.2 85 2 (parR z.2) (.slice aQ x.params.length cQ) x.params) (fun z => x.fields.length - z.1) (0, h25)
            ⟨⟨Nat.zero_le _, s2125⟩, P25, V25, b11_25, by rw [tk_zero]; exact oF25, oQ25⟩ ⟨rfl, rfl, rfl, rfl, rfl, rfl, rfl, rfl, trivial⟩ rfl (fun z hz => ?_)
          obtain ⟨j, g4⟩ := z
          obtain ⟨⟨hj4, hg4⟩, P4, V4, hb11, oF4, oQ4⟩ := hz
          simp only at hj4 hg4 P4 V4 hb11 oF4 oQ4
          have P4' := P4
          rw [hP] at P4'
          obtain ⟨kl4, -, X4, -, ⟨hb1_, hb2_⟩, -, -, -⟩ := P4'
          change SC _ _ _ _ g4
          refine c_seq ?_; refine c_seq ?_; refine c_reg ?_
          refine mv rfl rfl (fa rfl rfl (ld rfl (cell hb11 rfl) rfl (lnl rfl rfl (lti rfl rfl rfl ?_))))
          refine o_nil ?_; refine x_seq ?_; refine c_cond rfl (fun c26 => ?_) (fun c26 => ?_)
          · have hjlt : j < x.fields.length := by have := c26; simp only at this; omega
            obtain ⟨fl, hfx⟩ : ∃ fl, x.fields[j]? = some fl := ⟨_, List.getElem?_eq_getElem hjlt⟩
            have hfm : fl ∈ x.fields := List.mem_of_getElem? hfx
            obtain ⟨bf, capf, curf, ef, hgf, hcf, hrow⟩ := oF4.blk (by rw [tk_len]; omega)
            rw [tk_len] at ef hcf
            cases ef
            obtain ⟨cs, hcl, hr, hR⟩ := hrow j fl (tk_at _ hfx)
            obtain ⟨rfl, hfn', hft'⟩ := hR
            have hr : Go.Eng.rowAt g4 bf (0 + ((j : Nat) : Int).toNat * 3) [str fl.name, .bool fl.exp, i64 fl.type] := by rw [Nat.zero_add]; exact hr
            have hbf := hvF bf (by simp [ownB, Value.ownBlock])
            have hbfM := d4 bf hbf.2.1
            have hbfN := (d1 bf hbf.2.1).1
            have hkln := kl.n
            have rgf := hxr _ (ref_f hfm)
            refine c_skip ?_; refine x_seq ?_
            refine c_seq ?_; refine c_blk ?_
            refine c_treg (Mod (fun k => False) g4) (some 11) [11, 10, 9, 8, 7, 6, 5, 4, 3, 2, 1, 0] (.leaf [0, 1, 2, 3, 4, 5, 6, 7, 8, 9, 10] [11, 12, 13]) rfl (Mod.refl _ _) (by kernel_rfl) ?_
            have c0_5 : Mod (fun k => False) g4 g4 := Mod.refl _ _
            refine t_leaf ?_
            refine fa rfl rfl (ldI rfl (fun _ hI => cell (hI.get hb11 (by first | exact id | (intro e; have e : _ = _ := e; omega) | assumption)) rfl) rfl (mv rfl rfl (mv rfl rfl ?_)))
            refine fa rfl rfl (ldI rfl (fun _ hI => cell (hI.get hb11 (by first | exact id | (intro e; have e : _ = _ := e; omega) | assumption)) rfl) rfl (mv rfl rfl (ixs rfl rfl (by omega) rfl ?_)))
            refine fa rfl rfl (ldI rfl (fun _ hI => Mod.cell hI (hr 2 _ rfl) (by first | exact id | (intro e; have e : _ = _ := e; omega) | assumption)) rfl (clpI ((turned_fn (by assumption) (by assumption))) rfl c0_5 rfl ?_))
            refine o_nil ?_; refine x_tail ?_
            refine ixs rfl rfl (by omega) rfl (fa rfl rfl (st rfl rfl rfl hgf (by rw [Nat.blt_eq]; omega) nofun (fun h27 u27 => ?_)))
            have P27 := hmove _ (· ∈ S.order.take (i + 1)) (· = a) _ _ _ P4 u27.mod (fun b e => by have e : b = bf := e; subst e; exact .inr ⟨hbf.2.1, hbf.2.2, a, rfl, .inl hbf.1⟩) (fun c hc => ⟨hc, fun e => hc (by rw [e, htk]; simp)⟩)
            have V27 := V4.mod u27.mod (fun b hb _ e => by
              have e : b = bf := e
              subst e
              rcases hb with ⟨_, _, c', hc', hb⟩ | hb
              · exact hna (by rw [show a = c' by omega]; exact hc')
              · omega)
            have oF27 := OwnS.set1 (R' := fldR h27) oF4 (by rw [tk_len]) hgf (i := j) (c := 2) (by rw [tk_len]; exact hjlt) (by decide) (by rw [show j * 3 + 2 = 0 + ((j : Nat) : Int).toNat * 3 + 2 by omega]; exact u27.at_) (tfld S.place fl) (fun y cs hy hcs => by
              rw [tk_at _ hfx] at hy; cases hy
              obtain ⟨rfl, h1, h2⟩ := hcs
              exact ⟨rfl, h1, turned_in L2.ok.inv hlen.2 rgf.1⟩) (fun _ _ r => r)
            rw [tk_step _ hfx] at oF27
            have oQ27 := OwnS.mono (R' := parR h27) oQ4 u27.mod (fun b e e' => by have e' : b = bf := e'; have := (hvQ b e).1; subst e'; have := hbf.1; omega) (fun _ _ r => r)
            have s27 : h27.size = g4.size := u27.size
            have k_27 := kl4.upd u27 (by omega)
            have hb1_27 := u27.ne hb1_ (by omega)
            have hb2_27 := u27.ne hb2_ (by omega)
            have hb11_27 := u27.ne hb11 (by omega)
            refine o_nil ?_; refine x_blk ?_; refine x_seq ?_; refine c_reg ?_; refine mv rfl rfl (add rfl rfl (by omega) rfl (asg rfl rfl ?_))
            refine o_nil ?_
            exact x_loop (j + 1, h27) ⟨⟨hjlt, by simp only; omega⟩, P27, V27, hb11_27, oF27, oQ27⟩ (by simp only; omega) ⟨rfl, rfl, rfl, rfl, rfl, rfl, rfl, rfl, trivial⟩ rfl
          · have hjn : j = x.fields.length := by have := c26; simp only at this; omega
            subst hjn
            rw [tk_all] at oF4
            refine c_exit ?_; refine x_seq_exit ?_; refine x_loop_exit ?_; refine x_blk_hit ?_; refine x_seq ?_
            refine c_seq ?_; refine c_seq ?_; refine c_reg ?_; refine asg rfl rfl ?_; refine o_nil ?_; refine x_seq ?_; refine c_blk ?_
            refine c_loop (α := Nat × Heap) (fun z => [(1, ptr h.size 0), (2, ptr h1.size 0), (6, ptr h13.size 0), (8, .slice (some ⟨b8, 0, none⟩) n8 c8), (9, i64 (owns f.types f.name (S.order.take i) : Int)), (10, i64 (i : Nat)), (11, ptr g3.size 0), (13, i64 (z.1 : Nat))]) (fun z => z.2)
              (fun z => (z.1 ≤ x.params.length ∧ g3.size < z.2.size) ∧ P (· ∈ S.order.take (i + 1)) z.2 ∧ TysOwn (fun b => (T b ∧ b ≠ bt ∧ ∃ a ∈ S.order.take i, β b = 2 * a ∨ β b = 2 * a + 1) ∨ (g2.size ≤ b ∧ b < g3.size)) z.2 (.slice (some ⟨b8, 0, none⟩) n8 c8) (basic ++ outs f.types f.name S.place 0 (S.order.take i)) ∧
                z.2[g3.size]? = some (.cells (tyCells { x with elem := turned S.place x.elem, base := turned S.place x.base, res := turned S.place x.res } (.slice aF x.fields.length cF) (.slice aQ x.params.length cQ)).toArray 49 (0, 0)) ∧
                OwnS z.2 83 3 (fldR z.2) (.slice aF x.fields.length cF) (x.fields.map (tfld S.place)) ∧ OwnS z.2 85 2 (parR z.2) (.slice aQ x.params.length cQ) (tk (tpar S.place) z.1 x.params)) (fun z => x.params.length - z.1) (0, g4)
              ⟨⟨Nat.zero_le _, hg4⟩, P4, V4, hb11, oF4, by rw [tk_zero]; exact oQ4⟩ ⟨rfl, rfl, rfl, rfl, rfl, rfl, rfl, rfl, trivial⟩ rfl (fun z hz => ?_)
            obtain ⟨j, g5⟩ := z
            obtain ⟨⟨hj5, hg5⟩, P5, V5, hb11, oF5, oQ5⟩ := hz
            simp only at hj5 hg5 P5 V5 hb11 oF5 oQ5
            have P5' := P5
            rw [hP] at P5'
            obtain ⟨kl5, -, X5, -, ⟨hb1_, hb2_⟩, -, -, -⟩ := P5'
            change SC _ _ _ _ g5
            refine c_seq ?_; refine c_seq ?_; refine c_reg ?_
            refine mv rfl rfl (fa rfl rfl (ld rfl (cell hb11 rfl) rfl (lnl rfl rfl (lti rfl rfl rfl ?_))))
            refine o_nil ?_; refine x_seq ?_; refine c_cond rfl (fun c28 => ?_) (fun c28 => ?_)
            · have hjlt : j < x.params.length := by have := c28; simp only at this; omega
              obtain ⟨fl, hfx⟩ : ∃ fl, x.params[j]? = some fl := ⟨_, List.getElem?_eq_getElem hjlt⟩
              have hfm : fl ∈ x.params := List.mem_of_getElem? hfx
              obtain ⟨bf, capf, curf, ef, hgf, hcf, hrow⟩ := oQ5.blk (by rw [tk_len]; omega)
              rw [tk_len] at ef hcf
              cases ef
              obtain ⟨cs, hcl, hr, hR⟩ := hrow j fl (tk_at _ hfx)
              obtain ⟨rfl, hft'⟩ := hR
              have hr : Go.Eng.rowAt g5 bf (0 + ((j : Nat) : Int).toNat * 2) [.bool fl.byVar, i64 fl.type] := by rw [Nat.zero_add]; exact hr
              have hbf := hvQ bf (by simp [ownB, Value.ownBlock])
              have hbfM := d4 bf hbf.2.1
              have hbfN := (d1 bf hbf.2.1).1
              have hkln := kl.n
              have rgf := hxr _ (ref_p hfm)
              refine c_skip ?_; refine x_seq ?_
              refine c_seq ?_; refine c_blk ?_
              refine c_treg (Mod (fun k => False) g5) (some 11) [11, 10, 9, 8, 7, 6, 5, 4, 3, 2, 1, 0] (.leaf [0, 1, 2, 3, 4, 5, 6, 7, 8, 9, 10] [11, 12, 13]) rfl (Mod.refl _ _) (by kernel_rfl) ?_
              have c0_6 : Mod (fun k => False) g5 g5 := Mod.refl _ _
              refine t_leaf ?_
              refine fa rfl rfl (ldI rfl (fun _ hI => cell (hI.get hb11 (by first | exact id | (intro e; have e : _ = _ := e; omega) | assumption)) rfl) rfl (mv rfl rfl (mv rfl rfl ?_)))
              refine fa rfl rfl (ldI rfl (fun _ hI => cell (hI.get hb11 (by first | exact id | (intro e; have e : _ = _ := e; omega) | assumption)) rfl) rfl (mv rfl rfl (ixs rfl rfl (by omega) rfl ?_)))
              refine fa rfl rfl (ldI rfl (fun _ hI => Mod.cell hI (hr 1 _ rfl) (by first | exact id | (intro e; have e : _ = _ := e; omega) | assumption)) rfl (clpI ((turned_fn (by assumption) (by assumption))) rfl c0_6 rfl ?_))
              refine o_nil ?_; refine x_tail ?_
              refine ixs rfl rfl (by omega) rfl (fa rfl rfl (st rfl rfl rfl hgf (by rw [Nat.blt_eq]; omega) nofun (fun h29 u29 => ?_)))
              have P29 := hmove _ (· ∈ S.order.take (i + 1)) (· = a) _ _ _ P5 u29.mod (fun b e => by have e : b = bf := e; subst e; exact .inr ⟨hbf.2.1, hbf.2.2, a, rfl, .inr hbf.1⟩) (fun c hc => ⟨hc, fun e => hc (by rw [e, htk]; simp)⟩)
              have V29 := V5.mod u29.mod (fun b hb _ e => by
                have e : b = bf := e
                subst e
                rcases hb with ⟨_, _, c', hc', hb⟩ | hb
                · exact hna (by rw [show a = c' by omega]; exact hc')
                · omega)
              have oQ29 := OwnS.set1 (R' := parR h29) oQ5 (by rw [tk_len]) hgf (i := j) (c := 1) (by rw [tk_len]; exact hjlt) (by decide) (by rw [show j * 2 + 1 = 0 + ((j : Nat) : Int).toNat * 2 + 1 by omega]; exact u29.at_) (tpar S.place fl) (fun y cs hy hcs => by
                rw [tk_at _ hfx] at hy; cases hy
                obtain ⟨rfl, h2⟩ := hcs
                exact ⟨rfl, turned_in L2.ok.inv hlen.2 rgf.1⟩) (fun _ _ r => r)
              rw [tk_step _ hfx] at oQ29
              have oF29 := OwnS.mono (R' := fldR h29) oF5 u29.mod (fun b e e' => by have e' : b = bf := e'; have := (hvF b e).1; subst e'; have := hbf.1; omega) (fun _ _ r => r)
              have s29 : h29.size = g5.size := u29.size
              have k_29 := kl5.upd u29 (by omega)
              have hb1_29 := u29.ne hb1_ (by omega)
              have hb2_29 := u29.ne hb2_ (by omega)
              have hb11_29 := u29.ne hb11 (by omega)
              refine o_nil ?_; refine x_blk ?_; refine x_seq ?_; refine c_reg ?_; refine mv rfl rfl (add rfl rfl (by omega) rfl (asg rfl rfl ?_))
              refine o_nil ?_
              exact x_loop (j + 1, h29) ⟨⟨hjlt, by simp only; omega⟩, P29, V29, hb11_29, oF29, oQ29⟩ (by simp only; omega) ⟨rfl, rfl, rfl, rfl, rfl, rfl, rfl, rfl, trivial⟩ rfl
            · have hjn : j = x.params.length := by have := c28; simp only at this; omega
              subst hjn
              rw [tk_all] at oQ5
              have hownle := owns_le f.types f.name (S.order.take i)
              have htl : (S.order.take i).length = i := by rw [List.length_take]; omega
              have hmemA : a ∈ S.order.take (i + 1) := by rw [htk]; simp
              have hsub : ∀ c', c' ∈ S.order.take i → c' ∈ S.order.take (i + 1) := fun c' h' => by rw [htk]; exact List.mem_append_left _ h'
              have hlo8 := V5.low
              have hF8 : ∀ b, T b → (β b = 2 * a ∨ β b = 2 * a + 1) → ¬ ownB (.slice (some ⟨b8, 0, none⟩) n8 c8) b := fun b hT hb e => by
                rcases hlo8 b e with ⟨_, _, c', hc', hb'⟩ | hb'
                · exact hna (by rw [show a = c' by omega]; exact hc')
                · have := d4 b hT; omega
              have hn8' : n8 ≤ 263 := by rw [← hn8, List.length_append, outs_len, htl]; simp [basic]; omega
              refine c_exit ?_; refine x_seq_exit ?_; refine x_loop_exit ?_; refine x_blk_hit ?_; refine x_seq ?_
              refine c_seq ?_; refine c_seq ?_; refine c_reg ?_
              refine fa rfl rfl (ld rfl (cell hb11 rfl) rfl (eqi rfl rfl rfl (mv rfl rfl (gqt rfl rfl rfl (fun e => fa rfl rfl) (gqt rfl rfl rfl (fun e => ld (cg rfl e) (cell hb11 rfl) rfl) ?_)))))
              refine gqt rfl rfl rfl (fun e => fa rfl rfl) (gqt rfl rfl rfl (fun e => ld (cg rfl e) (cell hb1_ rfl) rfl) (gqt rfl rfl rfl (fun e => eqs (cg rfl e) (cg rfl e) rfl) ?_))
              refine pka rfl rfl rfl rfl ?_; refine o_nil ?_; refine x_seq ?_; refine c_cond rfl (fun c30 => ?_) (fun c30 => ?_)
              · refine c_seq ?_; refine c_reg ?_; refine mv rfl rfl (fa rfl rfl (st rfl rfl rfl hb11 rfl nofun (fun h31 u31 => ?_)))
                have s31 : h31.size = g5.size := u31.size
                have k_31 := kl5.upd u31 (by omega)
                have hb1_31 := u31.ne hb1_ (by omega)
                have hb2_31 := u31.ne hb2_ (by omega)
                have hb11_31 := u31.at_
                refine o_nil ?_; refine x_seq ?_; refine c_reg ?_; refine mv rfl rfl (add rfl rfl (by omega) rfl (asg rfl rfl ?_))
                refine o_nil ?_; refine x_seq ?_; refine c_reg ?_
                refine mv rfl rfl (ldn rfl rfl (row_blk hb11_31) rfl (bsl (vs := [(0, .agg (tyCells { x with elem := turned S.place x.elem, base := turned S.place x.base, res := turned S.place x.res, desc := (owns f.types f.name (S.order.take i) : Int) } (.slice aF x.fields.length cF) (.slice aQ x.params.length cQ)).toArray)]) (cs := (tyCells { x with elem := turned S.place x.elem, base := turned S.place x.base, res := turned S.place x.res, desc := (owns f.types f.name (S.order.take i) : Int) } (.slice aF x.fields.length cF) (.slice aQ x.params.length cQ)).toArray) (E := 49) rfl (fun _ => by kernel_rfl) nofun rfl (fun h32 n32 => ?_)))
                have M5x : Go.Eng.Mod (· = g3.size) g5 h32 := u31.mod.trans (n32.ext.mod _)
                have z5x := M5x.size
                have Vn := (V5.mod M5x (fun b hb _ e => hBq b hb e)).mono (B' := (fun b => (T b ∧ b ≠ bt ∧ ∃ a ∈ S.order.take (i + 1), β b = 2 * a ∨ β b = 2 * a + 1) ∨ (g2.size ≤ b ∧ b ≠ g3.size))) (fun b hl hb => hb.elim (fun hb => .inl ⟨hb.1, hb.2.1, hb.2.2.elim (fun c' hc' => ⟨c', hsub c' hc'.1, hc'.2⟩)⟩) (fun hb => .inr ⟨hb.1, by omega⟩))
                have Pn := hmove _ (· ∈ S.order.take (i + 1)) (fun _ => False) _ _ _ P5 M5x (fun b e => .inl (by have e : b = g3.size := e; omega)) (fun c hc => ⟨hc, fun e => e⟩)
                have oFn := OwnS.mono (R' := fldR h32) oF5 M5x (fun b e e' => by have e' : b = g3.size := e'; have := ltF b (hvF b e).2.1; omega) (fun _ _ r => r)
                have oQn := OwnS.mono (R' := parR h32) oQ5 M5x (fun b e e' => by have e' : b = g3.size := e'; have := ltF b (hvQ b e).2.1; omega) (fun _ _ r => r)
                have lown := Vn.low
                have nb1 : ¬ ownB (.slice (some ⟨b8, 0, none⟩) n8 c8) h.size := fun e => (lown _ e).elim (fun h1 => by have h2 := (d1 _ h1.1).1; omega) (fun h1 => by omega)
                have nb2 : ¬ ownB (.slice (some ⟨b8, 0, none⟩) n8 c8) h1.size := fun e => (lown _ e).elim (fun h1 => by have h2 := (d1 _ h1.1).1; omega) (fun h1 => by omega)
                have nb3 : ¬ ownB (.slice (some ⟨b8, 0, none⟩) n8 c8) g3.size := fun e => (lown _ e).elim (fun h1 => by have h2 := d4 _ h1.1; omega) (fun h1 => h1.2 rfl)
                obtain ⟨css, hOw, e1, e2, e3⟩ := Vn.own
                have hOw8 := hOw
                rw [hn8] at hOw8
                have s32 : h32.size = h31.size + 1 := n32.size
                have k_32 := k_31.ext n32.ext
                have hb1_32 := n32.ext.get hb1_31
                have hb2_32 := n32.ext.get hb2_31
                have hb11_32 := n32.ext.get hb11_31
                refine app U_sl rfl rfl hOw8 (Src.slice (size := 10) (m := 1) rfl (row_blk n32.at_)) rfl (ones rfl) (by omega) (by omega) nofun rfl (fun v33 h33 o33 m33 f33 => ?_)
                have hcnt : owns f.types f.name (S.order.take (i + 1)) = owns f.types f.name (S.order.take i) + 1 := by rw [htk, owns_append, owns_one, tyAt_of hx, if_pos c30]
                have hxT : TyB (fun b => ¬ ownB (.slice (some ⟨b8, 0, none⟩) n8 c8) b ∧ (fun b => (T b ∧ b ≠ bt ∧ ∃ a ∈ S.order.take (i + 1), β b = 2 * a ∨ β b = 2 * a + 1) ∨ (g2.size ≤ b ∧ b ≠ g3.size)) b) h32 (turnTy f.name S.place (owns f.types f.name (S.order.take i)) x) (tyCells { x with elem := turned S.place x.elem, base := turned S.place x.base, res := turned S.place x.res, desc := (owns f.types f.name (S.order.take i) : Int) } (.slice aF x.fields.length cF) (.slice aQ x.params.length cQ)) := by
                  refine ⟨⟨hfit.1, hfit.2.1, hfit.2.2.1, hfit.2.2.2.1, turned_in L2.ok.inv hlen.2 rg1.1, turned_in L2.ok.inv hlen.2 rg2.1, turned_in L2.ok.inv hlen.2 rg3.1, ?_⟩, _, _, ?_, oFn.sliceB (by rw [List.length_map]; omega) (fun b e => ⟨hF8 b (hvF b e).2.1 (.inl (hvF b e).1), .inl ⟨(hvF b e).2.1, (hvF b e).2.2, a, hmemA, .inl (hvF b e).1⟩⟩), oQn.sliceB (by rw [List.length_map]; omega) (fun b e => ⟨hF8 b (hvQ b e).2.1 (.inr (hvQ b e).1), .inl ⟨(hvQ b e).2.1, (hvQ b e).2.2, a, hmemA, .inr (hvQ b e).1⟩⟩)⟩
                  · show in64 (if x.form = 9 ∧ x.mod = f.name then (owns f.types f.name (S.order.take i) : Int) else x.desc)
                    rw [if_pos c30]; unfold in64; omega
                  · show _ = tyCells { x with elem := turned S.place x.elem, base := turned S.place x.base, fields := x.fields.map (tfld S.place), params := x.params.map (tpar S.place), res := turned S.place x.res, desc := if x.form = 9 ∧ x.mod = f.name then (owns f.types f.name (S.order.take i) : Int) else x.desc } _ _
                    rw [if_pos c30]; rfl
                have oA := o33
                rw [← hn8] at oA
                have Vs := TysOwn.snoc e1 e2 e3 oA m33 f33 lown (fun b hb => .inr ⟨by omega, by omega⟩) hxT
                have Ps := hmove _ (· ∈ S.order.take (i + 1)) (· ∈ S.order.take (i + 1)) _ _ _ Pn m33 (fun b e => (lown b e).elim (fun e => .inr e) (fun e => .inl e.1)) (fun c hc => ⟨hc, hc⟩)
                have s33 : h32.size ≤ h33.size := m33.size
                have k_33 := (k_32.mod m33 (fun b e => (lown b e).elim (fun h1 => by have h2 := (d1 b h1.1).1; have := kl.n; omega) (fun h1 => by have := kl2.n; omega)))
                have hb1_33 := (m33.get hb1_32 (by assumption))
                have hb2_33 := (m33.get hb2_32 (by assumption))
                have hb11_33 := (m33.get hb11_32 (by assumption))
                refine asg rfl rfl ?_; refine o_nil ?_; refine x_blk ?_; refine x_seq ?_; refine c_reg ?_
                refine mv rfl rfl (add rfl rfl (by omega) rfl (asg rfl rfl ?_))
                refine o_nil ?_
                refine x_loop (i + 1, h33, v33) ⟨hlt, Ps, ?_⟩ (by simp only; omega) ⟨rfl, rfl, rfl, rfl, congrArg (fun n => some (i64 n)) (by rw [hcnt]; omega), rfl, trivial⟩ rfl
                simp only
                rw [show basic ++ outs f.types f.name S.place 0 (S.order.take (i + 1)) = basic ++ outs f.types f.name S.place 0 (S.order.take i) ++ [turnTy f.name S.place (owns f.types f.name (S.order.take i)) x] by rw [htk, outs_append, List.append_assoc, Nat.zero_add, outs, tyAt_of hx]; rfl]
                exact Vs.mono (fun b hl hb => hb.elim .inl (fun hb => .inr ⟨hb.1, hl⟩))
              · refine c_skip ?_; refine x_seq ?_; refine c_reg ?_
                refine mv rfl rfl (ldn rfl rfl (row_blk hb11) rfl (bsl (vs := [(0, .agg (tyCells { x with elem := turned S.place x.elem, base := turned S.place x.base, res := turned S.place x.res } (.slice aF x.fields.length cF) (.slice aQ x.params.length cQ)).toArray)]) (cs := (tyCells { x with elem := turned S.place x.elem, base := turned S.place x.base, res := turned S.place x.res } (.slice aF x.fields.length cF) (.slice aQ x.params.length cQ)).toArray) (E := 49) rfl (fun _ => by kernel_rfl) nofun rfl (fun h34 n34 => ?_)))
                have M5x : Go.Eng.Mod (· = g3.size) g5 h34 := n34.ext.mod _
                have z5x := M5x.size
                have Vn := (V5.mod M5x (fun b hb _ e => hBq b hb e)).mono (B' := (fun b => (T b ∧ b ≠ bt ∧ ∃ a ∈ S.order.take (i + 1), β b = 2 * a ∨ β b = 2 * a + 1) ∨ (g2.size ≤ b ∧ b ≠ g3.size))) (fun b hl hb => hb.elim (fun hb => .inl ⟨hb.1, hb.2.1, hb.2.2.elim (fun c' hc' => ⟨c', hsub c' hc'.1, hc'.2⟩)⟩) (fun hb => .inr ⟨hb.1, by omega⟩))
                have Pn := hmove _ (· ∈ S.order.take (i + 1)) (fun _ => False) _ _ _ P5 M5x (fun b e => .inl (by have e : b = g3.size := e; omega)) (fun c hc => ⟨hc, fun e => e⟩)
                have oFn := OwnS.mono (R' := fldR h34) oF5 M5x (fun b e e' => by have e' : b = g3.size := e'; have := ltF b (hvF b e).2.1; omega) (fun _ _ r => r)
                have oQn := OwnS.mono (R' := parR h34) oQ5 M5x (fun b e e' => by have e' : b = g3.size := e'; have := ltF b (hvQ b e).2.1; omega) (fun _ _ r => r)
                have lown := Vn.low
                have nb1 : ¬ ownB (.slice (some ⟨b8, 0, none⟩) n8 c8) h.size := fun e => (lown _ e).elim (fun h1 => by have h2 := (d1 _ h1.1).1; omega) (fun h1 => by omega)
                have nb2 : ¬ ownB (.slice (some ⟨b8, 0, none⟩) n8 c8) h1.size := fun e => (lown _ e).elim (fun h1 => by have h2 := (d1 _ h1.1).1; omega) (fun h1 => by omega)
                have nb3 : ¬ ownB (.slice (some ⟨b8, 0, none⟩) n8 c8) g3.size := fun e => (lown _ e).elim (fun h1 => by have h2 := d4 _ h1.1; omega) (fun h1 => h1.2 rfl)
                obtain ⟨css, hOw, e1, e2, e3⟩ := Vn.own
                have hOw8 := hOw
                rw [hn8] at hOw8
                have s34 : h34.size = g5.size + 1 := n34.size
                have k_34 := kl5.ext n34.ext
                have hb1_34 := n34.ext.get hb1_
                have hb2_34 := n34.ext.get hb2_
                have hb11_34 := n34.ext.get hb11
                refine app U_sl rfl rfl hOw8 (Src.slice (size := 10) (m := 1) rfl (row_blk n34.at_)) rfl (ones rfl) (by omega) (by omega) nofun rfl (fun v35 h35 o35 m35 f35 => ?_)
                have hcnt : owns f.types f.name (S.order.take (i + 1)) = owns f.types f.name (S.order.take i) := by rw [htk, owns_append, owns_one, tyAt_of hx, if_neg c30, Nat.add_zero]
                have hxT : TyB (fun b => ¬ ownB (.slice (some ⟨b8, 0, none⟩) n8 c8) b ∧ (fun b => (T b ∧ b ≠ bt ∧ ∃ a ∈ S.order.take (i + 1), β b = 2 * a ∨ β b = 2 * a + 1) ∨ (g2.size ≤ b ∧ b ≠ g3.size)) b) h34 (turnTy f.name S.place (owns f.types f.name (S.order.take i)) x) (tyCells { x with elem := turned S.place x.elem, base := turned S.place x.base, res := turned S.place x.res } (.slice aF x.fields.length cF) (.slice aQ x.params.length cQ)) := by
                  refine ⟨⟨hfit.1, hfit.2.1, hfit.2.2.1, hfit.2.2.2.1, turned_in L2.ok.inv hlen.2 rg1.1, turned_in L2.ok.inv hlen.2 rg2.1, turned_in L2.ok.inv hlen.2 rg3.1, ?_⟩, _, _, ?_, oFn.sliceB (by rw [List.length_map]; omega) (fun b e => ⟨hF8 b (hvF b e).2.1 (.inl (hvF b e).1), .inl ⟨(hvF b e).2.1, (hvF b e).2.2, a, hmemA, .inl (hvF b e).1⟩⟩), oQn.sliceB (by rw [List.length_map]; omega) (fun b e => ⟨hF8 b (hvQ b e).2.1 (.inr (hvQ b e).1), .inl ⟨(hvQ b e).2.1, (hvQ b e).2.2, a, hmemA, .inr (hvQ b e).1⟩⟩)⟩
                  · show in64 (if x.form = 9 ∧ x.mod = f.name then (owns f.types f.name (S.order.take i) : Int) else x.desc)
                    rw [if_neg c30]; exact hfit.2.2.2.2.2.2.2
                  · show _ = tyCells { x with elem := turned S.place x.elem, base := turned S.place x.base, fields := x.fields.map (tfld S.place), params := x.params.map (tpar S.place), res := turned S.place x.res, desc := if x.form = 9 ∧ x.mod = f.name then (owns f.types f.name (S.order.take i) : Int) else x.desc } _ _
                    rw [if_neg c30]; rfl
                have oA := o35
                rw [← hn8] at oA
                have Vs := TysOwn.snoc e1 e2 e3 oA m35 f35 lown (fun b hb => .inr ⟨by omega, by omega⟩) hxT
                have Ps := hmove _ (· ∈ S.order.take (i + 1)) (· ∈ S.order.take (i + 1)) _ _ _ Pn m35 (fun b e => (lown b e).elim (fun e => .inr e) (fun e => .inl e.1)) (fun c hc => ⟨hc, hc⟩)
                have s35 : h34.size ≤ h35.size := m35.size
                have k_35 := (k_34.mod m35 (fun b e => (lown b e).elim (fun h1 => by have h2 := (d1 b h1.1).1; have := kl.n; omega) (fun h1 => by have := kl2.n; omega)))
                have hb1_35 := (m35.get hb1_34 (by assumption))
                have hb2_35 := (m35.get hb2_34 (by assumption))
                have hb11_35 := (m35.get hb11_34 (by assumption))
                refine asg rfl rfl ?_; refine o_nil ?_; refine x_blk ?_; refine x_seq ?_; refine c_reg ?_
                refine mv rfl rfl (add rfl rfl (by omega) rfl (asg rfl rfl ?_))
                refine o_nil ?_
                refine x_loop (i + 1, h35, v35) ⟨hlt, Ps, ?_⟩ (by simp only; omega) ⟨rfl, rfl, rfl, rfl, congrArg (fun n => some (i64 n)) (by rw [hcnt]), rfl, trivial⟩ rfl
                simp only
                rw [show basic ++ outs f.types f.name S.place 0 (S.order.take (i + 1)) = basic ++ outs f.types f.name S.place 0 (S.order.take i) ++ [turnTy f.name S.place (owns f.types f.name (S.order.take i)) x] by rw [htk, outs_append, List.append_assoc, Nat.zero_add, outs, tyAt_of hx]; rfl]
                exact Vs.mono (fun b hl hb => hb.elim .inl (fun hb => .inr ⟨hb.1, hl⟩))
        · have hin : i = S.order.length := by have := c20; simp only at this; omega
          subst hin
          rw [List.take_length] at V3
          refine c_exit ?_; refine x_seq_exit ?_; refine x_loop_exit ?_; refine x_blk_hit ?_; refine x_seq ?_
          refine c_seq ?_; refine c_seq ?_; refine c_reg ?_; refine mv rfl rfl (gti rfl rfl rfl ?_)
          refine o_nil ?_; refine x_seq ?_; refine c_cond rfl (fun c36 => ?_) (fun c36 => ?_)
          · refine c_seq ?_; refine c_reg ?_
            refine bld (vs := []) (v := .agg #[str [], .int .u32 0, .slice none 0 0, .slice none 0 0, .slice none 0 0]) rfl (fun _ => by kernel_rfl) rfl (stw rfl rfl rfl (ones rfl) hb2 rfl nofun (fun h37 u37 => ?_))
            have s37 : h37.size = g3.size := u37.size
            have k_37 := kl3.upd u37 (by omega)
            have hb1_37 := u37.ne hb1 (by omega)
            have hb2_37 := u37.at_
            refine asg rfl rfl ?_; refine o_nil ?_; refine x_seq ?_; refine c_ret ?_; refine x_seq_ret ?_
            refine retc2 (.inr rfl) rfl rfl rfl rfl (row_blk hb2_37) ?_
            refine ⟨_, zeroF, 160, rfl, zero_face _, (k_37).toExt, .inr ⟨fun e => ?_, rfl, rfl⟩⟩
            have h1 := e.2
            rw [hSS] at h1
            rw [List.take_length] at c36
            omega
          · refine c_skip ?_; refine x_seq ?_; refine c_seq ?_; refine c_reg ?_
            refine mv rfl rfl (fa rfl rfl (st rfl rfl rfl hb1 rfl nofun (fun h38 u38 => ?_)))
            have s38 : h38.size = g3.size := u38.size
            have k_38 := kl3.upd u38 (by omega)
            have hb2_38 := u38.ne hb2 (by omega)
            have hb1_38 := u38.at_
            refine o_nil ?_; refine x_seq ?_; refine c_seq ?_; refine c_reg ?_
            refine ldn rfl rfl (row_blk hb1_38) rfl (stw rfl rfl rfl (ones rfl) hb2_38 rfl nofun (fun h39 u39 => ?_))
            have s39 : h39.size = h38.size := u39.size
            have k_39 := k_38.upd u39 (by omega)
            have hb1_39 := u39.ne hb1_38 (by omega)
            have hb2_39 := u39.at_
            refine asg rfl rfl ?_; refine o_nil ?_; refine x_seq ?_; refine c_ret ?_; refine retc2 (.inr rfl) rfl rfl rfl rfl (row_blk hb2_39) ?_
            have hbx : ∀ b, g1.size ≤ b → ¬ b = h.size ∧ ¬ b = h1.size := fun b hb => by have := kl.n; omega
            have hU := OwnS.mono (R' := usedR h39) (OwnS.mono U3 u38.mod (fun b e => (hbx b (d2 b e).1).1) (fun _ _ r => r)) u39.mod (fun b e => (hbx b (d2 b e).1).2) (fun _ _ r => r)
            have hO := OwnS.mono (R' := objR h39) (OwnS.mono O3 u38.mod (fun b e => (hbx b (d3 b e).1).1) (fun _ _ r => r)) u39.mod (fun b e => (hbx b (d3 b e).1).2) (fun _ _ r => r)
            have hV := (V3.mod u38.mod (fun b hb _ => (hbx b (hb.elim (fun hb => (d1 b hb.1).1) (fun hb => by omega))).1)).mod u39.mod (fun b hb _ => (hbx b (hb.elim (fun hb => (d1 b hb.1).1) (fun hb => by omega))).2)
            have ht : basic ++ outs f.types f.name S.place 0 S.order = (trimF f).types := by rw [← hSS]; rfl
            rw [ht] at hV
            have ho : f.objs.map (turnOb S.place) = (trimF f).objs := by rw [← hSS]; rfl
            rw [ho] at hO
            have htl2 : (trimF f).types.length = 7 + S.order.length := by rw [← hSS]; exact newT_len _ _ _
            rw [List.take_length] at c36
            exact ⟨_, trimF f, 0, rfl, face_parts (f := trimF f) hfn hfk hU hV hO (by show f.uses.length ≤ _; omega) (by omega) (by rw [← ho, List.length_map]; omega), (k_39).toExt, .inl ⟨⟨⟨hS, hImp⟩, by rw [hSS]; omega⟩, rfl, rfl⟩⟩
end Go.Proofs.Ytgnkfegkdjfnjaa
