/- The law: what was trimmed is an interface, and is trimmed to itself. No condition but what each theorem says. -/
import Derived.Test.YtgnkfegkdjfnjaaIfb5
namespace Go.Proofs.Ytgnkfegkdjfnjaa
open Go Go.Eng

theorem sub_sum (w : Nat → Nat) : ∀ (O l : List Nat), O.Nodup → O ⊆ l → (O.map w).sum ≤ (l.map w).sum
  | [], _, _, _ => by simp
  | a :: O, l, hn, hs => by
    rw [List.nodup_cons] at hn
    have ha : a ∈ l := hs (List.mem_cons_self ..)
    have hp := ((List.perm_cons_erase ha).map w).sum_nat
    have hO : O ⊆ l.erase a := fun b hb => (List.mem_erase_of_ne (fun e => hn.1 (by rw [← e]; exact hb))).2 (hs (List.mem_cons_of_mem _ hb))
    have ih := sub_sum w O (l.erase a) hn.2 hO
    rw [hp, List.map_cons, List.map_cons, List.sum_cons, List.sum_cons]
    omega
theorem weigh_turn (name : Bytes) (P : Nat → Nat) (d : Nat) (x : Ty) : weigh (turnTy name P d x) = weigh x := by simp [weigh, turnTy]
theorem total_outs (t : List Ty) (name : Bytes) (P : Nat → Nat) : ∀ (O : List Nat) (d : Nat), totalW (outs t name P d O) = (O.map (fun a => weigh (tyAt t a))).sum
  | [], _ => rfl
  | a :: O, d => by
    have ih := total_outs t name P O (if (tyAt t a).form = 9 ∧ (tyAt t a).mod = name then d + 1 else d)
    unfold totalW at ih ⊢
    rw [outs, List.map_cons, List.sum_cons, weigh_turn, ih, List.map_cons, List.sum_cons]
theorem total_all (t : List Ty) : ((List.range t.length).map (fun a => weigh (tyAt t a))).sum = totalW t := by
  unfold totalW
  congr 1
  refine List.ext_getElem (by simp) fun i h1 h2 => ?_
  simp only [List.getElem_map, List.getElem_range]
  rw [tyAt_of (List.getElem?_eq_getElem (by simpa using h2))]
theorem large_trim {f : Face} (hs : ShapedP f) (h : ¬ Large16P f) : ¬ Large16P (trimF f) := by
  obtain ⟨hT, -⟩ := needed_ok hs
  have hol := order_le hT
  have h256 := hs.1.2.2.2.1.2
  have hl : (trimF f).types.length = 7 + (needed f).order.length := newT_len _ _ _
  have hw : totalW (trimF f).types ≤ totalW f.types := by
    have e : totalW (trimF f).types = ((needed f).order.map (fun a => weigh (tyAt f.types a))).sum := by
      rw [← total_outs f.types f.name (needed f).place (needed f).order 0]
      show totalW (basic ++ _) = _
      unfold totalW
      rw [List.map_append, List.sum_append]
      simp [basic, basicTy, weigh]
    rw [e, ← total_all]
    exact sub_sum _ _ _ hT.inv.nodup (fun a ha => List.mem_range.2 (hT.inv.range a ha).2)
  intro hL
  refine h ?_
  rcases hL with (((h1 | h1) | h1) | h1) | h1 | h1
  · exact .inl (.inl (.inl (.inl h1)))
  · exact .inl (.inl (.inl (.inr (by have : (trimF f).objs.length = f.objs.length := List.length_map _; omega))))
  · exact .inl (.inl (.inr h1))
  · refine .inl (.inr ?_)
    rcases h1 with h1 | h1
    · omega
    · exact .inr (by omega)
  · obtain ⟨o, ho, h2⟩ := h1
    obtain ⟨p, hp, rfl⟩ := List.mem_map.1 ho
    exact .inr (.inl ⟨p, hp, h2⟩)
  · exact .inr (.inr h1)
theorem trim_len_le {f : Face} (hs : ShapedP f) : (trimF f).types.length ≤ f.types.length := by
  obtain ⟨hT, -⟩ := needed_ok hs
  have := order_le hT
  have hl : (trimF f).types.length = 7 + (needed f).order.length := newT_len _ _ _
  omega
theorem ok_again {f : Face} (h : TrimOk f) : TrimOk (trimF f) ∧ FGood (trimF f) := by
  have hg := (trim_good h.1.1 h.1.2).2 h.2
  refine ⟨⟨⟨hg.1, hg.imp⟩, (trim_good hg.1 hg.imp).1 ?_⟩, hg⟩
  rw [trim_again h.1.1 hg]; exact hg
theorem short_trim {f : Face} (hs : ShapedP f) (hS : FaceShort f) : TSized (trimF f).types := by
  obtain ⟨hT, -⟩ := needed_ok hs
  have h := short_sized hS
  intro x hx
  obtain ⟨i, hi⟩ := List.mem_iff_getElem?.1 hx
  rcases new_cases (name := f.name) hT hi with ⟨-, rfl⟩ | ⟨j, a, y, -, -, hy, rfl⟩
  · exact ⟨by simp [basicTy], by simp [basicTy]⟩
  · have := h y (List.mem_of_getElem? hy)
    simpa [turnTy] using this
set_option maxHeartbeats 8000000 in
theorem againL_fn {h : Heap} {fv : Value} {f : Face} (hF : FaceV h.size h fv f) (hS : FaceShort f) :
    Does Try.prog 8 [fv] h (fun v h' => v = .bool true ∧ Ext h h') := by
  have hmx : maxLen = 9223372036854775807 := by decide
  have k0 : At h.size h h := At.refl (Nat.le_refl _)
  have hF0 := hF
  obtain ⟨hfn, hfk, hft⟩ := face_name hF
  have hsz := short_sized hS
  have hO0 : ∃ ao co at0 ct0, SliceAt h.size h 7 objR (.slice ao f.objs.length co) f.objs ∧ TypesAt h.size h (.slice at0 f.types.length ct0) f.types ∧ ∃ au cu, fv = faceC f au cu at0 ct0 ao co := by
    obtain ⟨vu, vt, vo, rfl, hn, hk, hU, hT, hO⟩ := hF
    have hO' := hO
    have hT' := hT
    obtain ⟨ao, co, rfl⟩ := hO.form
    obtain ⟨au, cu, rfl⟩ := hU.form
    obtain ⟨at0, ct0, rfl⟩ := SliceAt.form hT
    exact ⟨ao, co, at0, ct0, hO', hT', au, cu, rfl⟩
  obtain ⟨ao, co, at0, ct0, hO0, hT0, au, cu, rfl⟩ := hO0
  have hol := hO0.1
  refine fn_enter (N := 151) Try.func8 (by kernel_rfl) rfl rfl rfl (fun w0 => ?_)
  refine c_seq ?_; refine c_reg ?_; refine bx rfl nofun rfl (fun h1 n1 => ?_)
  have s1 : h1.size = h.size + 1 := n1.size
  have k_1 := k0.ext n1.ext
  have b1_1 := n1.at_
  refine asg rfl rfl ?_; refine o_nil ?_; refine x_seq ?_
  refine c_seq ?_; refine c_seq ?_; refine c_reg ?_
  refine ldn rfl rfl (row_blk b1_1) rfl (clE ((large16_fn (FaceV.up hF0 k_1) hsz)) rfl rfl (fun h2 x2 => ?_))
  have s2 : h1.size ≤ h2.size := x2.size
  have k_2 := k_1.ext x2
  have b1_2 := x2.get b1_1
  refine o_nil ?_; refine x_seq ?_; refine c_cond rfl (fun c3 => ?_) (fun c3 => ?_)
  · refine c_seq ?_; refine c_reg ?_; refine clE (wakes16_fn) rfl rfl (fun h4 x4 => ?_)
    have s4 : h2.size ≤ h4.size := x4.size
    have k_4 := k_2.ext x4
    have b1_4 := x4.get b1_2
    refine asg rfl rfl ?_; refine o_nil ?_; refine x_seq ?_; refine c_ret ?_; refine x_seq_ret ?_; refine ret1 (.inr rfl) rfl rfl ?_
    exact ⟨rfl, (k_4).toExt⟩
  · have hlg : ¬ Large16P f := c3
    refine c_skip ?_; refine x_seq ?_; refine c_seq ?_; refine c_reg ?_
    refine ldn rfl rfl (row_blk b1_2) rfl (cl (vs := [faceC f au cu at0 ct0 ao co]) rfl ((copy16_fn (FaceV.up hF0 k_2) hlg)) rfl (fun v5 h5 r5 => ?_))
    obtain ⟨nn5, x5⟩ := r5
    have z5 := x5.size
    have p5 := nn5.face hfn hfk hft
    have k_5 := (k_2.ext x5)
    have b1_5 := (x5.get b1_2)
    refine cl (vs := [v5]) rfl ((trim_fn p5)) rfl (fun v6 h6 r6 => ?_)
    obtain ⟨xv, x, e, rfl, p6, x6, hr6⟩ := r6
    have z6 := x6.size
    have p6' := p6
    obtain ⟨vu6, vt6, vo6, rfl, hn6, hk6, hU6, hT6, hO6⟩ := p6
    have hT6' := hT6
    have hO6' := hO6
    obtain ⟨ao6, co6, rfl⟩ := hO6.form
    obtain ⟨au6, cu6, rfl⟩ := hU6.form
    obtain ⟨at6, ct6, rfl⟩ := SliceAt.form hT6
    have k_6 := (k_5.ext x6)
    have b1_6 := (x6.get b1_5)
    refine mv rfl rfl (ext rfl rfl rfl (ext rfl rfl rfl (alc nofun rfl (fun h7 n7 => ?_))))
    have s7 : h7.size = h6.size + 1 := n7.size
    have k_7 := k_6.ext n7.ext
    have b1_7 := n7.ext.get b1_6
    have b3_7 := n7.at_
    refine stw rfl rfl rfl (ones rfl) b3_7 rfl nofun (fun h8 u8 => ?_)
    have k68 : At h6.size h6 h8 := ((At.refl (Nat.le_refl _)).ext n7.ext).upd u8 (Nat.le_refl _)
    have s8 : h8.size = h7.size := u8.size
    have k_8 := k_7.upd u8 (by omega)
    have b1_8 := u8.ne b1_7 (by omega)
    have b3_8 := u8.at_
    refine asg rfl rfl ?_; refine o_nil ?_; refine x_seq ?_
    refine c_seq ?_; refine c_seq ?_; refine c_reg ?_; refine mv rfl rfl (nei rfl rfl rfl ?_)
    refine o_nil ?_; refine x_seq ?_; refine c_cond rfl (fun c9 => ?_) (fun c9 => ?_)
    · have hr : x = zeroF ∧ e = 160 := by
        rcases hr6 with ⟨-, -, rfl⟩ | ⟨-, h1, h2⟩
        · exact absurd rfl c9
        · exact ⟨h1, h2⟩
      obtain ⟨rfl, rfl⟩ := hr
      refine c_seq ?_; refine c_reg ?_
      refine mv rfl rfl (eqi rfl rfl rfl (mv rfl rfl (gd rfl rfl (fa rfl rfl (gd rfl rfl (ld rfl (cell b3_8 rfl) rfl (gd rfl rfl (lnl rfl rfl (gd rfl rfl (eqi rfl rfl rfl ?_))))))))))
      refine pkt rfl rfl rfl (mv rfl rfl (gd rfl rfl (fa rfl rfl (gd rfl rfl (ld rfl (cell b3_8 rfl) rfl (gd rfl rfl (eqs rfl rfl rfl (pkt rfl rfl rfl (mv rfl rfl (gd rfl rfl (clE (wakes16_fn) rfl rfl (fun h10 x10 => ?_))))))))))))
      have s10 : h8.size ≤ h10.size := x10.size
      have k_10 := k_8.ext x10
      have b1_10 := x10.get b1_8
      have b3_10 := x10.get b3_8
      refine pkt rfl rfl rfl (asg rfl rfl ?_)
      refine o_nil ?_; refine x_seq ?_; refine c_ret ?_; refine x_seq_ret ?_; refine ret1 (.inr rfl) rfl rfl ?_
      exact ⟨rfl, (k_10).toExt⟩
    · have hr : TrimOk f ∧ x = trimF f ∧ e = 0 := by
        rcases hr6 with h1 | ⟨-, -, rfl⟩
        · exact h1
        · exact absurd (by decide) c9
      obtain ⟨hok, rfl, rfl⟩ := hr
      obtain ⟨hok2, hg2⟩ := ok_again hok
      have hlg2 := large_trim hok.1.1 hlg
      have hsz2 := short_trim hok.1.1 hS
      obtain ⟨hTr, hPl⟩ := needed_ok hok.1.1
      refine c_skip ?_; refine x_seq ?_
      refine c_seq ?_; refine c_seq ?_; refine c_reg ?_
      refine ldn rfl rfl (row_blk b3_8) rfl (clE ((large16_fn (FaceV.up p6' (k68)) hsz2)) rfl rfl (fun h11 x11 => ?_))
      have s11 : h8.size ≤ h11.size := x11.size
      have k_11 := k_8.ext x11
      have b1_11 := x11.get b1_8
      have b3_11 := x11.get b3_8
      refine mv rfl rfl (gqf rfl rfl rfl (fun e => fa rfl rfl) (gqf rfl rfl rfl (fun e => ld (cg rfl e) (cell b3_11 rfl) rfl) (gqf rfl rfl rfl (fun e => lnl (cg rfl e) rfl) ?_)))
      refine gqf rfl rfl rfl (fun e => fa rfl rfl) (gqf rfl rfl rfl (fun e => ld (cg rfl e) (cell b1_11 rfl) rfl) (gqf rfl rfl rfl (fun e => lnl (cg rfl e) rfl) (gqf rfl rfl rfl (fun e => nei (cg rfl e) (cg rfl e) rfl) ?_)))
      refine pko rfl rfl rfl rfl (mv rfl rfl (gqf rfl rfl rfl (fun e => fa rfl rfl) (gqf rfl rfl rfl (fun e => ld (cg rfl e) (cell b3_11 rfl) rfl) (gqf rfl rfl rfl (fun e => lnl (cg rfl e) rfl) ?_))))
      refine gqf rfl rfl rfl (fun e => fa rfl rfl) (gqf rfl rfl rfl (fun e => ld (cg rfl e) (cell b1_11 rfl) rfl) (gqf rfl rfl rfl (fun e => lnl (cg rfl e) rfl) (gqf rfl rfl rfl (fun e => gti (cg rfl e) (cg rfl e) rfl) ?_)))
      refine pko rfl rfl rfl rfl ?_; refine o_nil ?_; refine x_seq ?_; refine c_cond rfl (fun c12 => ?_) (fun c12 => ?_)
      · refine c_seq ?_; refine c_reg ?_; refine asg rfl rfl ?_; refine o_nil ?_; refine x_seq ?_; refine c_ret ?_; refine x_seq_ret ?_
        refine ret1 (.inr rfl) rfl rfl ?_
        exfalso
        have e1 : (trimF f).objs.length = f.objs.length := List.length_map _
        have e2 := trim_len_le hok.1.1
        rcases c12 with (c | c) | c
        · exact hlg2 c
        · omega
        · omega
      · refine c_skip ?_; refine x_seq ?_; refine c_seq ?_; refine c_reg ?_
        refine ldn rfl rfl (row_blk b3_11) rfl (cl (vs := [faceC (trimF f) au6 cu6 at6 ct6 ao6 co6]) rfl ((copy16_fn (FaceV.up p6' (k68.ext x11)) hlg2)) rfl (fun v13 h13 r13 => ?_))
        obtain ⟨nn13, x13⟩ := r13
        have z13 := x13.size
        have p13 := nn13.face hn6 hk6 hT6'.1
        have k_13 := (k_11.ext x13)
        have b1_13 := (x13.get b1_11)
        have b3_13 := (x13.get b3_11)
        refine cl (vs := [v13]) rfl ((trim_fn p13)) rfl (fun v14 h14 r14 => ?_)
        obtain ⟨yv, y, e', rfl, p14, x14, hr14⟩ := r14
        have z14 := x14.size
        have hr : y = trimF (trimF f) ∧ e' = 0 := by
          rcases hr14 with ⟨-, h1, h2⟩ | ⟨h1, -, -⟩
          · exact ⟨h1, h2⟩
          · exact absurd hok2 h1
        obtain ⟨rfl, rfl⟩ := hr
        rw [trim_again hok.1.1 hg2] at p14
        obtain ⟨au14, cu14, at14, ct14, ao14, co14, rfl⟩ := face_form p14
        have k_14 := (k_13.ext x14)
        have b1_14 := (x14.get b1_13)
        have b3_14 := (x14.get b3_13)
        refine mv rfl rfl (ext rfl rfl rfl (ext rfl rfl rfl (alc nofun rfl (fun h15 n15 => ?_))))
        have s15 : h15.size = h14.size + 1 := n15.size
        have k_15 := k_14.ext n15.ext
        have b1_15 := n15.ext.get b1_14
        have b3_15 := n15.ext.get b3_14
        have b5_15 := n15.at_
        refine stw rfl rfl rfl (ones rfl) b5_15 rfl nofun (fun h16 u16 => ?_)
        have k616 : At h6.size h6 h16 := ((((k68.ext x11).ext x13).ext x14).ext n15.ext).upd u16 (by have := x11.size; have := k68.n; omega)
        have k1416 : At h14.size h14 h16 := ((At.refl (Nat.le_refl _)).ext n15.ext).upd u16 (Nat.le_refl _)
        have s16 : h16.size = h15.size := u16.size
        have k_16 := k_15.upd u16 (by omega)
        have b1_16 := u16.ne b1_15 (by omega)
        have b3_16 := u16.ne b3_15 (by omega)
        have b5_16 := u16.at_
        refine asg rfl rfl ?_; refine o_nil ?_; refine x_seq ?_
        refine c_seq ?_; refine c_seq ?_; refine c_reg ?_
        refine mv rfl rfl (nei rfl rfl rfl (mv rfl rfl (gd rfl rfl (ldn rfl rfl (row_blk b3_16) rfl (gd rfl rfl (cl (vs := [faceC (trimF f) au6 cu6 at6 ct6 ao6 co6]) rfl ((copy16_fn (FaceV.up p6' k616) hlg2)) rfl (fun v17 h17 r17 => ?_)))))))
        obtain ⟨nn17, x17⟩ := r17
        have z17 := x17.size
        have p17 := nn17.face hn6 hk6 hT6'.1
        have k_17 := (k_16.ext x17)
        have b1_17 := (x17.get b1_16)
        have b3_17 := (x17.get b3_16)
        have b5_17 := (x17.get b5_16)
        refine gd rfl rfl (clE ((fgood_fn p17)) rfl rfl (fun h18 x18 => ?_))
        have s18 : h17.size ≤ h18.size := x18.size
        have k_18 := k_17.ext x18
        have b1_18 := x18.get b1_17
        have b3_18 := x18.get b3_17
        have b5_18 := x18.get b5_17
        refine ct 66 rfl hg2 ?_
        refine gd rfl rfl (nt rfl rfl (pkf rfl rfl rfl (mv rfl rfl (gd rfl rfl (ldn rfl rfl (row_blk b3_18) rfl (gd rfl rfl (ldn rfl rfl (row_blk b5_18) rfl (gd rfl rfl (clE ((same_fn (FaceV.up p6' ((k616.ext x17).ext x18)) (FaceV.up p14 ((k1416.ext x17).ext x18)))) rfl rfl (fun h19 x19 => ?_))))))))))
        have s19 : h18.size ≤ h19.size := x19.size
        have k_19 := k_18.ext x19
        have b1_19 := x19.get b1_18
        have b3_19 := x19.get b3_18
        have b5_19 := x19.get b5_18
        refine ct 72 rfl rfl ?_; refine gd rfl rfl (nt rfl rfl (pkf rfl rfl rfl ?_))
        refine o_nil ?_; refine x_seq ?_; refine c_cond rfl (fun c20 => ?_) (fun c20 => ?_)
        · refine c_seq ?_; refine c_reg ?_; refine asg rfl rfl ?_; refine o_nil ?_; refine x_seq ?_; refine c_ret ?_; refine x_seq_ret ?_
          refine ret1 (.inr rfl) rfl rfl ?_
          exfalso
          simp at c20
        · have k619 : At h6.size h6 h19 := ((k616.ext x17).ext x18).ext x19
          have kh19 : At h.size h h19 := k_19
          have hc1 := b1_19
          have hc3 := b3_19
          refine c_skip ?_; refine x_seq ?_
          refine c_seq ?_; refine c_seq ?_; refine c_reg ?_; refine asg rfl rfl ?_; refine o_nil ?_; refine x_seq ?_; refine c_blk ?_
          refine c_loop (α := Nat) (fun i => [(1, ptr h.size 0), (3, ptr h6.size 0), (7, i64 (i : Nat))]) (fun _ => h19) (fun i => i ≤ f.objs.length) (fun i => f.objs.length - i) 0 (Nat.zero_le _) ⟨rfl, rfl, rfl, trivial⟩ rfl (fun i hi => ?_)
          change SC _ _ _ _ h19
          refine c_seq ?_; refine c_seq ?_; refine c_reg ?_
          refine mv rfl rfl (fa rfl rfl (ld rfl (cell hc1 rfl) rfl (lnl rfl rfl (lti rfl rfl rfl ?_))))
          refine o_nil ?_; refine x_seq ?_; refine c_cond rfl (fun c21 => ?_) (fun c21 => ?_)
          · have hlt : i < f.objs.length := by omega
            obtain ⟨o, hox⟩ : ∃ o, f.objs[i]? = some o := ⟨_, List.getElem?_eq_getElem hlt⟩
            have hom : o ∈ f.objs := List.mem_of_getElem? hox
            have hoy : (trimF f).objs[i]? = some (turnOb (needed f).place o) := by show (f.objs.map _)[i]? = _; rw [List.getElem?_map, hox]; rfl
            have hoyl : i < (trimF f).objs.length := (List.getElem?_eq_some_iff.1 hoy).1
            obtain ⟨bo, oo, cs2, ha2, -, -, hro, hR2⟩ := SliceAt.el hO0 kh19 hox
            subst ha2
            obtain ⟨rfl, -⟩ := hR2
            obtain ⟨bp, op, cs3, ha3, -, -, hrp, hR3⟩ := SliceAt.el hO6' k619 hoy
            subst ha3
            obtain ⟨rfl, -⟩ := hR3
            have hrange := (hok.1.1.2.2.2.2 o hom).2.1
            have hplaced := hPl o hom
            obtain ⟨t1, t2, ht1, ht2, -⟩ := new_at (name := f.name) hTr hrange hplaced
            have hlt2 := turned_lt (name := f.name) hTr hrange.1 hplaced
            have hform := new_form (name := f.name) hTr hrange hplaced
            rw [formOf_at hrange.1 ht1, formOf_at hlt2.1 ht2] at hform
            obtain ⟨bt, ot, cs4, ha4, -, -, hrt, hR4⟩ := SliceAt.el hT0 kh19 ht1
            subst ha4
            obtain ⟨-, vf4, vp4, rfl, -⟩ := hR4
            obtain ⟨bu, ou, cs5, ha5, -, -, hru, hR5⟩ := SliceAt.el hT6' k619 (show (trimF f).types[_]? = _ from ht2)
            subst ha5
            obtain ⟨-, vf5, vp5, rfl, -⟩ := hR5
            have hlt3 : 0 ≤ (turnOb (needed f).place o).type ∧ (turnOb (needed f).place o).type < (trimF f).types.length := hlt2
            refine c_skip ?_; refine x_seq ?_
            refine c_seq ?_; refine c_blk ?_; refine c_seq ?_
            refine c_dreg (· = h19) [0, 1, 2, 3, 4, 5, 6, 7, 8, 9, 10, 11, 12, 13, 14, 15, 16, 17, 18, 19, 20, 21, 22, 23, 24, 25, 26, 27, 28, 29, 30, 31, 32, 33, 34, 35, 36, 37, 38, 39, 40, 41, 42, 43, 44, 45, 46, 47, 48, 49, 50, 51, 52, 53, 54, 55, 56, 57, 58, 59, 60, 61, 62, 63, 64, 65, 66, 67] rfl rfl (by kernel_rfl) ?_
            refine fa rfl rfl (ldI rfl (fun _ hI => by subst hI; exact cell hc3 rfl) rfl (mv rfl rfl (ixs rfl rfl (by omega) rfl (fa rfl rfl (ldI rfl (fun _ hI => by subst hI; exact (hrp 1 _ rfl)) rfl ?_)))))
            refine fa rfl rfl (ldI rfl (fun _ hI => by subst hI; exact cell hc1 rfl) rfl (mv rfl rfl (ixs rfl rfl (by omega) rfl (fa rfl rfl (ldI rfl (fun _ hI => by subst hI; exact (hro 1 _ rfl)) rfl ?_)))))
            refine nes rfl rfl rfl (mv rfl rfl (gqf rfl rfl rfl (fun e => fa rfl rfl) (gqf rfl rfl rfl (fun e => ldI (cg rfl e) (fun _ hI => by subst hI; exact cell hc3 rfl) rfl) ?_)))
            refine gqf rfl rfl rfl (fun e => mv rfl rfl) (gqf rfl rfl rfl (fun e => ixs (cg rfl e) (cg rfl e) (by omega) rfl) (gqf rfl rfl rfl (fun e => fa (cg rfl e) rfl) ?_))
            refine gqf rfl rfl rfl (fun e => ldI (cg rfl e) (fun _ hI => by subst hI; exact (hrp 0 _ rfl)) rfl) (gqf rfl rfl rfl (fun e => fa rfl rfl) (gqf rfl rfl rfl (fun e => ldI (cg rfl e) (fun _ hI => by subst hI; exact cell hc1 rfl) rfl) ?_))
            refine gqf rfl rfl rfl (fun e => mv rfl rfl) (gqf rfl rfl rfl (fun e => ixs (cg rfl e) (cg rfl e) (by omega) rfl) (gqf rfl rfl rfl (fun e => fa (cg rfl e) rfl) ?_))
            refine gqf rfl rfl rfl (fun e => ldI (cg rfl e) (fun _ hI => by subst hI; exact (hro 0 _ rfl)) rfl) (gqf rfl rfl rfl (fun e => nei (cg rfl e) (cg rfl e) rfl) (pko rfl rfl rfl rfl ?_))
            refine mv rfl rfl (gqf rfl rfl rfl (fun e => fa rfl rfl) (gqf rfl rfl rfl (fun e => ldI (cg rfl e) (fun _ hI => by subst hI; exact cell hc3 rfl) rfl) (gqf rfl rfl rfl (fun e => mv rfl rfl) ?_)))
            refine gqf rfl rfl rfl (fun e => ixs (cg rfl e) (cg rfl e) (by omega) rfl) (gqf rfl rfl rfl (fun e => fa (cg rfl e) rfl) (gqf rfl rfl rfl (fun e => ldI (cg rfl e) (fun _ hI => by subst hI; exact (hrp 6 _ rfl)) rfl) ?_))
            refine gqf rfl rfl rfl (fun e => fa rfl rfl) (gqf rfl rfl rfl (fun e => ldI (cg rfl e) (fun _ hI => by subst hI; exact cell hc1 rfl) rfl) (gqf rfl rfl rfl (fun e => mv rfl rfl) ?_))
            refine gqf rfl rfl rfl (fun e => ixs (cg rfl e) (cg rfl e) (by omega) rfl) (gqf rfl rfl rfl (fun e => fa (cg rfl e) rfl) (gqf rfl rfl rfl (fun e => ldI (cg rfl e) (fun _ hI => by subst hI; exact (hro 6 _ rfl)) rfl) ?_))
            refine gqf rfl rfl rfl (fun e => nei (cg rfl e) (cg rfl e) rfl) (pko rfl rfl rfl rfl (mv rfl rfl (gqf rfl rfl rfl (fun e => fa rfl rfl) (gqf rfl rfl rfl (fun e => ldI (cg rfl e) (fun _ hI => by subst hI; exact cell hc3 rfl) rfl) ?_))))
            refine gqf rfl rfl rfl (fun e => fa rfl rfl) (gqf rfl rfl rfl (fun e => ldI (cg rfl e) (fun _ hI => by subst hI; exact cell hc3 rfl) rfl) (gqf rfl rfl rfl (fun e => mv rfl rfl) ?_))
            refine gqf rfl rfl rfl (fun e => ixs (cg rfl e) (cg rfl e) (by omega) rfl) (gqf rfl rfl rfl (fun e => fa (cg rfl e) rfl) (gqf rfl rfl rfl (fun e => ldI (cg rfl e) (fun _ hI => by subst hI; exact (hrp 2 _ rfl)) rfl) ?_))
            refine gqf rfl rfl rfl (fun e => ixs (cg rfl e) (cg rfl e) (by omega) rfl) (gqf rfl rfl rfl (fun e => fa (cg rfl e) rfl) (gqf rfl rfl rfl (fun e => ldI (cg rfl e) (fun _ hI => by subst hI; exact (hru 0 _ rfl)) rfl) ?_))
            refine gqf rfl rfl rfl (fun e => fa rfl rfl) (gqf rfl rfl rfl (fun e => ldI (cg rfl e) (fun _ hI => by subst hI; exact cell hc1 rfl) rfl) (gqf rfl rfl rfl (fun e => fa rfl rfl) ?_))
            refine gqf rfl rfl rfl (fun e => ldI (cg rfl e) (fun _ hI => by subst hI; exact cell hc1 rfl) rfl) (gqf rfl rfl rfl (fun e => mv rfl rfl) (gqf rfl rfl rfl (fun e => ixs (cg rfl e) (cg rfl e) (by omega) rfl) ?_))
            refine gqf rfl rfl rfl (fun e => fa (cg rfl e) rfl) (gqf rfl rfl rfl (fun e => ldI (cg rfl e) (fun _ hI => by subst hI; exact (hro 2 _ rfl)) rfl) (gqf rfl rfl rfl (fun e => ixs (cg rfl e) (cg rfl e) (by omega) rfl) ?_))
            refine gqf rfl rfl rfl (fun e => fa (cg rfl e) rfl) (gqf rfl rfl rfl (fun e => ldI (cg rfl e) (fun _ hI => by subst hI; exact (hrt 0 _ rfl)) rfl) (gqf rfl rfl rfl (fun e => nei (cg rfl e) (cg rfl e) rfl) ?_))
            refine pko rfl rfl rfl rfl ?_; refine o_nil ?_; refine x_seq ?_; refine c_cond rfl (fun c22 => ?_) (fun c22 => ?_)
            · refine c_seq ?_; refine c_reg ?_; refine asg rfl rfl ?_; refine o_nil ?_; refine x_seq ?_; refine c_ret ?_; refine x_blk_ret ?_
              refine x_seq_ret ?_; refine x_loop_ret ?_; refine x_blk_ret ?_; refine x_seq_ret ?_; refine ret1 (.inr rfl) rfl rfl ?_
              exfalso
              simp [turnOb, hform] at c22
            · refine c_skip ?_; refine x_blk ?_; refine x_seq ?_; refine c_reg ?_; refine mv rfl rfl (add rfl rfl (by omega) rfl (asg rfl rfl ?_))
              refine o_nil ?_
              exact x_loop (i + 1) hlt (by omega) ⟨rfl, rfl, rfl, trivial⟩ rfl
          · refine c_exit ?_; refine x_seq_exit ?_; refine x_loop_exit ?_; refine x_blk_hit ?_; refine x_seq ?_; refine c_seq ?_; refine c_reg ?_
            refine clE (wakes16_fn) rfl rfl (fun h23 x23 => ?_)
            have s23 : h19.size ≤ h23.size := x23.size
            have k_23 := kh19.ext x23
            have hc1_23 := x23.get hc1
            have hc3_23 := x23.get hc3
            refine asg rfl rfl ?_; refine o_nil ?_; refine x_seq ?_; refine c_ret ?_; refine ret1 (.inr rfl) rfl rfl ?_
            exact ⟨rfl, (k_23).toExt⟩
end Go.Proofs.Ytgnkfegkdjfnjaa
