/- The law: every object of an interface is found by its name. No condition but what each theorem says. -/
import Derived.Test.YtgnkfegkdjfnjaaIfb1
namespace Go.Proofs.Ytgnkfegkdjfnjaa
open Go Go.Eng

theorem find_nodup {l : List Ob} (h : (l.map (·.name)).Nodup) {o : Ob} (ho : o ∈ l) : findO l o.name = some o := by
  unfold findO
  induction l with
  | nil => cases ho
  | cons a l ih =>
    rw [List.map_cons, List.nodup_cons] at h
    by_cases e : a.name = o.name
    · rcases List.mem_cons.1 ho with rfl | ho
      · rw [List.find?_cons_of_pos (by simp)]
      · exact absurd (List.mem_map.2 ⟨o, ho, e.symm⟩) h.1
    · rw [List.find?_cons_of_neg (by simpa using e)]
      rcases List.mem_cons.1 ho with rfl | ho
      · exact absurd rfl e
      · exact ih h.2 ho
theorem find_some {l : List Ob} {name : Bytes} : (findO l name).isSome = true ↔ ∃ o ∈ l, o.name = name := by
  simp [findO, List.find?_isSome]
theorem find_turn (P : Nat → Nat) (l : List Ob) (name : Bytes) : findO (l.map (turnOb P)) name = (findO l name).map (turnOb P) := by
  unfold findO
  rw [List.find?_map]
  rfl
abbrev obCells (x : Ob) : Array Value := #[i64 x.cls, str x.name, i64 x.type, i64 x.val.form, i64 x.val.n, str x.val.text, i64 x.n]
set_option maxHeartbeats 4000000 in
theorem finds_fn {h : Heap} {fv : Value} {f : Face} (hF : FaceV h.size h fv f) (hS : FaceShort f) (name : Bytes) :
    Does Try.prog 6 [fv, str name] h (fun v h' => v = .bool true ∧ Ext h h') := by
  have hmx : maxLen = 9223372036854775807 := by decide
  have k0 : At h.size h h := At.refl (Nat.le_refl _)
  have hF0 := hF
  obtain ⟨hfn, hfk, hft⟩ := face_name hF
  have hsz := short_sized hS
  have hO0 : ∃ ao co, SliceAt h.size h 7 objR (.slice ao f.objs.length co) f.objs ∧ ∃ au cu at0 ct0, fv = faceC f au cu at0 ct0 ao co := by
    obtain ⟨vu, vt, vo, rfl, hn, hk, hU, hT, hO⟩ := hF
    have hO' := hO
    obtain ⟨ao, co, rfl⟩ := hO.form
    obtain ⟨au, cu, rfl⟩ := hU.form
    obtain ⟨at0, ct0, rfl⟩ := SliceAt.form hT
    exact ⟨ao, co, hO', au, cu, at0, ct0, rfl⟩
  obtain ⟨ao, co, hO0, au, cu, at0, ct0, rfl⟩ := hO0
  have hol := hO0.1
  refine fn_enter (N := 120) Try.func6 (by kernel_rfl) rfl rfl rfl (fun w0 => ?_)
  refine c_seq ?_; refine c_reg ?_; refine bx rfl nofun rfl (fun h1 n1 => ?_)
  have s1 : h1.size = h.size + 1 := n1.size
  have k_1 := k0.ext n1.ext
  have b2_1 := n1.at_
  refine asg rfl rfl ?_; refine o_nil ?_; refine x_seq ?_
  refine c_seq ?_; refine c_seq ?_; refine c_reg ?_
  refine ldn rfl rfl (row_blk b2_1) rfl (clE ((large16_fn (FaceV.up hF0 k_1) hsz)) rfl rfl (fun h2 x2 => ?_))
  have s2 : h1.size ≤ h2.size := x2.size
  have k_2 := k_1.ext x2
  have b2_2 := x2.get b2_1
  refine mv rfl rfl (gqf rfl rfl rfl (fun e => mv rfl rfl) (gqf rfl rfl rfl (fun e => lns (cg rfl e) rfl) (gqf rfl rfl rfl (fun e => gti (cg rfl e) rfl rfl) (pko rfl rfl rfl rfl ?_))))
  refine mv rfl rfl (gqf rfl rfl rfl (fun e => ldn rfl rfl (row_blk b2_2) rfl) (gef rfl rfl rfl (fun e kk => clE ((good16_fn (FaceV.up hF0 k_2))) (a1 (cg rfl e)) rfl kk) (fun h3 x3 => ?_)))
  have s3 : h2.size ≤ h3.size := x3.size
  have k_3 := k_2.ext x3
  have b2_3 := x3.get b2_2
  refine gqf rfl rfl rfl (fun e => nt (cg rfl e) rfl) (pko rfl rfl rfl rfl ?_)
  refine o_nil ?_; refine x_seq ?_; refine c_cond rfl (fun c4 => ?_) (fun c4 => ?_)
  · refine c_seq ?_; refine c_reg ?_; refine clE (wakes16_fn) rfl rfl (fun h5 x5 => ?_)
    have s5 : h3.size ≤ h5.size := x5.size
    have k_5 := k_3.ext x5
    have b2_5 := x5.get b2_3
    refine asg rfl rfl ?_; refine o_nil ?_; refine x_seq ?_; refine c_ret ?_; refine x_seq_ret ?_; refine ret1 (.inr rfl) rfl rfl ?_
    exact ⟨rfl, (k_5).toExt⟩
  · have hlg : ¬ Large16P f := fun e => c4 (.inl (.inl e))
    have hG : FGood f := Classical.byContradiction fun e => c4 (.inr e)
    have hnd : (f.objs.map (·.name)).Nodup := hG.1.2.2.2.1
    refine c_skip ?_; refine x_seq ?_; refine c_seq ?_; refine c_reg ?_
    refine ldn rfl rfl (row_blk b2_3) rfl (cl (vs := [faceC f au cu at0 ct0 ao co]) rfl ((copy16_fn (FaceV.up hF0 k_3) hlg)) rfl (fun v6 h6 r6 => ?_))
    obtain ⟨nn6, x6⟩ := r6
    have z6 := x6.size
    have p6 := nn6.face hfn hfk hft
    have k_6 := (k_3.ext x6)
    have b2_6 := (x6.get b2_3)
    refine cl (vs := [v6]) rfl ((trim_fn p6)) rfl (fun v7 h7 r7 => ?_)
    obtain ⟨xv, x, e, rfl, p7, x7, hr7⟩ := r7
    have z7 := x7.size
    obtain ⟨au7, cu7, at7, ct7, ao7, co7, rfl⟩ := face_form p7
    have kk7 : At h7.size h7 h7 := At.refl (Nat.le_refl _)
    have k_7 := (k_6.ext x7)
    have b2_7 := (x7.get b2_6)
    refine mv rfl rfl (ext rfl rfl rfl (ext rfl rfl rfl (alc nofun rfl (fun h8 n8 => ?_))))
    have s8 : h8.size = h7.size + 1 := n8.size
    have k_8 := k_7.ext n8.ext
    have b2_8 := n8.ext.get b2_7
    have b5_8 := n8.at_
    refine stw rfl rfl rfl (ones rfl) b5_8 rfl nofun (fun h9 u9 => ?_)
    have k79 : At h7.size h7 h9 := (kk7.ext n8.ext).upd u9 (Nat.le_refl _)
    have s9 : h9.size = h8.size := u9.size
    have k_9 := k_8.upd u9 (by omega)
    have b2_9 := u9.ne b2_8 (by omega)
    have b5_9 := u9.at_
    refine asg rfl rfl ?_; refine o_nil ?_; refine x_seq ?_; refine c_seq ?_; refine c_reg ?_; refine asg rfl rfl ?_; refine o_nil ?_; refine x_seq ?_
    refine c_seq ?_; refine c_seq ?_; refine c_reg ?_; refine asg rfl rfl ?_; refine o_nil ?_; refine x_seq ?_; refine c_blk ?_
    refine c_loop (α := Nat × Heap) (fun z => [(1, str name), (2, ptr h.size 0), (5, ptr h7.size 0), (6, i64 e), (7, .bool (tb (∃ o ∈ f.objs.take z.1, o.name = name))), (8, i64 (z.1 : Nat))]) (fun z => z.2)
      (fun z => z.1 ≤ f.objs.length ∧ At h.size h z.2 ∧ At h7.size h7 z.2 ∧ z.2[h.size]? = some (.cells #[str f.name, .int .u32 f.key, .slice au f.uses.length cu, .slice at0 f.types.length ct0, .slice ao f.objs.length co] 27 (0, 0)) ∧
        z.2[h7.size]? = some (.cells #[str x.name, .int .u32 x.key, .slice au7 x.uses.length cu7, .slice at7 x.types.length ct7, .slice ao7 x.objs.length co7] 27 (0, 0))) (fun z => f.objs.length - z.1) (0, h9)
      ⟨Nat.zero_le _, k_9, k79, b2_9, b5_9⟩ ⟨rfl, rfl, rfl, rfl, congrArg (fun b => some (Value.bool b)) (tb_f (by simp)).symm, rfl, trivial⟩ rfl (fun z hz => ?_)
    obtain ⟨i, g⟩ := z
    obtain ⟨hi, kl, kx, hl2, hl5⟩ := hz
    simp only at hi kl kx hl2 hl5
    have hgl := lt_of_get hl5
    have hgn := kl.n
    change SC _ _ _ _ g
    refine c_seq ?_; refine c_seq ?_; refine c_reg ?_; refine mv rfl rfl (fa rfl rfl (ld rfl (cell hl2 rfl) rfl (lnl rfl rfl (lti rfl rfl rfl ?_))))
    refine o_nil ?_; refine x_seq ?_; refine c_cond rfl (fun c10 => ?_) (fun c10 => ?_)
    · have hlt : i < f.objs.length := by have := c10; simp only at this; omega
      obtain ⟨o, hox⟩ : ∃ o, f.objs[i]? = some o := ⟨_, List.getElem?_eq_getElem hlt⟩
      have hom : o ∈ f.objs := List.mem_of_getElem? hox
      have hfo := find_nodup hnd hom
      obtain ⟨bo, oo, cs2, ha2, hbo, hl2', hro, hR2⟩ := SliceAt.el hO0 kl hox
      subst ha2
      obtain ⟨rfl, -⟩ := hR2
      refine c_skip ?_; refine x_seq ?_
      refine c_seq ?_; refine c_blk ?_
      refine c_cut (α := Heap × Nat) (fun y => [(1, str name), (2, ptr h.size 0), (5, ptr h7.size 0), (6, i64 e), (7, .bool (tb (∃ o ∈ f.objs.take i, o.name = name))), (8, i64 (i : Nat)), (9, ptr y.2 0), (10, .bool (findO f.objs o.name).isSome)]) (fun y => y.1)
        (fun y => Ext g y.1 ∧ g.size ≤ y.2 ∧ y.1[y.2]? = some (.cells (obCells ((findO f.objs o.name).getD zeroOb)) 34 (0, 0))) ?_ ?_
      · refine c_treg (Mod (fun k => False) g) (some 14) [14, 13, 12, 11, 10, 9, 8, 1, 7, 6, 5, 4, 3, 2, 0] (.fork [0, 2, 3, 4, 5, 6, 7] 1 (.fork [] 8 (.leaf [9, 10, 11, 12, 13] [14]) 12 (.leaf [8, 9, 10, 11, 13] [14])) 12 (.leaf [1, 8, 9, 10, 11, 13] [14])) rfl (Mod.refl _ _) (by kernel_rfl) ?_
        have c0_1 : Mod (fun k => False) g g := Mod.refl _ _
        refine t_fork ?_
        refine ldnI rfl rfl (fun _ hI => row_blk (hI.get hl2 (by first | exact id | (intro e; have e : _ = _ := e; omega) | assumption))) rfl (fa rfl rfl (ldI rfl (fun _ hI => cell (hI.get hl2 (by first | exact id | (intro e; have e : _ = _ := e; omega) | assumption)) rfl) rfl ?_))
        refine mv rfl rfl (ixs rfl rfl (by omega) rfl (fa rfl rfl (ldI rfl (fun _ hI => Mod.cell hI (hro 1 _ rfl) (by first | exact id | (intro e; have e : _ = _ := e; omega) | assumption)) rfl ?_)))
        refine o_nil ?_; refine x_fork ?_ ?_
        · refine clI (vs := [faceC f au cu at0 ct0 (some ⟨bo, oo, none⟩) co]) rfl ((copy16_fn (FaceV.up hF0 kl) hlg)) (fun _ _ w => w.2) rfl (fun v11 h11 r11 => ?_)
          obtain ⟨nn11, x11⟩ := r11
          have z11 := x11.size
          have p11 := nn11.face hfn hfk hft
          have c_11 := x11
          have k_11 := (kl.ext x11)
          have hl2_11 := (x11.get hl2)
          have hl5_11 := (x11.get hl5)
          refine o_nil ?_; refine x_kT ?_; refine t_fork ?_; refine o_nil ?_; refine x_fork ?_ ?_
          · refine clEI ((find_fn p11 o.name)) rfl (fun _ x => c_11.trans (x.mod _)) rfl (fun h12 x12 => ?_)
            have s12 : h11.size ≤ h12.size := x12.size
            have c_12 := c_11.trans (x12.mod _)
            have k_12 := k_11.ext x12
            have hl2_12 := x12.get hl2_11
            have hl5_12 := x12.get hl5_11
            refine o_nil ?_; refine x_kT ?_; refine t_leaf ?_
            refine mv rfl rfl (ext rfl rfl rfl (ext rfl rfl rfl (alc (fun _ h' n' => c_12.trans (n'.ext.mod _)) rfl (fun h13 n13 => ?_))))
            have s13 : h13.size = h12.size + 1 := n13.size
            have c_13 := c_12.trans (n13.ext.mod _)
            have k_13 := k_12.ext n13.ext
            have hl2_13 := n13.ext.get hl2_12
            have hl5_13 := n13.ext.get hl5_12
            have b9_13 := n13.at_
            refine stw rfl rfl rfl (ones rfl) b9_13 rfl (fun _ h' u' => c_13.upd u' (by first | exact .inl rfl | exact .inr (by omega))) (fun h14 u14 => ?_)
            have s14 : h14.size = h13.size := u14.size
            have c_14 := c_13.upd u14 (by first | exact .inl rfl | exact .inr (by omega))
            have k_14 := k_13.upd u14 (by omega)
            have hl2_14 := u14.ne hl2_13 (by omega)
            have hl5_14 := u14.ne hl5_13 (by omega)
            have b9_14 := u14.at_
            refine o_nil ?_; refine x_tail ?_; refine asg rfl rfl ?_; refine o_nil ?_
            exact x_cut (h14, h12.size) ⟨c_14, by simp only; omega, b9_14⟩ ⟨rfl, rfl, rfl, rfl, rfl, rfl, rfl, rfl, trivial⟩ rfl
          · refine alc (fun _ h' n' => c_11.trans (n'.ext.mod _)) rfl (fun h15 n15 => ?_)
            have s15 : h15.size = h11.size + 1 := n15.size
            have c_15 := c_11.trans (n15.ext.mod _)
            have k_15 := k_11.ext n15.ext
            have hl2_15 := n15.ext.get hl2_11
            have hl5_15 := n15.ext.get hl5_11
            have b9_15 := n15.at_
            refine o_nil ?_; refine x_kT ?_; refine t_leaf ?_
            refine clEI ((find_fn (FaceV.up p11 ((At.refl (Nat.le_refl _)).ext n15.ext)) o.name)) rfl (fun _ x => c_15.trans (x.mod _)) rfl (fun h16 x16 => ?_)
            have s16 : h15.size ≤ h16.size := x16.size
            have c_16 := c_15.trans (x16.mod _)
            have k_16 := k_15.ext x16
            have hl2_16 := x16.get hl2_15
            have hl5_16 := x16.get hl5_15
            have b9_16 := x16.get b9_15
            refine mv rfl rfl (ext rfl rfl rfl (ext rfl rfl rfl (stw rfl rfl rfl (ones rfl) b9_16 rfl (fun _ h' u' => c_16.upd u' (by first | exact .inl rfl | exact .inr (by omega))) (fun h17 u17 => ?_))))
            have s17 : h17.size = h16.size := u17.size
            have c_17 := c_16.upd u17 (by first | exact .inl rfl | exact .inr (by omega))
            have k_17 := k_16.upd u17 (by omega)
            have hl2_17 := u17.ne hl2_16 (by omega)
            have hl5_17 := u17.ne hl5_16 (by omega)
            have b9_17 := u17.at_
            refine o_nil ?_; refine x_tail ?_; refine asg rfl rfl ?_; refine o_nil ?_
            exact x_cut (h17, h11.size) ⟨c_17, by simp only; omega, b9_17⟩ ⟨rfl, rfl, rfl, rfl, rfl, rfl, rfl, rfl, trivial⟩ rfl
        · refine alc (fun _ h' n' => c0_1.trans (n'.ext.mod _)) rfl (fun h18 n18 => ?_)
          have s18 : h18.size = g.size + 1 := n18.size
          have c_18 := c0_1.trans (n18.ext.mod _)
          have k_18 := kl.ext n18.ext
          have hl2_18 := n18.ext.get hl2
          have hl5_18 := n18.ext.get hl5
          have b9_18 := n18.at_
          refine o_nil ?_; refine x_kT ?_; refine t_leaf ?_
          refine clI (vs := [faceC f au cu at0 ct0 (some ⟨bo, oo, none⟩) co]) rfl ((copy16_fn (FaceV.up hF0 k_18) hlg)) (fun _ _ w => c_18.trans w.2) rfl (fun v19 h19 r19 => ?_)
          obtain ⟨nn19, x19⟩ := r19
          have z19 := x19.size
          have p19 := nn19.face hfn hfk hft
          have c_19 := c_18.trans x19
          have k_19 := (k_18.ext x19)
          have hl2_19 := (x19.get hl2_18)
          have hl5_19 := (x19.get hl5_18)
          have b9_19 := (x19.get b9_18)
          refine clEI ((find_fn p19 o.name)) rfl (fun _ x => c_19.trans (x.mod _)) rfl (fun h20 x20 => ?_)
          have s20 : h19.size ≤ h20.size := x20.size
          have c_20 := c_19.trans (x20.mod _)
          have k_20 := k_19.ext x20
          have hl2_20 := x20.get hl2_19
          have hl5_20 := x20.get hl5_19
          have b9_20 := x20.get b9_19
          refine mv rfl rfl (ext rfl rfl rfl (ext rfl rfl rfl (stw rfl rfl rfl (ones rfl) b9_20 rfl (fun _ h' u' => c_20.upd u' (by first | exact .inl rfl | exact .inr (by omega))) (fun h21 u21 => ?_))))
          have s21 : h21.size = h20.size := u21.size
          have c_21 := c_20.upd u21 (by first | exact .inl rfl | exact .inr (by omega))
          have k_21 := k_20.upd u21 (by omega)
          have hl2_21 := u21.ne hl2_20 (by omega)
          have hl5_21 := u21.ne hl5_20 (by omega)
          have b9_21 := u21.at_
          refine o_nil ?_; refine x_tail ?_; refine asg rfl rfl ?_; refine o_nil ?_
          exact x_cut (h21, g.size) ⟨c_21, Nat.le_refl _, b9_21⟩ ⟨rfl, rfl, rfl, rfl, rfl, rfl, rfl, rfl, trivial⟩ rfl
      · intro y hy
        obtain ⟨y, q9⟩ := y
        obtain ⟨xy, hq9, hb9⟩ := hy
        simp only at xy hq9 hb9
        have hzy := xy.size
        have hq9l := lt_of_get hb9
        have kl2 := kl.ext xy
        have kx2 := kx.ext xy
        have hb2 := xy.get hl2
        have hb5 := xy.get hl5
        have hroy := xy.row hro (fun e => e)
        change SC _ _ _ _ y
        refine c_seq ?_; refine c_seq ?_
        refine c_treg (Mod (fun k => False) y) (some 9) [9, 8, 7, 6, 5, 4, 3, 2, 1, 0] (.leaf [0, 1, 2, 3, 4, 5, 6, 7, 8] [9, 10, 11]) rfl (Mod.refl _ _) (by kernel_rfl) ?_
        have c0_2 : Mod (fun k => False) y y := Mod.refl _ _
        refine t_leaf ?_
        refine mv rfl rfl (nt rfl rfl (mv rfl rfl (gqf rfl rfl rfl (fun e => ldnI rfl rfl (fun _ hI => row_blk (hI.get hb9 (by first | exact id | (intro e; have e : _ = _ := e; omega) | assumption))) rfl) ?_)))
        refine gqf rfl rfl rfl (fun e => fa rfl rfl) (gqf rfl rfl rfl (fun e => ldI (cg rfl e) (fun _ hI => cell (hI.get hb2 (by first | exact id | (intro e; have e : _ = _ := e; omega) | assumption)) rfl) rfl) ?_)
        refine gqf rfl rfl rfl (fun e => mv rfl rfl) (gqf rfl rfl rfl (fun e => ixs (cg rfl e) (cg rfl e) (by omega) rfl) (gqf rfl rfl rfl (fun e => ldnI (cg rfl e) rfl (fun _ hI => Mod.row hI hroy (by first | exact id | (intro e; have e : _ = _ := e; omega) | assumption)) rfl) ?_))
        refine o_nil ?_; refine x_tail ?_
        refine gef rfl rfl rfl (fun e kk => clE ((sameO_fn ((findO f.objs o.name).getD zeroOb) o _)) (a2 (cg rfl e) (cg rfl e)) rfl kk) (fun h22 x22 => ?_)
        have s22 : y.size ≤ h22.size := x22.size
        have k_22 := kl2.ext x22
        have hb2_22 := x22.get hb2
        have hb5_22 := x22.get hb5
        have hb9_22 := x22.get hb9
        refine gqf rfl rfl rfl (fun e => nt (cg rfl e) rfl) (pko rfl rfl rfl rfl ?_)
        refine o_nil ?_; refine x_seq ?_; refine c_cond rfl (fun c23 => ?_) (fun c23 => ?_)
        · refine c_seq ?_; refine c_reg ?_; refine asg rfl rfl ?_; refine o_nil ?_; refine x_seq ?_; refine c_ret ?_; refine x_seq_ret ?_
          refine x_blk_ret ?_; refine x_seq_ret ?_; refine x_loop_ret ?_; refine x_blk_ret ?_; refine x_seq_ret ?_; refine ret1 (.inr rfl) rfl rfl ?_
          exfalso
          rw [hfo] at c23
          simp at c23
        · refine c_skip ?_; refine x_seq ?_
          refine c_cut (α := Heap × Nat) (fun y => [(1, str name), (2, ptr h.size 0), (5, ptr h7.size 0), (6, i64 e), (7, .bool (tb (∃ o ∈ f.objs.take i, o.name = name))), (8, i64 (i : Nat)), (9, ptr q9 0), (11, ptr y.2 0), (12, .bool (findO x.objs o.name).isSome)]) (fun y => y.1)
            (fun y => Ext h22 y.1 ∧ h22.size ≤ y.2 ∧ y.1[y.2]? = some (.cells (obCells ((findO x.objs o.name).getD zeroOb)) 34 (0, 0))) ?_ ?_
          · refine c_treg (Mod (fun k => False) h22) (some 13) [13, 12, 11, 10, 9, 8, 7, 6, 5, 4, 3, 2, 1, 0] (.fork [0, 1, 2, 3, 4, 5, 6] 7 (.leaf [8, 9, 10, 11, 12] [13]) 11 (.leaf [7, 8, 9, 10, 12] [13])) rfl (Mod.refl _ _) (by kernel_rfl) ?_
            have c0_3 : Mod (fun k => False) h22 h22 := Mod.refl _ _
            refine t_fork ?_
            refine ldnI rfl rfl (fun _ hI => row_blk (hI.get hb5_22 (by first | exact id | (intro e; have e : _ = _ := e; omega) | assumption))) rfl (fa rfl rfl (ldI rfl (fun _ hI => cell (hI.get hb2_22 (by first | exact id | (intro e; have e : _ = _ := e; omega) | assumption)) rfl) rfl ?_))
            refine mv rfl rfl (ixs rfl rfl (by omega) rfl (fa rfl rfl (ldI rfl (fun _ hI => Mod.cell hI ((x22.row hroy (fun e => e)) 1 _ rfl) (by first | exact id | (intro e; have e : _ = _ := e; omega) | assumption)) rfl ?_)))
            refine o_nil ?_; refine x_fork ?_ ?_
            · refine clEI ((find_fn (FaceV.up p7 (kx2.ext x22)) o.name)) rfl (fun _ x => c0_3.trans (x.mod _)) rfl (fun h24 x24 => ?_)
              have s24 : h22.size ≤ h24.size := x24.size
              have c_24 := c0_3.trans (x24.mod _)
              have k_24 := k_22.ext x24
              have hb2_24 := x24.get hb2_22
              have hb5_24 := x24.get hb5_22
              have hb9_24 := x24.get hb9_22
              refine o_nil ?_; refine x_kT ?_; refine t_leaf ?_
              refine mv rfl rfl (ext rfl rfl rfl (ext rfl rfl rfl (alc (fun _ h' n' => c_24.trans (n'.ext.mod _)) rfl (fun h25 n25 => ?_))))
              have s25 : h25.size = h24.size + 1 := n25.size
              have c_25 := c_24.trans (n25.ext.mod _)
              have k_25 := k_24.ext n25.ext
              have hb2_25 := n25.ext.get hb2_24
              have hb5_25 := n25.ext.get hb5_24
              have hb9_25 := n25.ext.get hb9_24
              have b11_25 := n25.at_
              refine stw rfl rfl rfl (ones rfl) b11_25 rfl (fun _ h' u' => c_25.upd u' (by first | exact .inl rfl | exact .inr (by omega))) (fun h26 u26 => ?_)
              have s26 : h26.size = h25.size := u26.size
              have c_26 := c_25.upd u26 (by first | exact .inl rfl | exact .inr (by omega))
              have k_26 := k_25.upd u26 (by omega)
              have hb2_26 := u26.ne hb2_25 (by omega)
              have hb5_26 := u26.ne hb5_25 (by omega)
              have hb9_26 := u26.ne hb9_25 (by omega)
              have b11_26 := u26.at_
              refine o_nil ?_; refine x_tail ?_; refine asg rfl rfl ?_; refine o_nil ?_
              exact x_cut (h26, h24.size) ⟨c_26, by simp only; omega, b11_26⟩ ⟨rfl, rfl, rfl, rfl, rfl, rfl, rfl, rfl, rfl, trivial⟩ rfl
            · refine alc (fun _ h' n' => c0_3.trans (n'.ext.mod _)) rfl (fun h27 n27 => ?_)
              have s27 : h27.size = h22.size + 1 := n27.size
              have c_27 := c0_3.trans (n27.ext.mod _)
              have k_27 := k_22.ext n27.ext
              have hb2_27 := n27.ext.get hb2_22
              have hb5_27 := n27.ext.get hb5_22
              have hb9_27 := n27.ext.get hb9_22
              have b11_27 := n27.at_
              refine o_nil ?_; refine x_kT ?_; refine t_leaf ?_
              refine clEI ((find_fn (FaceV.up p7 ((kx2.ext x22).ext n27.ext)) o.name)) rfl (fun _ x => c_27.trans (x.mod _)) rfl (fun h28 x28 => ?_)
              have s28 : h27.size ≤ h28.size := x28.size
              have c_28 := c_27.trans (x28.mod _)
              have k_28 := k_27.ext x28
              have hb2_28 := x28.get hb2_27
              have hb5_28 := x28.get hb5_27
              have hb9_28 := x28.get hb9_27
              have b11_28 := x28.get b11_27
              refine mv rfl rfl (ext rfl rfl rfl (ext rfl rfl rfl (stw rfl rfl rfl (ones rfl) b11_28 rfl (fun _ h' u' => c_28.upd u' (by first | exact .inl rfl | exact .inr (by omega))) (fun h29 u29 => ?_))))
              have s29 : h29.size = h28.size := u29.size
              have c_29 := c_28.upd u29 (by first | exact .inl rfl | exact .inr (by omega))
              have k_29 := k_28.upd u29 (by omega)
              have hb2_29 := u29.ne hb2_28 (by omega)
              have hb5_29 := u29.ne hb5_28 (by omega)
              have hb9_29 := u29.ne hb9_28 (by omega)
              have b11_29 := u29.at_
              refine o_nil ?_; refine x_tail ?_; refine asg rfl rfl ?_; refine o_nil ?_
              exact x_cut (h29, h22.size) ⟨c_29, Nat.le_refl _, b11_29⟩ ⟨rfl, rfl, rfl, rfl, rfl, rfl, rfl, rfl, rfl, trivial⟩ rfl
          · intro y2 hy2
            obtain ⟨y2, q11⟩ := y2
            obtain ⟨xy2, hq11, hc11⟩ := hy2
            simp only at xy2 hq11 hc11
            have hzy2 := xy2.size
            have kl3 := (kl2.ext x22).ext xy2
            have kx3 := (kx2.ext x22).ext xy2
            have hc2 := xy2.get (x22.get hb2)
            have hc5 := xy2.get (x22.get hb5)
            have hc9 := xy2.get (x22.get hb9)
            have hroy2 := xy2.row (x22.row hroy (fun e => e)) (fun e => e)
            change SC _ _ _ _ y2
            refine c_seq ?_; refine c_seq ?_; refine c_reg ?_
            refine mv rfl rfl (eqi rfl rfl rfl (mv rfl rfl (gqt rfl rfl rfl (fun e => mv rfl rfl) (gqt rfl rfl rfl (fun e => nt (cg rfl e) rfl) (gqt rfl rfl rfl (fun e => mv (cg rfl e) rfl) ?_)))))
            refine gqf2 rfl rfl rfl (fun e => fa rfl rfl) (gqf2 rfl rfl rfl (fun e => ld (cg rfl e) (cell hc11 rfl) rfl) (gqf2 rfl rfl rfl (fun e => fa rfl rfl) (gqf2 rfl rfl rfl (fun e => ld (cg rfl e) (cell hc9 rfl) rfl) ?_)))
            refine gqf2 rfl rfl rfl (fun e => nei (cg rfl e) (cg rfl e) rfl) (gqt rfl rfl rfl (fun e => pko (cg rfl e) rfl (cg2 rfl e) rfl) (gqt rfl rfl rfl (fun e => mv (cg rfl e) rfl) ?_))
            refine gqf2 rfl rfl rfl (fun e => fa rfl rfl) (gqf2 rfl rfl rfl (fun e => ld (cg rfl e) (cell hc11 rfl) rfl) (gqf2 rfl rfl rfl (fun e => fa rfl rfl) (gqf2 rfl rfl rfl (fun e => ld (cg rfl e) (cell hc9 rfl) rfl) ?_)))
            refine gqf2 rfl rfl rfl (fun e => nei (cg rfl e) (cg rfl e) rfl) (gqt rfl rfl rfl (fun e => pko (cg rfl e) rfl (cg2 rfl e) rfl) (pka rfl rfl rfl rfl ?_))
            refine o_nil ?_; refine x_seq ?_; refine c_cond rfl (fun c30 => ?_) (fun c30 => ?_)
            · refine c_seq ?_; refine c_reg ?_; refine asg rfl rfl ?_; refine o_nil ?_; refine x_seq ?_; refine c_ret ?_; refine x_seq_ret ?_
              refine x_blk_ret ?_; refine x_seq_ret ?_; refine x_loop_ret ?_; refine x_blk_ret ?_; refine x_seq_ret ?_
              refine ret1 (.inr rfl) rfl rfl ?_
              exfalso
              rw [hfo] at c30
              rcases hr7 with ⟨-, rfl, rfl⟩ | ⟨-, -, rfl⟩
              · have e1 : findO (trimF f).objs o.name = some (turnOb (needed f).place o) := by show findO (f.objs.map _) _ = _; rw [find_turn, hfo]; rfl
                rw [e1] at c30
                simp [turnOb] at c30
              · simp at c30
            · refine c_skip ?_; refine x_seq ?_; refine c_reg ?_
              refine mv rfl rfl (mv rfl rfl (gqf rfl rfl rfl (fun e => fa rfl rfl) (gqf rfl rfl rfl (fun e => ld (cg rfl e) (cell hc2 rfl) rfl) (gqf rfl rfl rfl (fun e => mv rfl rfl) ?_))))
              refine gqf rfl rfl rfl (fun e => ixs (cg rfl e) (cg rfl e) (by omega) rfl) (gqf rfl rfl rfl (fun e => fa (cg rfl e) rfl) (gqf rfl rfl rfl (fun e => ld (cg rfl e) (hroy2 1 _ rfl) rfl) ?_))
              refine gqf rfl rfl rfl (fun e => mv rfl rfl) (gqf rfl rfl rfl (fun e => eqs (cg rfl e) (cg rfl e) rfl) (pko rfl rfl rfl rfl (asg rfl rfl ?_)))
              refine o_nil ?_; refine x_blk ?_; refine x_seq ?_; refine c_reg ?_; refine mv rfl rfl (add rfl rfl (by omega) rfl (asg rfl rfl ?_))
              refine o_nil ?_
              have hth : ∀ b : Bool, (b = true ↔ o.name = name) → (tb (∃ o ∈ f.objs.take i, o.name = name) || b) = tb (∃ o ∈ f.objs.take (i + 1), o.name = name) := fun b hb => by
                refine tb_of ?_
                rw [Bool.or_eq_true, tb_iff, hb, show f.objs.take (i + 1) = f.objs.take i ++ [o] by rw [List.take_add_one, hox]; rfl]
                constructor
                · rintro (⟨p, hp, e⟩ | e)
                  · exact ⟨p, List.mem_append_left _ hp, e⟩
                  · exact ⟨o, by simp, e⟩
                · rintro ⟨p, hp, e⟩
                  rcases List.mem_append.1 hp with hp | hp
                  · exact .inl ⟨p, hp, e⟩
                  · rw [List.mem_singleton] at hp; subst hp; exact .inr e
              exact x_loop (i + 1, y2) ⟨hlt, kl3, kx3, hc2, hc5⟩ (by simp only; omega) ⟨rfl, rfl, rfl, rfl, congrArg (fun b => some (Value.bool b)) (hth _ (by simp)), rfl, trivial⟩ rfl
    · have hin : i = f.objs.length := by have := c10; simp only at this; omega
      subst hin
      refine c_exit ?_; refine x_seq_exit ?_; refine x_loop_exit ?_; refine x_blk_hit ?_; refine x_seq ?_; refine c_seq ?_; refine c_reg ?_
      refine ldn rfl rfl (row_blk hl2) rfl (cl (vs := [faceC f au cu at0 ct0 ao co]) rfl ((copy16_fn (FaceV.up hF0 kl) hlg)) rfl (fun v31 h31 r31 => ?_))
      obtain ⟨nn31, x31⟩ := r31
      have z31 := x31.size
      have p31 := nn31.face hfn hfk hft
      have k_31 := (kl.ext x31)
      have hl2_31 := (x31.get hl2)
      have hl5_31 := (x31.get hl5)
      refine mv rfl rfl (clE ((find_fn p31 name)) rfl rfl (fun h32 x32 => ?_))
      have s32 : h31.size ≤ h32.size := x32.size
      have k_32 := k_31.ext x32
      have hl2_32 := x32.get hl2_31
      have hl5_32 := x32.get hl5_31
      refine mv rfl rfl (ext rfl rfl rfl (ext rfl rfl rfl (alc nofun rfl (fun h33 n33 => ?_))))
      have s33 : h33.size = h32.size + 1 := n33.size
      have k_33 := k_32.ext n33.ext
      have hl2_33 := n33.ext.get hl2_32
      have hl5_33 := n33.ext.get hl5_32
      have b13_33 := n33.at_
      refine stw rfl rfl rfl (ones rfl) b13_33 rfl nofun (fun h34 u34 => ?_)
      have s34 : h34.size = h33.size := u34.size
      have k_34 := k_33.upd u34 (by omega)
      have hl2_34 := u34.ne hl2_33 (by omega)
      have hl5_34 := u34.ne hl5_33 (by omega)
      have b13_34 := u34.at_
      refine asg rfl rfl ?_; refine o_nil ?_; refine x_seq ?_; refine c_seq ?_; refine c_reg ?_
      refine mv rfl rfl (mv rfl rfl (eqb rfl rfl rfl (mv rfl rfl (getr rfl rfl rfl (fun e kk => clE (wakes16_fn) rfl rfl kk) (fun h35 x35 => ?_)))))
      have s35 : h34.size ≤ h35.size := x35.size
      have k_35 := k_34.ext x35
      have hl2_35 := x35.get hl2_34
      have hl5_35 := x35.get hl5_34
      have b13_35 := x35.get b13_34
      refine pka rfl rfl rfl rfl (asg rfl rfl ?_)
      refine o_nil ?_; refine x_seq ?_; refine c_ret ?_; refine ret1 (.inr rfl) rfl rfl ?_
      refine ⟨congrArg Value.bool ?_, (k_35).toExt⟩
      have e1 : (findO f.objs name).isSome = tb (∃ o ∈ f.objs.take f.objs.length, o.name = name) := tb_of (by rw [List.take_length]; exact find_some)
      rw [e1]; simp
end Go.Proofs.Ytgnkfegkdjfnjaa
