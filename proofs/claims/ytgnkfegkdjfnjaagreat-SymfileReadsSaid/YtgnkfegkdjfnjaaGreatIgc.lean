/- The walk of tables' Good. The walk of types' Good. The walks of the constants' small functions. The walk of consts' Good. Values that are alike. No condition but what each theorem says. -/
import Derived.Test.YtgnkfegkdjfnjaaGreatIgb
import Derived.Test.YtgnkfegkdjfnjaaGreatEng14
namespace Go.Proofs.YtgnkfegkdjfnjaaGreat
/-! The walk of tables' Good. No condition but what each theorem says. -/
section
open Go Go.Eng

set_option maxHeartbeats 4000000 in
theorem tgood_fn {h : Heap} {vt : Value} {t : List Ty} (ht : TypesAt h.size h vt t) :
    Does Tryz.prog 85 [vt] h (fun v h' => v = .bool (tb (TGood t)) ∧ Ext h h') := by
  have ht0 := ht
  obtain ⟨at0, ct0, rfl⟩ := SliceAt.form ht
  have htl : t.length ≤ maxLen := ht.1
  have hmx : maxLen = 9223372036854775807 := by decide
  have k0 : At h.size h h := At.refl (Nat.le_refl _)
  refine fn_enter (N := 92) Tryz.func85 (by kernel_rfl) rfl rfl rfl (fun w0 => ?_)
  refine c_seq ?_; refine c_reg ?_; refine bx rfl nofun rfl (fun h1 n1 => ?_)
  have s1 : h1.size = h.size + 1 := n1.size
  have k_1 := k0.ext n1.ext
  have b1_1 := n1.at_
  refine asg rfl rfl ?_; refine o_nil ?_; refine x_seq ?_
  refine c_seq ?_; refine c_seq ?_; refine c_reg ?_
  refine ld rfl (cell b1_1 rfl) rfl (lnl rfl rfl (lei rfl rfl rfl (mv rfl rfl (gqf rfl rfl rfl (fun e => ld rfl (cell b1_1 rfl) rfl) (gqf rfl rfl rfl (fun e => lnl (cg rfl e) rfl) ?_)))))
  refine gqf rfl rfl rfl (fun e => gti (cg rfl e) rfl rfl) (pko rfl rfl rfl rfl ?_)
  refine o_nil ?_; refine x_seq ?_; refine c_cond rfl (fun c2 => ?_) (fun c2 => ?_)
  · refine c_seq ?_; refine c_reg ?_; refine asg rfl rfl ?_; refine o_nil ?_; refine x_seq ?_; refine c_ret ?_; refine x_seq_ret ?_
    refine ret1 (.inr rfl) rfl rfl ?_
    exact ⟨congrArg Value.bool (tb_f (fun hg => by have := hg.1; omega)).symm, n1.ext⟩
  · have hlen : 7 ≤ t.length ∧ t.length ≤ 256 := by omega
    refine c_skip ?_; refine x_seq ?_
    refine c_seq ?_; refine c_seq ?_; refine c_reg ?_; refine ld rfl (cell b1_1 rfl) rfl (lnl rfl rfl (mv rfl rfl ?_))
    refine o_nil ?_; refine x_seq ?_; refine c_blk ?_
    refine c_loop (α := Nat × Heap) (fun s => [(1, ptr h.size 0), (17, .slice at0 t.length ct0), (18, i64 (t.length : Nat)), (19, i64 (s.1 : Nat))]) (fun s => s.2)
      (fun s => At h.size h s.2 ∧ s.2[h.size]? = some (.cells #[.slice at0 t.length ct0] 25 (0, 0)) ∧ s.1 ≤ t.length ∧ ∀ j y, j < s.1 → t[j]? = some y → NodeP t j y) (fun s => t.length - s.1) (0, h1) ⟨k_1, b1_1, Nat.zero_le _, fun j y e => absurd e (Nat.not_lt_zero _)⟩ ⟨rfl, rfl, rfl, rfl, trivial⟩ rfl (fun s hs => ?_)
    obtain ⟨i, g⟩ := s
    obtain ⟨kg, g1, hil, hup⟩ := hs
    simp only at kg g1 hil hup
    have kgn := kg.n
    have g1l := lt_of_get g1
    change SC _ _ _ _ g
    refine c_seq ?_; refine c_reg ?_; refine lti rfl rfl rfl ?_; refine o_nil ?_; refine x_seq ?_
    refine c_seq ?_; refine c_cond rfl (fun c3 => ?_) (fun c3 => ?_)
    · have hlt : i < t.length := by have := c3; simp only at this; omega
      have hxi : t[i]? = some t[i] := List.getElem?_eq_getElem hlt
      obtain ⟨b2, o2, cs2, ha2, hb2, hl2, hr2, hR2⟩ := SliceAt.el ht0 kg hxi
      generalize t[i] = x at *
      subst ha2
      have hV : TyV h.size h (.agg cs2.toArray) x := ⟨cs2, rfl, hR2⟩
      obtain ⟨hfit, vf, vp, rfl, hF, hP⟩ := hR2
      obtain ⟨a4, c4', rfl⟩ := hF.form
      obtain ⟨a5, c5', rfl⟩ := hP.form
      refine c_skip ?_; refine x_seq ?_
      refine c_seq ?_; refine c_blk ?_; refine c_seq ?_; refine c_reg ?_
      refine mv rfl rfl (ixs rfl rfl (by omega) rfl (ldn rfl rfl hr2 rfl (alc nofun rfl (fun h4 n4 => ?_))))
      have s4 : h4.size = g.size + 1 := n4.size
      have k_4 := kg.ext n4.ext
      have g1_4 := n4.ext.get g1
      have b4_4 := n4.at_
      refine asg rfl rfl (stw rfl rfl rfl (ones rfl) b4_4 rfl nofun (fun h5 u5 => ?_))
      have s5 : h5.size = h4.size := u5.size
      have k_5 := k_4.upd u5 (by omega)
      have g1_5 := u5.ne g1_4 (by omega)
      have b4_5 := u5.at_
      refine o_nil ?_; refine x_seq ?_; refine c_seq ?_; refine c_reg ?_
      refine mv rfl rfl (lei rfl rfl rfl (mv rfl rfl (gqt rfl rfl rfl (fun e => ldn rfl rfl (row_blk b4_5) rfl) (gqt rfl rfl rfl (fun e => mv rfl rfl) (getr rfl rfl rfl (fun e kk => clE ((bare_fn (hV.keep k_5.k k_5.n) _)) (a2 (cg rfl e) (cg rfl e)) rfl kk) (fun h6 x6 => ?_))))))
      have s6 : h5.size ≤ h6.size := x6.size
      have k_6 := k_5.ext x6
      have g1_6 := x6.get g1_5
      have b4_6 := x6.get b4_5
      refine gqt rfl rfl rfl (fun e => nt (cg rfl e) rfl) (pka rfl rfl rfl rfl (mv rfl rfl (gqf rfl rfl rfl (fun e => mv rfl rfl) (gqf rfl rfl rfl (fun e => gti (cg rfl e) rfl rfl) ?_))))
      refine gqf rfl rfl rfl (fun e => mv (cg rfl e) rfl) (gqt2 rfl rfl rfl (fun e => ld rfl (cell g1_6 rfl) rfl) (gqt2 rfl rfl rfl (fun e => ldn rfl rfl (row_blk b4_6) rfl) ?_))
      refine getr2 rfl rfl rfl (fun e kk => clE ((formed_fn (TypesAt.keep ht0 k_6.k k_6.n) (hV.keep k_6.k k_6.n))) (a2 (cg rfl e) (cg rfl e)) rfl kk) (fun h7 x7 => ?_)
      have s7 : h6.size ≤ h7.size := x7.size
      have k_7 := k_6.ext x7
      have g1_7 := x7.get g1_6
      have b4_7 := x7.get b4_6
      refine gqt2 rfl rfl rfl (fun e => nt (cg rfl e) rfl) (gqf rfl rfl rfl (fun e => pka (cg rfl e) (cg2 rfl e) rfl rfl) (pko rfl rfl rfl rfl ?_))
      refine o_nil ?_; refine x_seq ?_; refine c_cond rfl (fun c8 => ?_) (fun c8 => ?_)
      · refine c_seq ?_; refine c_reg ?_; refine asg rfl rfl ?_; refine o_nil ?_; refine x_seq ?_; refine c_ret ?_; refine x_blk_ret ?_
        refine x_seq_ret ?_; refine x_loop_ret ?_; refine x_blk_ret ?_; refine x_seq_ret ?_; refine ret1 (.inr rfl) rfl rfl ?_
        refine ⟨congrArg Value.bool (tb_f (fun hg => ?_)).symm, k_7.toExt⟩
        rcases hg.2.1 i x hxi with ⟨e1, e2⟩ | ⟨e1, e2⟩
        · rcases c8 with ⟨d1, d2⟩ | ⟨d1, d2⟩
          · exact d2 e2
          · omega
        · rcases c8 with ⟨d1, d2⟩ | ⟨d1, d2⟩
          · omega
          · exact d2 e2
      · have c8' : ¬ (((i : Int) ≤ 6 ∧ ¬ BareP x i) ∨ ((i : Int) > 6 ∧ ¬ FormedP t x)) := c8
        refine c_skip ?_; refine x_blk ?_; refine x_seq ?_; refine c_reg ?_; refine add rfl rfl (by omega) rfl (mv rfl rfl ?_)
        refine o_nil ?_
        refine x_loop (i + 1, h7) ⟨k_7, g1_7, hlt, fun j y hj hy => ?_⟩ (by simp only; omega) ⟨rfl, rfl, rfl, rfl, trivial⟩ rfl
        rcases Nat.lt_or_ge j i with e | e
        · exact hup j y e hy
        · obtain rfl : j = i := by have := hj; simp only at this; omega
          rw [hxi] at hy; cases hy
          rcases Int.lt_or_le 6 j with e6 | e6
          · exact .inr ⟨e6, Classical.byContradiction fun hn => c8' (.inr ⟨e6, hn⟩)⟩
          · exact .inl ⟨e6, Classical.byContradiction fun hn => c8' (.inl ⟨e6, hn⟩)⟩
    · have hi : i = t.length := by have := c3; simp only at this; omega
      subst hi
      have hall : NodesP t := fun j y hy => hup j y (List.getElem?_eq_some_iff.1 hy).1 hy
      have hval := hall.valid hlen.1
      refine c_exit ?_; refine x_seq_exit ?_; refine x_loop_exit ?_; refine x_blk_hit ?_; refine x_seq ?_; refine c_seq ?_; refine c_reg ?_
      refine ld rfl (cell g1 rfl) rfl (lnl rfl rfl (mks rfl rfl (by omega) nofun rfl (fun h9 n9 => ?_)))
      have s9 : h9.size = g.size + 1 := n9.size
      have k_9 := kg.ext n9.ext
      have g1_9 := n9.ext.get g1
      refine asg rfl rfl ?_; refine o_nil ?_; refine x_seq ?_; refine c_seq ?_; refine c_reg ?_; refine mkm nofun rfl (fun h10 n10 => ?_)
      have s10 : h10.size = h9.size + 1 := n10.size
      have k_10 := k_9.ext n10.ext
      have g1_10 := n10.ext.get g1_9
      have M46_10 : MapIs Tryz.prog 125 h10 h9.size _ := map_new n10
      refine asg rfl rfl ?_; refine o_nil ?_; refine x_seq ?_
      refine c_seq ?_; refine c_seq ?_; refine c_reg ?_; refine ld rfl (cell g1_10 rfl) rfl (lnl rfl rfl (mv rfl rfl ?_))
      refine o_nil ?_; refine x_seq ?_; refine c_blk ?_
      refine c_loop (α := Nat × List Int × Heap) (fun s => [(1, ptr h.size 0), (5, .slice (some ⟨g.size, 0, none⟩) t.length t.length), (6, .map (some h9.size)), (47, .slice at0 t.length ct0), (48, i64 (t.length : Nat)), (49, i64 (s.1 : Nat))]) (fun s => s.2.2)
        (fun s => At h.size h s.2.2 ∧ s.2.2[h.size]? = some (.cells #[.slice at0 t.length ct0] 25 (0, 0)) ∧ s.1 ≤ t.length ∧ MetAt s.2.2 g.size s.2.1 ∧ Free (edges t) t.length s.2.1 ∧ MapIs Tryz.prog 125 s.2.2 h9.size (seenV (recs (t.take s.1))) ∧ (recs (t.take s.1)).Nodup ∧ (∀ a, a < s.1 → Ends (edges t) a))
        (fun s => t.length - s.1) (0, List.replicate t.length 0, h10) ⟨k_10, g1_10, Nat.zero_le _, ?_, free_zero _ _, map_new n10, .nil, fun a e => absurd e (Nat.not_lt_zero _)⟩ ⟨rfl, rfl, rfl, rfl, rfl, rfl, trivial⟩ rfl (fun s hs => ?_)
      · refine MetAt.mod (S := fun _ => False) ?_ n10.ext (fun e => e)
        unfold MetAt
        rw [n9.at_]
        simp [icells]
      obtain ⟨i, M, g'⟩ := s
      obtain ⟨kgb, g1b, hil', hM', hfree, hmap, hnd, hends⟩ := hs
      simp only at kgb g1b hil' hM' hfree hmap hnd hends
      have kgnb := kgb.n
      have g1lb := lt_of_get g1b
      have hMl := hM'.lt
      have hml := hmap.lt
      change SC _ _ _ _ g'
      refine c_seq ?_; refine c_reg ?_; refine lti rfl rfl rfl ?_; refine o_nil ?_; refine x_seq ?_
      refine c_seq ?_; refine c_cond rfl (fun c11 => ?_) (fun c11 => ?_)
      · have hlt : i < t.length := by have := c11; simp only at this; omega
        have hxi : t[i]? = some t[i] := List.getElem?_eq_getElem hlt
        obtain ⟨b2, o2, cs2, ha2, hb2, hl2, hr2, hR2⟩ := SliceAt.el ht0 kgb hxi
        generalize t[i] = x at *
        subst ha2
        obtain ⟨hfit, vf, vp, rfl, hF, hP⟩ := hR2
        obtain ⟨a4, c4', rfl⟩ := hF.form
        obtain ⟨a5, c5', rfl⟩ := hP.form
        have hrt := recs_take hxi
        have hsp := recs_split t (i + 1)
        have hseen := seenV_le (recs (t.take i)) (recK x)
        have hstep := free_step hval hfree hlt
        have hz := zeros_le M
        have hMlen := hfree.len
        obtain ⟨hm1, hm2, hm3, hm4, hm5, hm6, hm7, hm8⟩ := hfit
        refine c_skip ?_; refine x_seq ?_
        refine c_seq ?_; refine c_blk ?_; refine c_seq ?_; refine c_reg ?_
        refine mv rfl rfl (ixs rfl rfl (by omega) rfl (ldn rfl rfl hr2 rfl (alc nofun rfl (fun h12 n12 => ?_))))
        have s12 : h12.size = g'.size + 1 := n12.size
        have k_12 := kgb.ext n12.ext
        have g1b_12 := n12.ext.get g1b
        have b8_12 := n12.at_
        refine asg rfl rfl (stw rfl rfl rfl (ones rfl) b8_12 rfl nofun (fun h13 u13 => ?_))
        have s13 : h13.size = h12.size := u13.size
        have k_13 := k_12.upd u13 (by omega)
        have g1b_13 := u13.ne g1b_12 (by omega)
        have b8_13 := u13.at_
        refine o_nil ?_; refine x_seq ?_
        refine c_seq ?_; refine c_seq ?_; refine c_reg ?_
        refine fa rfl rfl (ld rfl (cell b8_13 rfl) rfl (eqi rfl rfl rfl (mv rfl rfl (gqt rfl rfl rfl (fun e => fa rfl rfl) (gqt rfl rfl rfl (fun e => ld (cg rfl e) (cell b8_13 rfl) rfl) ?_)))))
        refine gqt rfl rfl rfl (fun e => gei (cg rfl e) rfl rfl) (pka rfl rfl rfl rfl ?_)
        refine o_nil ?_; refine x_seq ?_; refine c_cond rfl (fun c14 => ?_) (fun c14 => ?_)
        · refine c_breg (fun g => Mod (· = h9.size) h13 g ∧ MapIs Tryz.prog 125 g h9.size (seenV (recs (t.take i)))) [0, 1, 2, 3, 4, 5, 6, 7, 8, 9] 10 rfl rfl ⟨Mod.refl _ _, ((hmap.mod n12.ext (fun e => e)).mod u13.mod (fun e => by have e' : h9.size = g'.size := e; omega))⟩ (by kernel_rfl) ?_
          refine mv rfl rfl (fa rfl rfl (ldI rfl (fun _ hI => cell (hI.1.get b8_13 (by omega)) rfl) rfl (fa rfl rfl (ldI rfl (fun _ hI => cell (hI.1.get b8_13 (by omega)) rfl) rfl ?_))))
          refine bld (vs := [(0, str x.mod), (1, i64 x.desc)]) (v := recK x) rfl (fun _ => by kernel_rfl) rfl (lkI (key := recK x) rfl rfl (keyR hm1 hm8) (fun _ hI => hI.2) rfl (add rfl rfl (by omega) rfl ?_))
          refine me rfl rfl (keyR hm1 hm8) ((hmap.mod n12.ext (fun e => e)).mod u13.mod (fun e => by have e' : h9.size = g'.size := e; omega)) (fun _ h2 hm hx => ⟨hx, hm⟩) rfl (fun st15 h15 m15 p15 x15 => ?_)
          have s15 : h13.size ≤ h15.size := x15.size
          have k_15 := k_13.mod x15 (fun k e => by have := e; omega)
          have g1b_15 := x15.get g1b_13 (fun e => by have := e; omega)
          have b8_15 := x15.get b8_13 (fun e => by have := e; omega)
          refine ext rfl rfl rfl ?_; refine o_nil ?_; refine x_bar ?_; refine es rfl rfl rfl m15 p15 (fun _ _ _ _ => trivial) (fun h16 m16 x16 => ?_)
          have MM : MetAt h16 g.size M := (((hM'.mod n12.ext (fun e => e)).mod u13.mod (fun e => by have e' : g.size = g'.size := e; omega)).mod x15 (fun e => by have e' : g.size = h9.size := e; omega)).mod x16 (fun e => by have e' : g.size = h9.size := e; omega)
          have s16 : h15.size ≤ h16.size := x16.size
          have k_16 := k_15.mod x16 (fun k e => by have := e; omega)
          have g1b_16 := x16.get g1b_15 (fun e => by have := e; omega)
          have b8_16 := x16.get b8_15 (fun e => by have := e; omega)
          refine o_nil ?_; refine x_seq ?_; refine c_seq ?_; refine c_reg ?_
          refine mv rfl rfl (fa rfl rfl (ld rfl (cell b8_16 rfl) rfl (fa rfl rfl (ld rfl (cell b8_16 rfl) rfl (bld (vs := [(0, str x.mod), (1, i64 x.desc)]) (v := recK x) rfl (fun _ => by kernel_rfl) rfl ?_)))))
          refine lk rfl rfl (keyR hm1 hm8) m16 rfl (gti rfl rfl rfl (mv rfl rfl (gqf rfl rfl rfl (fun e => ld rfl (cell g1b_16 rfl) rfl) (gqf rfl rfl rfl (fun e => mv rfl rfl) ?_))))
          refine gqf rfl rfl rfl (fun e => mv rfl rfl) (glfv rfl rfl rfl (fun e kk => clv ((ends_fn ht0 hval hall.few g.size kgn (t.length + 1) i M _ (by omega) k_16 MM hMlen hlt)) (a3 (cg rfl e) (cg rfl e) (cg rfl e)) rfl kk) (fun h17 r17 z17 => ?_))
          have q17 : Mod (· = g.size) h16 h17 := (Classical.em _).elim (fun e => (r17 e).2) (fun e => by rw [z17 e]; exact Mod.refl _ _)
          have k_17 := (k_16.mod q17 (fun k e => by have := e; omega))
          have g1b_17 := (q17.get g1b_16 (fun e => by have := e; omega))
          have b8_17 := (q17.get b8_16 (fun e => by have := e; omega))
          refine gqf rfl rfl rfl (fun e => nt (cg rfl e) rfl) (pko rfl rfl rfl rfl ?_)
          refine o_nil ?_; refine x_seq ?_; refine c_cond rfl (fun c18 => ?_) (fun c18 => ?_)
          · refine c_seq ?_; refine c_reg ?_; refine asg rfl rfl ?_; refine o_nil ?_; refine x_seq ?_; refine c_ret ?_; refine x_blk_ret ?_
            refine x_seq_ret ?_; refine x_loop_ret ?_; refine x_blk_ret ?_; refine x_seq_ret ?_; refine ret1 (.inr rfl) rfl rfl ?_
            refine ⟨congrArg Value.bool (tb_f (fun hg => ?_)).symm, k_17.toExt⟩
            rcases c18 with d | d
            · rw [upd_at] at d
              have hin := seenV_pos.1 (show 0 < seenV (recs (t.take i)) (recK x) by omega)
              have hn := hg.2.2.2.1
              rw [hsp, hrt, if_pos c14, List.nodup_append, List.nodup_append] at hn
              exact hn.1.2.2 _ hin _ (by simp) rfl
            · obtain ⟨a, ha, hne⟩ := hstep.2 (by simpa using d)
              exact hne (hg.2.2.1 a ha)
          · have hout : ¬ recK x ∈ recs (t.take i) := fun e => c18 (.inl (by rw [upd_at, seenV_in e]; decide))
            have he : (endsF (edges t) (t.length + 1) i M).1 = true := Classical.byContradiction fun e => c18 (.inr e)
            obtain ⟨M17, -⟩ := r17 (fun e => c18 (.inl e))
            obtain ⟨hf2, he2⟩ := hstep.1 he
            rw [seenV_upd2 hout] at m16
            rw [if_pos c14] at hrt
            refine c_skip ?_; refine x_blk ?_; refine x_seq ?_; refine c_reg ?_; refine add rfl rfl (by omega) rfl (mv rfl rfl ?_)
            refine o_nil ?_
            refine x_loop (i + 1, (endsF (edges t) (t.length + 1) i M).2, h17) ⟨k_17, g1b_17, hlt, M17, hf2, ?_, ?_, fun a ha => ?_⟩ (by simp only; omega) ⟨rfl, rfl, rfl, rfl, rfl, rfl, trivial⟩ rfl
            · simp only; rw [hrt]; exact m16.mod q17 (fun e => by have e' : h9.size = g.size := e; omega)
            · simp only; rw [hrt, List.nodup_append]; exact ⟨hnd, by simp, fun a ha b hb e => by rw [List.mem_singleton] at hb; subst hb; subst e; exact hout ha⟩
            · rcases Nat.lt_or_ge a i with e | e
              · exact hends a e
              · have e2 : a = i := by have := ha; simp only at this; omega
                rw [e2]; exact he2
        · have MM : MetAt h13 g.size M := (hM'.mod n12.ext (fun e => e)).mod u13.mod (fun e => by have e' : g.size = g'.size := e; omega)
          refine c_skip ?_; refine x_seq ?_; refine c_seq ?_; refine c_reg ?_
          refine mv rfl rfl (fa rfl rfl (ld rfl (cell b8_13 rfl) rfl (fa rfl rfl (ld rfl (cell b8_13 rfl) rfl (bld (vs := [(0, str x.mod), (1, i64 x.desc)]) (v := recK x) rfl (fun _ => by kernel_rfl) rfl ?_)))))
          refine lk rfl rfl (keyR hm1 hm8) ((hmap.mod n12.ext (fun e => e)).mod u13.mod (fun e => by have e' : h9.size = g'.size := e; omega)) rfl (gti rfl rfl rfl (mv rfl rfl ?_))
          refine gqf rfl rfl rfl (fun e => ld rfl (cell g1b_13 rfl) rfl) (gqf rfl rfl rfl (fun e => mv rfl rfl) (gqf rfl rfl rfl (fun e => mv rfl rfl) (glfv rfl rfl rfl (fun e kk => clv ((ends_fn ht0 hval hall.few g.size kgn (t.length + 1) i M _ (by omega) k_13 MM hMlen hlt)) (a3 (cg rfl e) (cg rfl e) (cg rfl e)) rfl kk) (fun h19 r19 z19 => ?_))))
          have q19 : Mod (· = g.size) h13 h19 := (Classical.em _).elim (fun e => (r19 e).2) (fun e => by rw [z19 e]; exact Mod.refl _ _)
          have k_19 := (k_13.mod q19 (fun k e => by have := e; omega))
          have g1b_19 := (q19.get g1b_13 (fun e => by have := e; omega))
          have b8_19 := (q19.get b8_13 (fun e => by have := e; omega))
          refine gqf rfl rfl rfl (fun e => nt (cg rfl e) rfl) (pko rfl rfl rfl rfl ?_)
          refine o_nil ?_; refine x_seq ?_; refine c_cond rfl (fun c20 => ?_) (fun c20 => ?_)
          · refine c_seq ?_; refine c_reg ?_; refine asg rfl rfl ?_; refine o_nil ?_; refine x_seq ?_; refine c_ret ?_; refine x_blk_ret ?_
            refine x_seq_ret ?_; refine x_loop_ret ?_; refine x_blk_ret ?_; refine x_seq_ret ?_; refine ret1 (.inr rfl) rfl rfl ?_
            refine ⟨congrArg Value.bool (tb_f (fun hg => ?_)).symm, k_19.toExt⟩
            rcases c20 with d | d
            · have d' : 1 < seenV (recs (t.take i)) (recK x) := d
              omega
            · obtain ⟨a, ha, hne⟩ := hstep.2 (by simpa using d)
              exact hne (hg.2.2.1 a ha)
          · have he : (endsF (edges t) (t.length + 1) i M).1 = true := Classical.byContradiction fun e => c20 (.inr e)
            obtain ⟨M19, -⟩ := r19 (fun e => c20 (.inl e))
            obtain ⟨hf2, he2⟩ := hstep.1 he
            rw [if_neg c14, List.append_nil] at hrt
            refine c_skip ?_; refine x_blk ?_; refine x_seq ?_; refine c_reg ?_; refine add rfl rfl (by omega) rfl (mv rfl rfl ?_)
            refine o_nil ?_
            refine x_loop (i + 1, (endsF (edges t) (t.length + 1) i M).2, h19) ⟨k_19, g1b_19, hlt, M19, hf2, ?_, ?_, fun a ha => ?_⟩ (by simp only; omega) ⟨rfl, rfl, rfl, rfl, rfl, rfl, trivial⟩ rfl
            · simp only; rw [hrt]; exact (((hmap.mod n12.ext (fun e => e)).mod u13.mod (fun e => by have e' : h9.size = g'.size := e; omega)).mod q19 (fun e => by have e' : h9.size = g.size := e; omega))
            · simp only; rw [hrt]; exact hnd
            · rcases Nat.lt_or_ge a i with e | e
              · exact hends a e
              · have e2 : a = i := by have := ha; simp only at this; omega
                rw [e2]; exact he2
      · have hi' : i = t.length := by have := c11; simp only at this; omega
        subst hi'
        rw [List.take_length] at hnd
        refine c_exit ?_; refine x_seq_exit ?_; refine x_loop_exit ?_; refine x_blk_hit ?_; refine x_seq ?_; refine c_seq ?_; refine c_reg ?_
        refine ld rfl (cell g1b rfl) rfl (mkf (vs := []) (us := [ptr h.size 0]) rfl rfl rfl (cl (vs := [.slice at0 t.length ct0, .func (.func 99) #[] #[ptr h.size 0]]) rfl ((contT_fn (us := [ptr h.size 0]) (p := fun x => x.form = 9 ∧ ¬ FieldP t x) (TypesAt.keep ht0 kgb.k kgnb) (fun v x g2 k2 hv hm => good1_fn (ht0.keep kgb.k kgnb) k2 (cell (k2.toExt.get g1b) rfl) hv (hall.base hlen.1) hm))) rfl (fun v21 h21 r21 => ?_)))
        obtain ⟨rfl, x21⟩ := r21
        have k_21 := (kgb.ext x21)
        have g1b_21 := (x21.get g1b)
        refine nt rfl rfl (asg rfl rfl ?_)
        refine o_nil ?_; refine x_seq ?_; refine c_ret ?_; refine ret1 (.inr rfl) rfl rfl ?_
        exact ⟨vtb ⟨fun hn => ⟨hlen, hall, hends, hnd, fun x hx hf => Classical.byContradiction fun hq => hn ⟨x, hx, hf, hq⟩⟩, fun hg ⟨x, hx, hf, hq⟩ => hq (hg.2.2.2.2 x hx hf)⟩, (kgb.ext x21).toExt⟩
end

/-! The walk of types' Good. No condition but what each theorem says. -/
section
open Go Go.Eng

theorem tyGood_fn {h : Heap} {vt : Value} {t : List Ty} (ht : TypesAt h.size h vt t) :
    Does Tryz.prog 73 [vt] h (fun v h' => v = .bool (tb (TGood t)) ∧ Ext h h') := by
  refine fn_enter (N := 5) Tryz.func73 (by kernel_rfl) rfl rfl rfl (fun w0 => ?_)
  refine c_seq ?_; refine c_reg ?_; refine asg rfl rfl ?_; refine o_nil ?_; refine x_seq ?_; refine c_seq ?_; refine c_reg ?_
  refine mv rfl rfl (clE ((tgood_fn ht)) rfl rfl (fun h1 x1 => ?_))
  have s1 : h.size ≤ h1.size := x1.size
  refine asg rfl rfl ?_; refine o_nil ?_; refine x_seq ?_; refine c_ret ?_; refine ret1 (.inr rfl) rfl rfl ?_
  exact ⟨rfl, x1⟩
end

/-! The walks of the constants' small functions. No condition but what each theorem says. -/
section
open Go Go.Eng

def FitsP (n : Int) : Prop := -2147483648 ≤ n ∧ n < 2147483648
theorem fits_fn_ (n b : Int) (hb : b = 32) (h : Heap) : Does Tryz.prog 48 [i64 n, i64 b] h (fun v h' => h' = h ∧ v = .bool (tb (FitsP n))) := by
  have e1 : IntKind.i64.wrap (-1 * 2 ^ min ((32 : Int) - 1).toNat IntKind.i64.bits) = -2147483648 := by decide
  have e2 : IntKind.i64.wrap (1 * 2 ^ min ((32 : Int) - 1).toNat IntKind.i64.bits) = 2147483648 := by decide
  refine fn_enter (N := 25) Tryz.func48 (by kernel_rfl) rfl rfl rfl (fun w0 => ?_)
  refine c_seq ?_; refine c_reg ?_; refine asg rfl rfl ?_; refine o_nil ?_; refine x_seq ?_; refine c_seq ?_; refine c_reg ?_
  refine mv rfl rfl (gei rfl rfl rfl (mv rfl rfl (gqt rfl rfl rfl (fun e => mv rfl rfl) (gqt rfl rfl rfl (fun e => lei (cg rfl e) rfl rfl) (pka rfl rfl rfl rfl (mv rfl rfl ?_))))))
  refine gqt rfl rfl rfl (fun e => mv rfl rfl) (gqt rfl rfl rfl (fun e => sub (cg rfl e) rfl (by omega) rfl) (gqt rfl rfl rfl (fun e => shl rfl (cg rfl e) (by omega) rfl) ?_))
  refine gqt rfl rfl rfl (fun e => mv rfl rfl) (gqt rfl rfl rfl (fun e => lei (cg rfl e) (cg rfl e) rfl) (pka rfl rfl rfl rfl (mv rfl rfl (gqt rfl rfl rfl (fun e => mv rfl rfl) ?_))))
  refine gqt rfl rfl rfl (fun e => mv rfl rfl) (gqt rfl rfl rfl (fun e => sub (cg rfl e) rfl (by omega) rfl) (gqt rfl rfl rfl (fun e => shl rfl (cg rfl e) (by omega) rfl) ?_))
  refine gqt rfl rfl rfl (fun e => lti (cg rfl e) (cg rfl e) rfl) (pka rfl rfl rfl rfl (asg rfl rfl ?_))
  refine o_nil ?_; refine x_seq ?_; refine c_ret ?_; refine ret1 (.inr rfl) rfl rfl ?_
  exact ⟨rfl, vtb (by subst hb; unfold FitsP; rw [e1, e2]; omega)⟩
theorem fits_fn (n : Int) (h : Heap) : Does Tryz.prog 48 [i64 n, i64 32] h (fun v h' => h' = h ∧ v = .bool (tb (FitsP n))) := fits_fn_ n 32 rfl h
def StrP (s : Bytes) : Prop := s.length ≤ 64 ∧ ∀ c ∈ s, ¬ (c.toNat < 32 ∨ c.toNat = 34)
theorem string_fn (s : Bytes) (h : Heap) : Does Tryz.prog 93 [str s] h (fun v h' => h' = h ∧ v = .bool (tb (StrP s))) := by
  refine fn_enter (N := 23) Tryz.func93 (by kernel_rfl) rfl rfl rfl (fun w0 => ?_)
  refine c_seq ?_; refine c_reg ?_; refine asg rfl rfl ?_; refine o_nil ?_; refine x_seq ?_
  refine c_seq ?_; refine c_seq ?_; refine c_reg ?_; refine mv rfl rfl (lns rfl rfl (gti rfl rfl rfl ?_))
  refine o_nil ?_; refine x_seq ?_; refine c_cond rfl (fun c1 => ?_) (fun c1 => ?_)
  · refine c_seq ?_; refine c_reg ?_; refine asg rfl rfl ?_; refine o_nil ?_; refine x_seq ?_; refine c_ret ?_; refine x_seq_ret ?_
    refine ret1 (.inr rfl) rfl rfl ?_
    exact ⟨rfl, congrArg Value.bool (tb_f (fun hs => by have := hs.1; omega)).symm⟩
  · refine c_skip ?_; refine x_seq ?_
    refine c_seq ?_; refine c_seq ?_; refine c_reg ?_; refine asg rfl rfl ?_; refine o_nil ?_; refine x_seq ?_; refine c_blk ?_
    refine c_loop (α := Nat) (fun i => [(0, str s), (3, i64 (i : Nat))]) (fun _ => h) (fun i => i ≤ s.length ∧ upTo s (fun c => ¬ (c.toNat < 32 ∨ c.toNat = 34)) i) (fun i => s.length - i) 0 ⟨Nat.zero_le _, upTo_zero _ _⟩ ⟨rfl, rfl, trivial⟩ rfl (fun i hi => ?_)
    refine c_seq ?_; refine c_seq ?_; refine c_reg ?_; refine mv rfl rfl (mv rfl rfl (lns rfl rfl (lti rfl rfl rfl ?_)))
    refine o_nil ?_; refine x_seq ?_; refine c_cond rfl (fun c2 => ?_) (fun c2 => ?_)
    · have hlt : i < s.length := by have := c2; omega
      have hsi := getq hlt
      refine c_skip ?_; refine x_seq ?_
      refine c_seq ?_; refine c_blk ?_; refine c_seq ?_; refine c_reg ?_
      refine mv rfl rfl (mv rfl rfl (idx rfl rfl (by omega) hsi rfl (lti rfl rfl rfl (mv rfl rfl (gqf rfl rfl rfl (fun e => mv rfl rfl) (gqf rfl rfl rfl (fun e => mv rfl rfl) ?_))))))
      refine gqf rfl rfl rfl (fun e => idx (cg rfl e) (cg rfl e) (by omega) hsi rfl) (gqf rfl rfl rfl (fun e => eqi (cg rfl e) rfl rfl) (pko rfl rfl rfl rfl ?_))
      refine o_nil ?_; refine x_seq ?_; refine c_cond rfl (fun c3 => ?_) (fun c3 => ?_)
      · refine c_seq ?_; refine c_reg ?_; refine asg rfl rfl ?_; refine o_nil ?_; refine x_seq ?_; refine c_ret ?_; refine x_blk_ret ?_
        refine x_seq_ret ?_; refine x_loop_ret ?_; refine x_blk_ret ?_; refine x_seq_ret ?_; refine ret1 (.inr rfl) rfl rfl ?_
        refine ⟨rfl, congrArg Value.bool (tb_f (fun hs => ?_)).symm⟩
        exact hs.2 _ (List.mem_of_getElem? hsi) (by omega)
      · refine c_skip ?_; refine x_blk ?_; refine x_seq ?_; refine c_reg ?_; refine mv rfl rfl (add rfl rfl (by omega) rfl (asg rfl rfl ?_))
        refine o_nil ?_
        refine x_loop (i + 1) ⟨hlt, (upTo_succ hsi).2 ⟨hi.2, fun e => c3 (by omega)⟩⟩ (by omega) ⟨rfl, rfl, trivial⟩ rfl
    · refine c_exit ?_; refine x_seq_exit ?_; refine x_loop_exit ?_; refine x_blk_hit ?_; refine x_seq ?_; refine c_seq ?_; refine c_reg ?_
      refine asg rfl rfl ?_; refine o_nil ?_; refine x_seq ?_; refine c_ret ?_; refine ret1 (.inr rfl) rfl rfl ?_
      refine ⟨rfl, congrArg Value.bool (tb_t ⟨by omega, ?_⟩).symm⟩
      have hi2 : i = s.length := by have := c2; have := hi.1; omega
      have := hi.2
      rw [hi2] at this
      exact upTo_all.1 this
end

/-! The walk of consts' Good. No condition but what each theorem says. -/
section
open Go Go.Eng

def valV (x : Val) : Value := .agg #[i64 x.form, i64 x.n, str x.text]
def NumP (x : Val) : Prop := (x.form = 1 ∧ FitsP x.n) ∨ (x.form = 2 ∧ (x.n = 0 ∨ x.n = 1)) ∨ (x.form = 3 ∧ 0 ≤ x.n ∧ x.n < 256) ∨ (x.form = 4 ∧ 0 ≤ x.n ∧ x.n < 4294967296) ∨ (x.form = 5 ∧ x.n = 0)
def ConstP (x : Val) : Prop := (x.form = 6 ∧ x.n = 0 ∧ StrP x.text) ∨ (x.text = [] ∧ NumP x)
theorem const_fn (x : Val) (hl : x.text.length ≤ maxLen) (h : Heap) : Does Tryz.prog 86 [valV x] h (fun v h' => v = .bool (tb (ConstP x)) ∧ Ext h h') := by
  have hmx : maxLen = 9223372036854775807 := by decide
  refine fn_enter (N := 81) Tryz.func86 (by kernel_rfl) rfl rfl rfl (fun w0 => ?_)
  refine c_seq ?_; refine c_reg ?_; refine bx rfl nofun rfl (fun h1 n1 => ?_)
  have s1 : h1.size = h.size + 1 := n1.size
  have b1_1 := n1.at_
  refine asg rfl rfl ?_; refine o_nil ?_; refine x_seq ?_
  refine c_seq ?_; refine c_seq ?_; refine c_reg ?_; refine fa rfl rfl (ld rfl (cell b1_1 rfl) rfl (eqi rfl rfl rfl ?_))
  refine o_nil ?_; refine x_seq ?_; refine c_cond rfl (fun c2 => ?_) (fun c2 => ?_)
  · refine c_seq ?_; refine c_seq ?_; refine c_reg ?_
    refine fa rfl rfl (ld rfl (cell b1_1 rfl) rfl (nei rfl rfl rfl (mv rfl rfl (gqf rfl rfl rfl (fun e => fa rfl rfl) (gqf rfl rfl rfl (fun e => ld (cg rfl e) (cell b1_1 rfl) rfl) ?_)))))
    refine gqf rfl rfl rfl (fun e => lns (cg rfl e) rfl) (gqf rfl rfl rfl (fun e => gti (cg rfl e) rfl rfl) (pko rfl rfl rfl rfl ?_))
    refine o_nil ?_; refine x_seq ?_; refine c_cond rfl (fun c3 => ?_) (fun c3 => ?_)
    · refine c_seq ?_; refine c_reg ?_; refine asg rfl rfl ?_; refine o_nil ?_; refine x_seq ?_; refine c_ret ?_; refine x_seq_ret ?_
      refine x_seq_ret ?_; refine ret1 (.inr rfl) rfl rfl ?_
      refine ⟨congrArg Value.bool (tb_f (fun hs => ?_)).symm, n1.ext⟩
      rcases hs with ⟨-, h2, h3⟩ | ⟨-, h2⟩
      · have := h3.1; omega
      · unfold NumP at h2; omega
    · refine c_skip ?_; refine x_seq ?_
      refine c_seq ?_; refine c_seq ?_; refine c_reg ?_; refine fa rfl rfl (ld rfl (cell b1_1 rfl) rfl (lns rfl rfl (mv rfl rfl ?_)))
      refine o_nil ?_; refine x_seq ?_; refine c_blk ?_
      refine c_loop (α := Nat) (fun i => [(1, ptr h.size 0), (18, i64 (x.text.length : Nat)), (19, i64 (i : Nat))]) (fun _ => h1) (fun i => i ≤ x.text.length ∧ upTo x.text (fun c => ¬ (c.toNat < 32 ∨ c.toNat = 34)) i) (fun i => x.text.length - i) 0 ⟨Nat.zero_le _, upTo_zero _ _⟩ ⟨rfl, rfl, rfl, trivial⟩ rfl (fun i hi => ?_)
      refine c_seq ?_; refine c_reg ?_; refine lti rfl rfl rfl ?_; refine o_nil ?_; refine x_seq ?_
      refine c_seq ?_; refine c_cond rfl (fun c4 => ?_) (fun c4 => ?_)
      · have hlt : i < x.text.length := by have := c4; omega
        have hsi := getq hlt
        refine c_skip ?_; refine x_seq ?_
        refine c_seq ?_; refine c_blk ?_; refine c_seq ?_; refine c_reg ?_; refine mv rfl rfl (asg rfl rfl ?_)
        refine o_nil ?_; refine x_seq ?_; refine c_seq ?_; refine c_reg ?_
        refine fa rfl rfl (ld rfl (cell b1_1 rfl) rfl (mv rfl rfl (idx rfl rfl (by omega) hsi rfl (lti rfl rfl rfl (mv rfl rfl (gqf rfl rfl rfl (fun e => fa rfl rfl) (gqf rfl rfl rfl (fun e => ld (cg rfl e) (cell b1_1 rfl) rfl) ?_)))))))
        refine gqf rfl rfl rfl (fun e => mv rfl rfl) (gqf rfl rfl rfl (fun e => idx (cg rfl e) (cg rfl e) (by omega) hsi rfl) (gqf rfl rfl rfl (fun e => eqi (cg rfl e) rfl rfl) ?_))
        refine pko rfl rfl rfl rfl ?_; refine o_nil ?_; refine x_seq ?_; refine c_cond rfl (fun c5 => ?_) (fun c5 => ?_)
        · refine c_seq ?_; refine c_reg ?_; refine asg rfl rfl ?_; refine o_nil ?_; refine x_seq ?_; refine c_ret ?_; refine x_blk_ret ?_
          refine x_seq_ret ?_; refine x_loop_ret ?_; refine x_blk_ret ?_; refine x_seq_ret ?_; refine x_seq_ret ?_; refine ret1 (.inr rfl) rfl rfl ?_
          refine ⟨congrArg Value.bool (tb_f (fun hs => ?_)).symm, n1.ext⟩
          rcases hs with ⟨-, -, h3⟩ | ⟨-, h2⟩
          · exact h3.2 _ (List.mem_of_getElem? hsi) (by omega)
          · unfold NumP at h2; omega
        · refine c_skip ?_; refine x_blk ?_; refine x_seq ?_; refine c_reg ?_; refine add rfl rfl (by omega) rfl (mv rfl rfl ?_)
          refine o_nil ?_
          refine x_loop (i + 1) ⟨hlt, (upTo_succ hsi).2 ⟨hi.2, fun e => c5 (by omega)⟩⟩ (by omega) ⟨rfl, rfl, rfl, trivial⟩ rfl
      · refine c_exit ?_; refine x_seq_exit ?_; refine x_loop_exit ?_; refine x_blk_hit ?_; refine x_seq ?_; refine c_seq ?_; refine c_reg ?_
        refine asg rfl rfl ?_; refine o_nil ?_; refine x_seq ?_; refine c_ret ?_; refine x_seq_ret ?_; refine ret1 (.inr rfl) rfl rfl ?_
        refine ⟨congrArg Value.bool (tb_t (.inl ⟨c2, by omega, by omega, ?_⟩)).symm, n1.ext⟩
        have hi2 : i = x.text.length := by have := c4; have := hi.1; omega
        have := hi.2
        rw [hi2] at this
        exact upTo_all.1 this
  · refine c_skip ?_; refine x_seq ?_
    refine c_seq ?_; refine c_seq ?_; refine c_reg ?_; refine fa rfl rfl (ld rfl (cell b1_1 rfl) rfl (nes rfl rfl rfl ?_))
    refine o_nil ?_; refine x_seq ?_; refine c_cond rfl (fun c6 => ?_) (fun c6 => ?_)
    · refine c_seq ?_; refine c_reg ?_; refine asg rfl rfl ?_; refine o_nil ?_; refine x_seq ?_; refine c_ret ?_; refine x_seq_ret ?_
      refine ret1 (.inr rfl) rfl rfl ?_
      refine ⟨congrArg Value.bool (tb_f (fun hs => ?_)).symm, n1.ext⟩
      rcases hs with ⟨h2, -⟩ | ⟨h2, -⟩
      · exact c2 h2
      · exact c6 h2
    · have c6 : x.text = [] := Classical.not_not.1 c6
      have hiff : ConstP x ↔ NumP x := ⟨fun e => by rcases e with ⟨e, -⟩ | ⟨-, e⟩; exact absurd e c2; exact e, fun e => .inr ⟨c6, e⟩⟩
      refine c_skip ?_; refine x_seq ?_
      refine c_seq ?_; refine c_seq ?_; refine c_reg ?_; refine fa rfl rfl (ld rfl (cell b1_1 rfl) rfl ?_)
      refine o_nil ?_; refine x_seq ?_; refine c_blk ?_; refine c_seq ?_; refine c_reg ?_; refine eqi rfl rfl rfl (asg rfl rfl ?_)
      refine o_nil ?_; refine x_seq ?_; refine c_cond rfl (fun c7 => ?_) (fun c7 => ?_)
      · refine c_seq ?_; refine c_reg ?_; refine fa rfl rfl (ld rfl (cell b1_1 rfl) rfl (clp (fits_fn _ _) rfl rfl (asg rfl rfl ?_)))
        refine o_nil ?_; refine x_seq ?_; refine c_ret ?_; refine x_blk_ret ?_; refine x_seq_ret ?_; refine ret1 (.inr rfl) rfl rfl ?_
        exact ⟨vtb (by rw [hiff]; unfold NumP FitsP; omega), n1.ext⟩
      · refine c_seq ?_; refine c_reg ?_; refine eqi rfl rfl rfl (asg rfl rfl ?_)
        refine o_nil ?_; refine x_seq ?_; refine c_cond rfl (fun c8 => ?_) (fun c8 => ?_)
        · refine c_seq ?_; refine c_reg ?_
          refine fa rfl rfl (ld rfl (cell b1_1 rfl) rfl (eqi rfl rfl rfl (mv rfl rfl (gqf rfl rfl rfl (fun e => fa rfl rfl) (gqf rfl rfl rfl (fun e => ld (cg rfl e) (cell b1_1 rfl) rfl) ?_)))))
          refine gqf rfl rfl rfl (fun e => eqi (cg rfl e) rfl rfl) (pko rfl rfl rfl rfl (asg rfl rfl ?_))
          refine o_nil ?_; refine x_seq ?_; refine c_ret ?_; refine x_blk_ret ?_; refine x_seq_ret ?_; refine ret1 (.inr rfl) rfl rfl ?_
          exact ⟨vtb (by rw [hiff]; unfold NumP; omega), n1.ext⟩
        · refine c_seq ?_; refine c_reg ?_; refine eqi rfl rfl rfl (asg rfl rfl ?_)
          refine o_nil ?_; refine x_seq ?_; refine c_cond rfl (fun c9 => ?_) (fun c9 => ?_)
          · refine c_seq ?_; refine c_reg ?_
            refine fa rfl rfl (ld rfl (cell b1_1 rfl) rfl (fa rfl rfl (ld rfl (cell b1_1 rfl) rfl (cvi rfl rfl (cvi rfl rfl (eqi rfl rfl rfl (asg rfl rfl ?_)))))))
            refine o_nil ?_; refine x_seq ?_; refine c_ret ?_; refine x_blk_ret ?_; refine x_seq_ret ?_; refine ret1 (.inr rfl) rfl rfl ?_
            exact ⟨vtb (by rw [hiff]; unfold NumP; unfold FitsP; simp only [IntKind.wrap, IntKind.signed, IntKind.bits, Bool.false_and, Bool.false_eq_true, if_false, Bool.true_and, decide_eq_true_eq]; omega), n1.ext⟩
          · refine c_seq ?_; refine c_reg ?_; refine eqi rfl rfl rfl (asg rfl rfl ?_)
            refine o_nil ?_; refine x_seq ?_; refine c_cond rfl (fun c10 => ?_) (fun c10 => ?_)
            · refine c_seq ?_; refine c_reg ?_
              refine fa rfl rfl (ld rfl (cell b1_1 rfl) rfl (fa rfl rfl (ld rfl (cell b1_1 rfl) rfl (cvi rfl rfl (cvi rfl rfl (eqi rfl rfl rfl (asg rfl rfl ?_)))))))
              refine o_nil ?_; refine x_seq ?_; refine c_ret ?_; refine x_blk_ret ?_; refine x_seq_ret ?_; refine ret1 (.inr rfl) rfl rfl ?_
              exact ⟨vtb (by rw [hiff]; unfold NumP; unfold FitsP; simp only [IntKind.wrap, IntKind.signed, IntKind.bits, Bool.false_and, Bool.false_eq_true, if_false, Bool.true_and, decide_eq_true_eq]; omega), n1.ext⟩
            · refine c_skip ?_; refine x_blk ?_; refine x_seq ?_; refine c_seq ?_; refine c_reg ?_
              refine fa rfl rfl (ld rfl (cell b1_1 rfl) rfl (eqi rfl rfl rfl (mv rfl rfl (gqt rfl rfl rfl (fun e => fa rfl rfl) (gqt rfl rfl rfl (fun e => ld (cg rfl e) (cell b1_1 rfl) rfl) ?_)))))
              refine gqt rfl rfl rfl (fun e => eqi (cg rfl e) rfl rfl) (pka rfl rfl rfl rfl (asg rfl rfl ?_))
              refine o_nil ?_; refine x_seq ?_; refine c_ret ?_; refine ret1 (.inr rfl) rfl rfl ?_
              exact ⟨vtb (by rw [hiff]; unfold NumP; omega), n1.ext⟩
end

/-! Values that are alike. No condition but what each theorem says. -/
section
open Go Go.Eng

instance seV : SE Tryz.prog 56 := ⟨by kernel_rfl⟩
theorem val_eq (x y : Val) (w : World) : (Op.equalIn 10000 56 (valV x) (valV y)).run Tryz.prog w = .ok (x.form == y.form && (x.n == y.n && x.text == y.text)) w := by
  unfold valV
  rw [run_equalIn_struct w 9999 56 _ _ (by kernel_rfl) (by kernel_rfl)]
  simp only [Program.fieldsOf, Tryz.underlying56]
  have p3 : ∀ (cs : Array Value) (o : Nat) (v : Value) (w : World), cs[o]? = some v → (part 3 cs o).run Tryz.prog w = .ok v w := fun cs o v w e => by simp [part, isAgg, run_underlying Tryz.underlying3, e]
  have p9 : ∀ (cs : Array Value) (o : Nat) (v : Value) (w : World), cs[o]? = some v → (part 9 cs o).run Tryz.prog w = .ok v w := fun cs o v w e => by simp [part, isAgg, run_underlying Tryz.underlying9, e]
  have q3 : ∀ (a b : Int) (w : World), (Op.equalIn 9999 3 (i64 a) (i64 b)).run Tryz.prog w = .ok (a == b) w := fun a b w => run_equalIn_int w 9998 3 .i64 .i64 a b Tryz.underlying3
  have q9 : ∀ (a b : Bytes) (w : World), (Op.equalIn 9999 9 (str a) (str b)).run Tryz.prog w = .ok (a == b) w := fun a b w => by
    rw [run_equalIn_string w 9998 9 _ _ Tryz.underlying9, toList_mk, toList_mk]
  simp [Op.eqFields, p3, p9, q3, q9]
  by_cases h1 : x.form = y.form <;> by_cases h2 : x.n = y.n <;> by_cases h3 : x.text = y.text <;> simp [h1, h2, h3]
end
end Go.Proofs.YtgnkfegkdjfnjaaGreat
