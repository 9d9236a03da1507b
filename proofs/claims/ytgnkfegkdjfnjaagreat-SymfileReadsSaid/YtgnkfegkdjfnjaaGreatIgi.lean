/- The walks of what is too large, of what tells interfaces alike, of what copies one. The walks of what tells interfaces alike, and of what copies one. The walks of what copies lists. No condition but what each theorem says. -/
import Derived.Test.YtgnkfegkdjfnjaaGreatIgh
namespace Go.Proofs.YtgnkfegkdjfnjaaGreat
/-! The walks of what is too large, of what tells interfaces alike, of what copies one. No condition but what each theorem says. -/
section
open Go Go.Eng

def weigh (x : Ty) : Nat := x.fields.length + x.params.length + x.name.length / 50 + x.mod.length / 50
def totalW (t : List Ty) : Nat := (t.map weigh).sum
def Large13P (t : List Ty) : Prop := 300 < t.length ∨ 3000 < totalW t
def TSized (t : List Ty) : Prop := ∀ x ∈ t, x.fields.length ≤ 140737488355328 ∧ x.params.length ≤ 140737488355328
theorem total_take {t : List Ty} {i : Nat} {x : Ty} (h : t[i]? = some x) : totalW (t.take (i + 1)) = totalW (t.take i) + weigh x := by
  unfold totalW; rw [List.take_add_one, h]; simp
theorem total_le {t : List Ty} (i : Nat) : totalW (t.take i) ≤ totalW t := by
  have : totalW t = totalW (t.take i) + totalW (t.drop i) := by unfold totalW; rw [← List.sum_append, ← List.map_append, List.take_append_drop]
  omega
theorem weigh_le {t : List Ty} {x : Ty} (h : x ∈ t) : weigh x ≤ totalW t := by
  obtain ⟨i, hi⟩ := List.mem_iff_getElem?.1 h
  have h1 := total_take hi
  have h2 := total_le (t := t) (i + 1)
  omega
theorem tdiv50 (n : Nat) (h : n ≤ 9223372036854775807) : IntKind.i64.wrap ((n : Int).tdiv 50) = ((n / 50 : Nat) : Int) := by
  have e : ((n : Int).tdiv 50) = ((n / 50 : Nat) : Int) := by rw [Int.tdiv_eq_ediv_of_nonneg (by omega)]; omega
  rw [e, IntKind.wrap_i64]; omega
theorem not_large {t : List Ty} (h : ¬ Large13P t) : t.length ≤ 300 ∧ ∀ x ∈ t, x.fields.length ≤ 3000 ∧ x.params.length ≤ 3000 := by
  unfold Large13P at h
  refine ⟨by omega, fun x hx => ?_⟩
  have := weigh_le hx
  unfold weigh at this
  omega
def Large16P (f : Face) : Prop := (((100 < f.uses.length ∨ 200 < f.objs.length) ∨ 5000 < f.name.length) ∨ Large13P f.types) ∨ (∃ o ∈ f.objs, 500 < o.name.length ∨ 500 < o.val.text.length) ∨ ∃ u ∈ f.uses, 500 < u.name.length
theorem tables_fn {h : Heap} {vx vy : Value} {s t : List Ty} (hs : TypesAt h.size h vx s) (ht : TypesAt h.size h vy t) : Does Tryz.prog 32 [vx, vy] h (fun v h' => v = .bool (tb (s = t)) ∧ Ext h h') := by
  have hs0 := hs
  have ht0 := ht
  have hsl := hs.1
  have hmx : maxLen = 9223372036854775807 := by decide
  have k0 : At h.size h h := At.refl (Nat.le_refl _)
  obtain ⟨at0, ct0, rfl⟩ := SliceAt.form ht
  obtain ⟨as0, cs0, rfl⟩ := SliceAt.form hs
  refine fn_enter (N := 27) Tryz.func32 (by kernel_rfl) rfl rfl rfl (fun w0 => ?_)
  refine c_seq ?_; refine c_reg ?_; refine asg rfl rfl ?_; refine o_nil ?_; refine x_seq ?_
  refine c_seq ?_; refine c_seq ?_; refine c_reg ?_; refine mv rfl rfl (lnl rfl rfl (mv rfl rfl (lnl rfl rfl (nei rfl rfl rfl ?_))))
  refine o_nil ?_; refine x_seq ?_; refine c_cond rfl (fun c1 => ?_) (fun c1 => ?_)
  · refine c_seq ?_; refine c_reg ?_; refine asg rfl rfl ?_; refine o_nil ?_; refine x_seq ?_; refine c_ret ?_; refine x_seq_ret ?_
    refine ret1 (.inr rfl) rfl rfl ?_
    exact ⟨congrArg Value.bool (tb_f (fun e => c1 (by rw [e]))).symm, (k0).toExt⟩
  · have hl : s.length = t.length := by omega
    refine c_skip ?_; refine x_seq ?_
    refine c_seq ?_; refine c_seq ?_; refine c_reg ?_; refine asg rfl rfl ?_; refine o_nil ?_; refine x_seq ?_; refine c_blk ?_
    refine c_loop (α := Nat × Heap) (fun y => [(0, .slice as0 s.length cs0), (1, .slice at0 t.length ct0), (5, i64 (y.1 : Nat))]) (fun y => y.2) (fun y => At h.size h y.2 ∧ y.1 ≤ s.length ∧ ∀ j, j < y.1 → s[j]? = t[j]?) (fun y => s.length - y.1) (0, h) ⟨k0, Nat.zero_le _, fun j e => absurd e (Nat.not_lt_zero _)⟩ ⟨rfl, rfl, rfl, trivial⟩ rfl (fun y hy => ?_)
    obtain ⟨i, g⟩ := y
    obtain ⟨kg, hil, hup⟩ := hy
    simp only at kg hil hup
    have kgn := kg.n
    change SC _ _ _ _ g
    refine c_seq ?_; refine c_seq ?_; refine c_reg ?_; refine mv rfl rfl (mv rfl rfl (lnl rfl rfl (lti rfl rfl rfl ?_)))
    refine o_nil ?_; refine x_seq ?_; refine c_cond rfl (fun c2 => ?_) (fun c2 => ?_)
    · have hlt : i < s.length := by have := c2; simp only at this; omega
      have hx : s[i]? = some s[i] := List.getElem?_eq_getElem hlt
      have hy : t[i]? = some (t[i]'(by omega)) := List.getElem?_eq_getElem _
      obtain ⟨b2, o2, cs2, ha2, hb2, hl2, hr2, hR2⟩ := SliceAt.el hs0 kg hx
      obtain ⟨b3, o3, cs3, ha3, hb3, hl3, hr3, hR3⟩ := SliceAt.el ht0 kg hy
      generalize s[i] = x at *
      generalize t[i]'(by omega) = y at *
      subst ha2
      subst ha3
      have hV2 : TyV h.size h (.agg cs2.toArray) x := ⟨cs2, rfl, hR2⟩
      have hV3 : TyV h.size h (.agg cs3.toArray) y := ⟨cs3, rfl, hR3⟩
      obtain ⟨-, vf, vp, rfl, -⟩ := hR2
      obtain ⟨-, vf', vp', rfl, -⟩ := hR3
      refine c_skip ?_; refine x_seq ?_
      refine c_seq ?_; refine c_blk ?_; refine c_seq ?_
      refine c_treg (Mod (fun k => False) g) (some 8) [8, 7, 6, 5, 4, 3, 2, 1, 0] (.leaf [0, 1, 2, 3, 4, 5, 6, 7] [8, 9]) rfl (Mod.refl _ _) (by kernel_rfl) ?_
      have c0_1 : Mod (fun k => False) g g := Mod.refl _ _
      refine t_leaf ?_
      refine mv rfl rfl (mv rfl rfl (ixs rfl rfl (by omega) rfl (ldnI rfl rfl (fun _ hI => Mod.row hI hr2 (by first | exact id | (intro e; have e : _ = _ := e; omega) | assumption)) rfl ?_)))
      refine mv rfl rfl (mv rfl rfl (ixs rfl rfl (by omega) rfl (ldnI rfl rfl (fun _ hI => Mod.row hI hr3 (by first | exact id | (intro e; have e : _ = _ := e; omega) | assumption)) rfl ?_)))
      refine o_nil ?_; refine x_tail ?_
      refine clE ((alike_fn (TyV.keep hV2 (At.k kg) (At.n kg)) (TyV.keep hV3 (At.k kg) (At.n kg)))) rfl rfl (fun h3 x3 => ?_)
      have s3 : g.size ≤ h3.size := x3.size
      have k_3 := kg.ext x3
      refine nt rfl rfl ?_; refine o_nil ?_; refine x_seq ?_; refine c_cond rfl (fun c4 => ?_) (fun c4 => ?_)
      · refine c_seq ?_; refine c_reg ?_; refine asg rfl rfl ?_; refine o_nil ?_; refine x_seq ?_; refine c_ret ?_; refine x_blk_ret ?_
        refine x_seq_ret ?_; refine x_loop_ret ?_; refine x_blk_ret ?_; refine x_seq_ret ?_; refine ret1 (.inr rfl) rfl rfl ?_
        exact ⟨congrArg Value.bool (tb_f (fun e => c4 (by rw [e, hy] at hx; exact (Option.some.inj hx).symm))).symm, (k_3).toExt⟩
      · refine c_skip ?_; refine x_blk ?_; refine x_seq ?_; refine c_reg ?_; refine mv rfl rfl (add rfl rfl (by omega) rfl (asg rfl rfl ?_))
        refine o_nil ?_
        refine x_loop (i + 1, h3) ⟨k_3, hlt, fun j hj => ?_⟩ (by simp only; omega) ⟨rfl, rfl, rfl, trivial⟩ rfl
        rcases Nat.lt_or_ge j i with e | e
        · exact hup j e
        · obtain rfl : j = i := by have := hj; simp only at this; omega
          rw [hx, hy, Classical.not_not.1 c4]
    · have hie : i = s.length := by have := c2; simp only at this; omega
      subst hie
      refine c_exit ?_; refine x_seq_exit ?_; refine x_loop_exit ?_; refine x_blk_hit ?_; refine x_seq ?_; refine c_seq ?_; refine c_reg ?_
      refine asg rfl rfl ?_; refine o_nil ?_; refine x_seq ?_; refine c_ret ?_; refine ret1 (.inr rfl) rfl rfl ?_
      exact ⟨congrArg Value.bool (tb_t (upto_eq hl hup)).symm, (kg).toExt⟩
end

/-! The walks of what tells interfaces alike, and of what copies one. No condition but what each theorem says. -/
section
open Go Go.Eng

theorem face_eq {f g : Face} : f = g ↔ ((((f.name = g.name ∧ f.key = g.key) ∧ f.uses = g.uses) ∧ f.objs = g.objs) ∧ f.types = g.types) := by
  cases f; cases g
  simp only [Face.mk.injEq]
  constructor
  · exact fun ⟨a, b, c, d, e⟩ => ⟨⟨⟨⟨a, b⟩, c⟩, e⟩, d⟩
  · exact fun ⟨⟨⟨⟨a, b⟩, c⟩, e⟩, d⟩ => ⟨a, b, c, d, e⟩
set_option maxHeartbeats 2000000 in
theorem same16_fn {h : Heap} {vx vy : Value} {f g : Face} (hx : FaceV h.size h vx f) (hy : FaceV h.size h vy g) : Does Tryz.prog 7 [vx, vy] h (fun v h' => v = .bool (tb (f = g)) ∧ Ext h h') := by
  have hmx : maxLen = 9223372036854775807 := by decide
  have k0 : At h.size h h := At.refl (Nat.le_refl _)
  obtain ⟨vu, vt, vo, rfl, hn, hk, hU, hT, hO⟩ := hx
  obtain ⟨vu', vt', vo', rfl, hn', hk', hU', hT', hO'⟩ := hy
  have hO0 := hO
  have hU0 := hU
  have hT0 := hT
  have hO0' := hO'
  have hU0' := hU'
  have hT0' := hT'
  obtain ⟨ao, co, rfl⟩ := hO.form
  obtain ⟨au, cu, rfl⟩ := hU.form
  obtain ⟨at0, ct0, rfl⟩ := SliceAt.form hT
  obtain ⟨ao', co', rfl⟩ := hO'.form
  obtain ⟨au', cu', rfl⟩ := hU'.form
  obtain ⟨at0', ct0', rfl⟩ := SliceAt.form hT'
  have hol := hO.1
  have hul := hU.1
  refine fn_enter (N := 99) Tryz.func7 (by kernel_rfl) rfl rfl rfl (fun w0 => ?_)
  refine c_seq ?_; refine c_reg ?_; refine bx rfl nofun rfl (fun h1 n1 => ?_)
  have s1 : h1.size = h.size + 1 := n1.size
  have k_1 := k0.ext n1.ext
  have b2_1 := n1.at_
  refine bx rfl nofun rfl (fun h2 n2 => ?_)
  have s2 : h2.size = h1.size + 1 := n2.size
  have k_2 := k_1.ext n2.ext
  have b2_2 := n2.ext.get b2_1
  have b3_2 := n2.at_
  refine asg rfl rfl ?_; refine o_nil ?_; refine x_seq ?_
  refine c_seq ?_; refine c_seq ?_; refine c_reg ?_
  refine fa rfl rfl (ld rfl (cell b2_2 rfl) rfl (fa rfl rfl (ld rfl (cell b3_2 rfl) rfl (nes rfl rfl rfl (mv rfl rfl (gqf rfl rfl rfl (fun e => fa rfl rfl) (gqf rfl rfl rfl (fun e => ld (cg rfl e) (cell b2_2 rfl) rfl) ?_)))))))
  refine gqf rfl rfl rfl (fun e => fa rfl rfl) (gqf rfl rfl rfl (fun e => ld (cg rfl e) (cell b3_2 rfl) rfl) (gqf rfl rfl rfl (fun e => nei (cg rfl e) (cg rfl e) rfl) ?_))
  refine pko rfl rfl rfl rfl (mv rfl rfl (gqf rfl rfl rfl (fun e => fa rfl rfl) (gqf rfl rfl rfl (fun e => ld (cg rfl e) (cell b2_2 rfl) rfl) (gqf rfl rfl rfl (fun e => lnl (cg rfl e) rfl) ?_))))
  refine gqf rfl rfl rfl (fun e => fa rfl rfl) (gqf rfl rfl rfl (fun e => ld (cg rfl e) (cell b3_2 rfl) rfl) (gqf rfl rfl rfl (fun e => lnl (cg rfl e) rfl) (gqf rfl rfl rfl (fun e => nei (cg rfl e) (cg rfl e) rfl) ?_)))
  refine pko rfl rfl rfl rfl (mv rfl rfl (gqf rfl rfl rfl (fun e => fa rfl rfl) (gqf rfl rfl rfl (fun e => ld (cg rfl e) (cell b2_2 rfl) rfl) (gqf rfl rfl rfl (fun e => lnl (cg rfl e) rfl) ?_))))
  refine gqf rfl rfl rfl (fun e => fa rfl rfl) (gqf rfl rfl rfl (fun e => ld (cg rfl e) (cell b3_2 rfl) rfl) (gqf rfl rfl rfl (fun e => lnl (cg rfl e) rfl) (gqf rfl rfl rfl (fun e => nei (cg rfl e) (cg rfl e) rfl) ?_)))
  refine pko rfl rfl rfl rfl (mv rfl rfl (gqf rfl rfl rfl (fun e => fa rfl rfl) (gqf rfl rfl rfl (fun e => ld (cg rfl e) (cell b2_2 rfl) rfl) (gqf rfl rfl rfl (fun e => fa rfl rfl) ?_))))
  refine gqf rfl rfl rfl (fun e => ld (cg rfl e) (cell b3_2 rfl) rfl) (gef rfl rfl rfl (fun e kk => clE ((tables_fn (TypesAt.keep hT0 (At.k k_2) (At.n k_2)) (TypesAt.keep hT0' (At.k k_2) (At.n k_2)))) (a2 (cg rfl e) (cg rfl e)) rfl kk) (fun h3 x3 => ?_))
  have s3 : h2.size ≤ h3.size := x3.size
  have k_3 := k_2.ext x3
  have b2_3 := x3.get b2_2
  have b3_3 := x3.get b3_2
  refine gqf rfl rfl rfl (fun e => nt (cg rfl e) rfl) (pko rfl rfl rfl rfl ?_)
  refine o_nil ?_; refine x_seq ?_; refine c_cond rfl (fun c4 => ?_) (fun c4 => ?_)
  · refine c_seq ?_; refine c_reg ?_; refine asg rfl rfl ?_; refine o_nil ?_; refine x_seq ?_; refine c_ret ?_; refine x_seq_ret ?_
    refine ret1 (.inr rfl) rfl rfl ?_
    refine ⟨congrArg Value.bool (tb_f (fun e => ?_)).symm, (k_3).toExt⟩
    subst e
    rcases c4 with (((c | c) | c) | c) | c <;> exact c rfl
  · have d1 : f.name = g.name := Classical.byContradiction fun e => c4 (.inl (.inl (.inl (.inl e))))
    have d2 : f.key = g.key := Classical.byContradiction fun e => c4 (.inl (.inl (.inl (.inr e))))
    have d3 : f.uses.length = g.uses.length := by have : (f.uses.length : Int) = g.uses.length := Classical.byContradiction fun e => c4 (.inl (.inl (.inr e))); omega
    have d4 : f.objs.length = g.objs.length := by have : (f.objs.length : Int) = g.objs.length := Classical.byContradiction fun e => c4 (.inl (.inr e)); omega
    have d5 : f.types = g.types := Classical.byContradiction fun e => c4 (.inr e)
    have hiff : f = g ↔ f.uses = g.uses ∧ f.objs = g.objs := face_eq.trans ⟨fun e => ⟨e.1.1.2, e.1.2⟩, fun e => ⟨⟨⟨⟨d1, d2⟩, e.1⟩, e.2⟩, d5⟩⟩
    refine c_skip ?_; refine x_seq ?_
    refine c_seq ?_; refine c_seq ?_; refine c_reg ?_; refine asg rfl rfl ?_; refine o_nil ?_; refine x_seq ?_; refine c_blk ?_
    refine c_loop (α := Nat) (fun i => [(2, ptr h.size 0), (3, ptr h1.size 0), (5, i64 (i : Nat))]) (fun _ => h3) (fun i => i ≤ f.uses.length ∧ ∀ j, j < i → f.uses[j]? = g.uses[j]?) (fun i => f.uses.length - i) 0 ⟨Nat.zero_le _, fun j e => absurd e (Nat.not_lt_zero _)⟩ ⟨rfl, rfl, rfl, trivial⟩ rfl (fun i hs => ?_)
    obtain ⟨hil, hup⟩ := hs
    change SC _ _ _ _ h3
    refine c_seq ?_; refine c_seq ?_; refine c_reg ?_; refine mv rfl rfl (fa rfl rfl (ld rfl (cell b2_3 rfl) rfl (lnl rfl rfl (lti rfl rfl rfl ?_))))
    refine o_nil ?_; refine x_seq ?_; refine c_cond rfl (fun c5 => ?_) (fun c5 => ?_)
    · have hlt : i < f.uses.length := by have := c5; omega
      have hxi : f.uses[i]? = some f.uses[i] := List.getElem?_eq_getElem hlt
      have hyi : g.uses[i]? = some (g.uses[i]'(by omega)) := List.getElem?_eq_getElem _
      obtain ⟨b2, o2, cs2, ha2, hb2, hl2, hr2, hR2⟩ := SliceAt.el hU0 k_3 hxi
      obtain ⟨b3, o3, cs3, ha3, hb3, hl3, hr3, hR3⟩ := SliceAt.el hU0' k_3 hyi
      generalize f.uses[i] = u at *
      generalize g.uses[i]'(by omega) = w at *
      subst ha2
      subst ha3
      obtain ⟨rfl, -⟩ := hR2
      obtain ⟨rfl, -⟩ := hR3
      refine c_skip ?_; refine x_seq ?_
      refine c_seq ?_; refine c_blk ?_; refine c_seq ?_
      refine c_dreg (· = h3) [0, 1, 2, 3, 4, 5, 6, 7, 8, 9, 10, 11, 12, 13, 14, 15, 16, 17, 18, 19, 20, 21, 22, 23, 24, 25, 26, 27] rfl rfl (by kernel_rfl) ?_
      refine fa rfl rfl (ldI rfl (fun _ hI => by subst hI; exact cell b2_3 rfl) rfl (mv rfl rfl (ixs rfl rfl (by omega) rfl (fa rfl rfl (ldI rfl (fun _ hI => by subst hI; exact (hr2 0 _ rfl)) rfl ?_)))))
      refine fa rfl rfl (ldI rfl (fun _ hI => by subst hI; exact cell b3_3 rfl) rfl (mv rfl rfl (ixs rfl rfl (by omega) rfl (fa rfl rfl (ldI rfl (fun _ hI => by subst hI; exact (hr3 0 _ rfl)) rfl ?_)))))
      refine nes rfl rfl rfl (mv rfl rfl (gqf rfl rfl rfl (fun e => fa rfl rfl) (gqf rfl rfl rfl (fun e => ldI (cg rfl e) (fun _ hI => by subst hI; exact cell b2_3 rfl) rfl) ?_)))
      refine gqf rfl rfl rfl (fun e => mv rfl rfl) (gqf rfl rfl rfl (fun e => ixs (cg rfl e) (cg rfl e) (by omega) rfl) (gqf rfl rfl rfl (fun e => fa (cg rfl e) rfl) ?_))
      refine gqf rfl rfl rfl (fun e => ldI (cg rfl e) (fun _ hI => by subst hI; exact (hr2 1 _ rfl)) rfl) (gqf rfl rfl rfl (fun e => fa rfl rfl) (gqf rfl rfl rfl (fun e => ldI (cg rfl e) (fun _ hI => by subst hI; exact cell b3_3 rfl) rfl) ?_))
      refine gqf rfl rfl rfl (fun e => mv rfl rfl) (gqf rfl rfl rfl (fun e => ixs (cg rfl e) (cg rfl e) (by omega) rfl) (gqf rfl rfl rfl (fun e => fa (cg rfl e) rfl) ?_))
      refine gqf rfl rfl rfl (fun e => ldI (cg rfl e) (fun _ hI => by subst hI; exact (hr3 1 _ rfl)) rfl) (gqf rfl rfl rfl (fun e => nei (cg rfl e) (cg rfl e) rfl) (pko rfl rfl rfl rfl ?_))
      refine o_nil ?_; refine x_seq ?_; refine c_cond rfl (fun c6 => ?_) (fun c6 => ?_)
      · refine c_seq ?_; refine c_reg ?_; refine asg rfl rfl ?_; refine o_nil ?_; refine x_seq ?_; refine c_ret ?_; refine x_blk_ret ?_
        refine x_seq_ret ?_; refine x_loop_ret ?_; refine x_blk_ret ?_; refine x_seq_ret ?_; refine ret1 (.inr rfl) rfl rfl ?_
        refine ⟨congrArg Value.bool (tb_f (fun e => ?_)).symm, (k_3).toExt⟩
        rw [(hiff.1 e).1, hyi] at hxi
        cases hxi
        rcases c6 with c | c <;> exact c rfl
      · refine c_skip ?_; refine x_blk ?_; refine x_seq ?_; refine c_reg ?_; refine mv rfl rfl (add rfl rfl (by omega) rfl (asg rfl rfl ?_))
        refine o_nil ?_
        refine x_loop (i + 1) ⟨hlt, fun j hj => ?_⟩ (by omega) ⟨rfl, rfl, rfl, trivial⟩ rfl
        rcases Nat.lt_or_ge j i with e | e
        · exact hup j e
        · rw [show j = i by omega, hxi, hyi]
          have q1 : u.name = w.name := Classical.byContradiction fun e => c6 (.inl e)
          have q2 : u.key = w.key := Classical.byContradiction fun e => c6 (.inr e)
          cases u; cases w; simp only at q1 q2; rw [q1, q2]
    · have hie : i = f.uses.length := by have := c5; omega
      subst hie
      have hue := upto_eq d3 hup
      refine c_exit ?_; refine x_seq_exit ?_; refine x_loop_exit ?_; refine x_blk_hit ?_; refine x_seq ?_
      refine c_seq ?_; refine c_seq ?_; refine c_reg ?_; refine asg rfl rfl ?_; refine o_nil ?_; refine x_seq ?_; refine c_blk ?_
      refine c_loop (α := Nat × Heap) (fun y => [(2, ptr h.size 0), (3, ptr h1.size 0), (6, i64 (y.1 : Nat))]) (fun y => y.2) (fun y => At h.size h y.2 ∧ y.2[h.size]? = h3[h.size]? ∧ y.2[h1.size]? = h3[h1.size]? ∧ y.1 ≤ f.objs.length ∧ ∀ j, j < y.1 → f.objs[j]? = g.objs[j]?) (fun y => f.objs.length - y.1) (0, h3) ⟨k_3, rfl, rfl, Nat.zero_le _, fun j e => absurd e (Nat.not_lt_zero _)⟩ ⟨rfl, rfl, rfl, trivial⟩ rfl (fun y hs => ?_)
      obtain ⟨i, z⟩ := y
      obtain ⟨kz, z2, z3, hil, hup⟩ := hs
      simp only at kz z2 z3 hil hup
      have y2 := z2.trans b2_3
      have y3 := z3.trans b3_3
      have kzn := kz.n
      change SC _ _ _ _ z
      refine c_seq ?_; refine c_seq ?_; refine c_reg ?_; refine mv rfl rfl (fa rfl rfl (ld rfl (cell y2 rfl) rfl (lnl rfl rfl (lti rfl rfl rfl ?_))))
      refine o_nil ?_; refine x_seq ?_; refine c_cond rfl (fun c7 => ?_) (fun c7 => ?_)
      · have hlt : i < f.objs.length := by have := c7; simp only at this; omega
        have hxi : f.objs[i]? = some f.objs[i] := List.getElem?_eq_getElem hlt
        have hyi : g.objs[i]? = some (g.objs[i]'(by omega)) := List.getElem?_eq_getElem _
        obtain ⟨b2, o2, cs2, ha2, hb2, hl2, hr2, hR2⟩ := SliceAt.el hO0 kz hxi
        obtain ⟨b3, o3, cs3, ha3, hb3, hl3, hr3, hR3⟩ := SliceAt.el hO0' kz hyi
        generalize f.objs[i] = u at *
        generalize g.objs[i]'(by omega) = w at *
        subst ha2
        subst ha3
        obtain ⟨rfl, -⟩ := hR2
        obtain ⟨rfl, -⟩ := hR3
        refine c_skip ?_; refine x_seq ?_
        refine c_seq ?_; refine c_blk ?_; refine c_seq ?_
        refine c_treg (Mod (fun k => False) z) (some 10) [10, 9, 8, 7, 6, 5, 4, 3, 2, 1, 0] (.leaf [0, 1, 2, 3, 4, 5, 6, 7, 8, 9] [10, 11]) rfl (Mod.refl _ _) (by kernel_rfl) ?_
        have c0_2 : Mod (fun k => False) z z := Mod.refl _ _
        refine t_leaf ?_
        refine fa rfl rfl (ldI rfl (fun _ hI => cell (hI.get y2 (by first | exact id | (intro e; have e : _ = _ := e; omega) | assumption)) rfl) rfl (mv rfl rfl (ixs rfl rfl (by omega) rfl ?_)))
        refine ldnI rfl rfl (fun _ hI => Mod.row hI hr2 (by first | exact id | (intro e; have e : _ = _ := e; omega) | assumption)) rfl (fa rfl rfl (ldI rfl (fun _ hI => cell (hI.get y3 (by first | exact id | (intro e; have e : _ = _ := e; omega) | assumption)) rfl) rfl ?_))
        refine mv rfl rfl (ixs rfl rfl (by omega) rfl (ldnI rfl rfl (fun _ hI => Mod.row hI hr3 (by first | exact id | (intro e; have e : _ = _ := e; omega) | assumption)) rfl ?_))
        refine o_nil ?_; refine x_tail ?_; refine clE ((sameO_fn u w _)) rfl rfl (fun h8 x8 => ?_)
        have s8 : z.size ≤ h8.size := x8.size
        have k_8 := kz.ext x8
        have y2_8 := x8.get y2
        have y3_8 := x8.get y3
        refine nt rfl rfl ?_; refine o_nil ?_; refine x_seq ?_; refine c_cond rfl (fun c9 => ?_) (fun c9 => ?_)
        · refine c_seq ?_; refine c_reg ?_; refine asg rfl rfl ?_; refine o_nil ?_; refine x_seq ?_; refine c_ret ?_; refine x_blk_ret ?_
          refine x_seq_ret ?_; refine x_loop_ret ?_; refine x_blk_ret ?_; refine x_seq_ret ?_; refine ret1 (.inr rfl) rfl rfl ?_
          refine ⟨congrArg Value.bool (tb_f (fun e => ?_)).symm, (k_8).toExt⟩
          rw [(hiff.1 e).2, hyi] at hxi
          cases hxi
          exact c9 rfl
        · refine c_skip ?_; refine x_blk ?_; refine x_seq ?_; refine c_reg ?_; refine mv rfl rfl (add rfl rfl (by omega) rfl (asg rfl rfl ?_))
          refine o_nil ?_
          refine x_loop (i + 1, h8) ⟨k_8, y2_8.trans b2_3.symm, y3_8.trans b3_3.symm, hlt, fun j hj => ?_⟩ (by simp only; omega) ⟨rfl, rfl, rfl, trivial⟩ rfl
          rcases Nat.lt_or_ge j i with e | e
          · exact hup j e
          · rw [show j = i by have := hj; simp only at this; omega, hxi, hyi, Classical.not_not.1 c9]
      · have hie : i = f.objs.length := by have := c7; simp only at this; omega
        subst hie
        refine c_exit ?_; refine x_seq_exit ?_; refine x_loop_exit ?_; refine x_blk_hit ?_; refine x_seq ?_; refine c_seq ?_; refine c_reg ?_
        refine asg rfl rfl ?_; refine o_nil ?_; refine x_seq ?_; refine c_ret ?_; refine ret1 (.inr rfl) rfl rfl ?_
        exact ⟨congrArg Value.bool (tb_t (hiff.2 ⟨hue, upto_eq d4 hup⟩)).symm, (kz).toExt⟩
theorem used_ones {h : Heap} : ∀ (x : Used) cs, usedR h x cs → ∀ u ∈ cs, u.oneCell' = true := by
  intro x cs ⟨hc, _⟩ u hu; subst hc; simp at hu; rcases hu with rfl | rfl <;> rfl
theorem obj_ones {h : Heap} : ∀ (x : Ob) cs, objR h x cs → ∀ u ∈ cs, u.oneCell' = true := by
  intro x cs ⟨hc, _⟩ u hu; subst hc; simp at hu; rcases hu with rfl | rfl | rfl | rfl | rfl | rfl | rfl <;> rfl
/-- an interface in new memory, all from N on -/
def FaceN (N : Nat) (h : Heap) (v : Value) (f : Face) : Prop := ∃ vu vt vo, v = .agg #[str f.name, .int .u32 f.key, vu, vt, vo] ∧ TysOwn (fun b => N ≤ b) h vt f.types ∧
  SliceB (fun b => N ≤ b ∧ ¬ ownB vt b) h 2 (usedR h) vu f.uses ∧ SliceB (fun b => N ≤ b ∧ ¬ ownB vt b) h 7 (objR h) vo f.objs
theorem FaceN.face {N : Nat} {h : Heap} {v : Value} {f : Face} (a : FaceN N h v f) (hn : f.name.length ≤ maxLen) (hk : inU32 f.key) (hl : f.types.length ≤ maxLen) : FaceV h.size h v f := by
  obtain ⟨vu, vt, vo, rfl, hT, hU, hO⟩ := a
  exact ⟨vu, vt, vo, rfl, hn, hk, hU.at_ (fun b hb _ => hb), hT.at_ hl, hO.at_ (fun b hb _ => hb)⟩
theorem FaceN.mod {S : Nat → Prop} {N : Nat} {h h' : Heap} {v : Value} {f : Face} (a : FaceN N h v f) (m : Go.Eng.Mod S h h') (hS : ∀ b, N ≤ b → b < h.size → ¬ S b) : FaceN N h' v f := by
  obtain ⟨vu, vt, vo, rfl, hT, hU, hO⟩ := a
  exact ⟨vu, vt, vo, rfl, hT.mod m hS, hU.mod m (fun b hb e => ⟨hS b e.1 hb, e⟩), hO.mod m (fun b hb e => ⟨hS b e.1 hb, e⟩)⟩
end

/-! The walks of what copies lists. No condition but what each theorem says. -/
section
open Go Go.Eng

end
end Go.Proofs.YtgnkfegkdjfnjaaGreat
