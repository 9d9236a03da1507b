/- The walks of what is too large, of what tells interfaces alike, of what copies one. The walks of what tells interfaces alike, and of what copies one. The walks of what copies lists. No condition but what each theorem says. -/
import Derived.Test.YtgnkfegkdjfnjaaIgh
namespace Go.Proofs.Ytgnkfegkdjfnjaa
/-! The walks of what is too large, of what tells interfaces alike, of what copies one. No condition but what each theorem says. -/
section
open Go Go.Eng

def weigh (x : Ty) : Nat := x.fields.length + x.params.length + x.name.length / 50 + x.mod.length / 50
def totalW (t : List Ty) : Nat := (t.map weigh).sum
def Large13P (t : List Ty) : Prop := 300 < t.length ∨ 3000 < totalW t
def TSized (t : List Ty) : Prop := ∀ x ∈ t, x.fields.length ≤ 140737488355328 ∧ x.params.length ≤ 140737488355328
theorem total_take {t : List Ty} {i : Nat} {x : Ty} (h : t[i]? = some x) : totalW (t.take (i + 1)) = totalW (t.take i) + weigh x := by
  unfold totalW; rw [List.take_add_one, h]; simp
theorem total_le {t : List Ty} (i : Nat) : totalW (t.take i) ≤ totalW t := by
  have : totalW t = totalW (t.take i) + totalW (t.drop i) := by unfold totalW; rw [← List.sum_append, ← List.map_append, List.take_append_drop]
  omega
theorem weigh_le {t : List Ty} {x : Ty} (h : x ∈ t) : weigh x ≤ totalW t := by
  obtain ⟨i, hi⟩ := List.mem_iff_getElem?.1 h
  have h1 := total_take hi
  have h2 := total_le (t := t) (i + 1)
  omega
theorem tdiv50 (n : Nat) (h : n ≤ 9223372036854775807) : IntKind.i64.wrap ((n : Int).tdiv 50) = ((n / 50 : Nat) : Int) := by
  have e : ((n : Int).tdiv 50) = ((n / 50 : Nat) : Int) := by rw [Int.tdiv_eq_ediv_of_nonneg (by omega)]; omega
  rw [e, IntKind.wrap_i64]; omega
theorem not_large {t : List Ty} (h : ¬ Large13P t) : t.length ≤ 300 ∧ ∀ x ∈ t, x.fields.length ≤ 3000 ∧ x.params.length ≤ 3000 := by
  unfold Large13P at h
  refine ⟨by omega, fun x hx => ?_⟩
  have := weigh_le hx
  unfold weigh at this
  omega
theorem large13_fn {h : Heap} {vt : Value} {t : List Ty} (ht : TypesAt h.size h vt t) (hsz : TSized t) : Does Try.prog 32 [vt] h (fun v h' => v = .bool (tb (Large13P t)) ∧ Ext h h') := by
  have ht0 := ht
  have htl := ht.1
  have hmx : maxLen = 9223372036854775807 := by decide
  have k0 : At h.size h h := At.refl (Nat.le_refl _)
  obtain ⟨at0, ct0, rfl⟩ := SliceAt.form ht
  refine fn_enter (N := 47) Try.func32 (by kernel_rfl) rfl rfl rfl (fun w0 => ?_)
  refine c_seq ?_; refine c_reg ?_; refine asg rfl rfl ?_; refine o_nil ?_; refine x_seq ?_
  refine c_seq ?_; refine c_seq ?_; refine c_reg ?_; refine mv rfl rfl (lnl rfl rfl (gti rfl rfl rfl ?_))
  refine o_nil ?_; refine x_seq ?_; refine c_cond rfl (fun c1 => ?_) (fun c1 => ?_)
  · refine c_seq ?_; refine c_reg ?_; refine asg rfl rfl ?_; refine o_nil ?_; refine x_seq ?_; refine c_ret ?_; refine x_seq_ret ?_
    refine ret1 (.inr rfl) rfl rfl ?_
    exact ⟨congrArg Value.bool (tb_t (.inl (by omega))).symm, (k0).toExt⟩
  · refine c_skip ?_; refine x_seq ?_; refine c_seq ?_; refine c_reg ?_; refine asg rfl rfl ?_; refine o_nil ?_; refine x_seq ?_
    refine c_seq ?_; refine c_seq ?_; refine c_reg ?_; refine asg rfl rfl ?_; refine o_nil ?_; refine x_seq ?_; refine c_blk ?_
    refine c_loop (α := Nat) (fun i => [(0, .slice at0 t.length ct0), (3, i64 (totalW (t.take i) : Nat)), (4, i64 (i : Nat))]) (fun _ => h) (fun i => i ≤ t.length ∧ totalW (t.take i) ≤ 3000) (fun i => t.length - i) 0 ⟨Nat.zero_le _, Nat.zero_le _⟩ ⟨rfl, rfl, rfl, trivial⟩ rfl (fun i hs => ?_)
    obtain ⟨hil, htot⟩ := hs
    change SC _ _ _ _ h
    refine c_seq ?_; refine c_seq ?_; refine c_reg ?_; refine mv rfl rfl (mv rfl rfl (lnl rfl rfl (lti rfl rfl rfl ?_)))
    refine o_nil ?_; refine x_seq ?_; refine c_cond rfl (fun c2 => ?_) (fun c2 => ?_)
    · have hlt : i < t.length := by have := c2; omega
      have hx : t[i]? = some t[i] := List.getElem?_eq_getElem hlt
      have htk := total_take hx
      have hsx := hsz _ (List.getElem_mem hlt)
      have hle := total_le (t := t) (i + 1)
      obtain ⟨b2, o2, cs2, ha2, hb2, hl2, hr2, hR2⟩ := SliceAt.el ht0 k0 hx
      generalize t[i] = x at *
      subst ha2
      obtain ⟨⟨hm1, hm2, -⟩, vf, vp, rfl, hF, hP⟩ := hR2
      obtain ⟨af, cf, rfl⟩ := hF.form
      obtain ⟨ap, cp, rfl⟩ := hP.form
      have q1 := tdiv50 x.name.length (by omega)
      have q2 := tdiv50 x.mod.length (by omega)
      have hw : ((x.fields.length : Int) + x.params.length + IntKind.i64.wrap ((x.name.length : Int).tdiv 50) + IntKind.i64.wrap ((x.mod.length : Int).tdiv 50)) = (weigh x : Nat) := by rw [q1, q2]; unfold weigh; omega
      have hw2 : ((totalW (t.take i) : Nat) : Int) + ((x.fields.length : Int) + x.params.length + IntKind.i64.wrap ((x.name.length : Int).tdiv 50) + IntKind.i64.wrap ((x.mod.length : Int).tdiv 50)) = ((totalW (t.take (i + 1)) : Nat) : Int) := by rw [hw, htk]; omega
      refine c_skip ?_; refine x_seq ?_
      refine c_seq ?_; refine c_blk ?_; refine c_seq ?_
      refine c_dreg (· = h) [0, 1, 2, 3, 4, 5, 6, 7, 8, 9, 10, 11, 12, 13, 14, 15, 16, 17, 18, 19, 20, 21, 22, 23, 24, 25, 26, 27, 28, 29, 30, 31] rfl rfl (by kernel_rfl) ?_
      refine mv rfl rfl (mv rfl rfl (mv rfl rfl (ixs rfl rfl (by omega) rfl (fa rfl rfl (ldI rfl (fun _ hI => by subst hI; exact (hr2 6 _ rfl)) rfl (lnl rfl rfl (mv rfl rfl ?_)))))))
      refine mv rfl rfl (ixs rfl rfl (by omega) rfl (fa rfl rfl (ldI rfl (fun _ hI => by subst hI; exact (hr2 7 _ rfl)) rfl (lnl rfl rfl (add rfl rfl (by omega) rfl ?_)))))
      refine mv rfl rfl (mv rfl rfl (ixs rfl rfl (by omega) rfl (fa rfl rfl (ldI rfl (fun _ hI => by subst hI; exact (hr2 2 _ rfl)) rfl (lns rfl rfl (quo rfl rfl (by decide) rfl ?_))))))
      refine add rfl rfl (by omega) rfl (mv rfl rfl (mv rfl rfl (ixs rfl rfl (by omega) rfl (fa rfl rfl (ldI rfl (fun _ hI => by subst hI; exact (hr2 1 _ rfl)) rfl (lns rfl rfl ?_))))))
      refine quo rfl rfl (by decide) rfl (add rfl rfl (by omega) rfl (add rfl rfl (by omega) rfl (asg rfl rfl ?_)))
      refine o_nil ?_; refine x_seq ?_; refine c_seq ?_; refine c_reg ?_; refine mv rfl rfl (gti rfl rfl rfl ?_)
      refine o_nil ?_; refine x_seq ?_; refine c_cond rfl (fun c3 => ?_) (fun c3 => ?_)
      · refine c_seq ?_; refine c_reg ?_; refine asg rfl rfl ?_; refine o_nil ?_; refine x_seq ?_; refine c_ret ?_; refine x_blk_ret ?_
        refine x_seq_ret ?_; refine x_loop_ret ?_; refine x_blk_ret ?_; refine x_seq_ret ?_; refine ret1 (.inr rfl) rfl rfl ?_
        refine ⟨congrArg Value.bool (tb_t (.inr ?_)).symm, (k0).toExt⟩
        have c3 : 3000 < ((totalW (t.take i) : Nat) : Int) + ((x.fields.length : Int) + x.params.length + IntKind.i64.wrap ((x.name.length : Int).tdiv 50) + IntKind.i64.wrap ((x.mod.length : Int).tdiv 50)) := c3
        rw [hw2] at c3; omega
      · have c3 : ¬ 3000 < ((totalW (t.take i) : Nat) : Int) + ((x.fields.length : Int) + x.params.length + IntKind.i64.wrap ((x.name.length : Int).tdiv 50) + IntKind.i64.wrap ((x.mod.length : Int).tdiv 50)) := c3
        rw [hw2] at c3
        refine c_skip ?_; refine x_blk ?_; refine x_seq ?_; refine c_reg ?_; refine mv rfl rfl (add rfl rfl (by omega) rfl (asg rfl rfl ?_))
        refine o_nil ?_
        exact x_loop (i + 1) ⟨hlt, by omega⟩ (by omega) ⟨rfl, congrArg some (vi hw2), rfl, trivial⟩ rfl
    · have hie : i = t.length := by have := c2; omega
      subst hie
      rw [List.take_length] at htot
      refine c_exit ?_; refine x_seq_exit ?_; refine x_loop_exit ?_; refine x_blk_hit ?_; refine x_seq ?_; refine c_seq ?_; refine c_reg ?_
      refine asg rfl rfl ?_; refine o_nil ?_; refine x_seq ?_; refine c_ret ?_; refine ret1 (.inr rfl) rfl rfl ?_
      exact ⟨congrArg Value.bool (tb_f (fun e => by unfold Large13P at e; omega)).symm, (k0).toExt⟩
def Large16P (f : Face) : Prop := (((100 < f.uses.length ∨ 200 < f.objs.length) ∨ 5000 < f.name.length) ∨ Large13P f.types) ∨ (∃ o ∈ f.objs, 500 < o.name.length ∨ 500 < o.val.text.length) ∨ ∃ u ∈ f.uses, 500 < u.name.length
theorem large16_fn {h : Heap} {fv : Value} {f : Face} (hF : FaceV h.size h fv f) (hsz : TSized f.types) : Does Try.prog 14 [fv] h (fun v h' => v = .bool (tb (Large16P f)) ∧ Ext h h') := by
  have hF0 := hF
  obtain ⟨vu, vt, vo, rfl, hn, hk, hU, hT, hO⟩ := hF
  have hO0 := hO
  have hU0 := hU
  have hT0 := hT
  obtain ⟨ao, co, rfl⟩ := hO.form
  obtain ⟨au, cu, rfl⟩ := hU.form
  obtain ⟨at0, ct0, rfl⟩ := SliceAt.form hT
  have hol := hO.1
  have hul := hU.1
  have hmx : maxLen = 9223372036854775807 := by decide
  have k0 : At h.size h h := At.refl (Nat.le_refl _)
  refine fn_enter (N := 67) Try.func14 (by kernel_rfl) rfl rfl rfl (fun w0 => ?_)
  refine c_seq ?_; refine c_reg ?_; refine bx rfl nofun rfl (fun h1 n1 => ?_)
  have s1 : h1.size = h.size + 1 := n1.size
  have k_1 := k0.ext n1.ext
  have b1_1 := n1.at_
  refine asg rfl rfl ?_; refine o_nil ?_; refine x_seq ?_
  refine c_seq ?_; refine c_seq ?_; refine c_reg ?_
  refine fa rfl rfl (ld rfl (cell b1_1 rfl) rfl (lnl rfl rfl (gti rfl rfl rfl (mv rfl rfl (gqf rfl rfl rfl (fun e => fa rfl rfl) (gqf rfl rfl rfl (fun e => ld (cg rfl e) (cell b1_1 rfl) rfl) ?_))))))
  refine gqf rfl rfl rfl (fun e => lnl (cg rfl e) rfl) (gqf rfl rfl rfl (fun e => gti (cg rfl e) rfl rfl) (pko rfl rfl rfl rfl (mv rfl rfl (gqf rfl rfl rfl (fun e => fa rfl rfl) ?_))))
  refine gqf rfl rfl rfl (fun e => ld (cg rfl e) (cell b1_1 rfl) rfl) (gqf rfl rfl rfl (fun e => lns (cg rfl e) rfl) (gqf rfl rfl rfl (fun e => gti (cg rfl e) rfl rfl) ?_))
  refine pko rfl rfl rfl rfl (mv rfl rfl (gqf rfl rfl rfl (fun e => fa rfl rfl) (gqf rfl rfl rfl (fun e => ld (cg rfl e) (cell b1_1 rfl) rfl) (gef rfl rfl rfl (fun e kk => clE ((large13_fn (TypesAt.keep hT0 (At.k k_1) (At.n k_1)) hsz)) (a1 (cg rfl e)) rfl kk) (fun h2 x2 => ?_)))))
  have s2 : h1.size ≤ h2.size := x2.size
  have k_2 := k_1.ext x2
  have b1_2 := x2.get b1_1
  refine pko rfl rfl rfl rfl ?_; refine o_nil ?_; refine x_seq ?_; refine c_cond rfl (fun c3 => ?_) (fun c3 => ?_)
  · refine c_seq ?_; refine c_reg ?_; refine asg rfl rfl ?_; refine o_nil ?_; refine x_seq ?_; refine c_ret ?_; refine x_seq_ret ?_
    refine ret1 (.inr rfl) rfl rfl ?_
    refine ⟨congrArg Value.bool (tb_t (.inl ?_)).symm, (k_2).toExt⟩
    rcases c3 with ((c | c) | c) | c
    · exact .inl (.inl (.inl (by omega)))
    · exact .inl (.inl (.inr (by omega)))
    · exact .inl (.inr (by omega))
    · exact .inr c
  · have d1 : ¬ (((100 < f.uses.length ∨ 200 < f.objs.length) ∨ 5000 < f.name.length) ∨ Large13P f.types) := fun e => c3 (by
     rcases e with ((c | c) | c) | c
     · exact .inl (.inl (.inl (by omega)))
     · exact .inl (.inl (.inr (by omega)))
     · exact .inl (.inr (by omega))
     · exact .inr c)
    refine c_skip ?_; refine x_seq ?_
    refine c_seq ?_; refine c_seq ?_; refine c_reg ?_; refine asg rfl rfl ?_; refine o_nil ?_; refine x_seq ?_; refine c_blk ?_
    refine c_loop (α := Nat) (fun i => [(1, ptr h.size 0), (3, i64 (i : Nat))]) (fun _ => h2) (fun i => i ≤ f.objs.length ∧ upTo f.objs (fun o => ¬ (500 < o.name.length ∨ 500 < o.val.text.length)) i) (fun i => f.objs.length - i) 0 ⟨Nat.zero_le _, upTo_zero _ _⟩ ⟨rfl, rfl, trivial⟩ rfl (fun i hs => ?_)
    obtain ⟨hil, hup⟩ := hs
    change SC _ _ _ _ h2
    refine c_seq ?_; refine c_seq ?_; refine c_reg ?_; refine mv rfl rfl (fa rfl rfl (ld rfl (cell b1_2 rfl) rfl (lnl rfl rfl (lti rfl rfl rfl ?_))))
    refine o_nil ?_; refine x_seq ?_; refine c_cond rfl (fun c4 => ?_) (fun c4 => ?_)
    · have hlt : i < f.objs.length := by have := c4; omega
      have hx : f.objs[i]? = some f.objs[i] := List.getElem?_eq_getElem hlt
      obtain ⟨b2, o2, cs2, ha2, hb2, hl2, hr2, hR2⟩ := SliceAt.el hO0 k_2 hx
      generalize f.objs[i] = x at *
      subst ha2
      obtain ⟨rfl, -⟩ := hR2
      refine c_skip ?_; refine x_seq ?_
      refine c_seq ?_; refine c_blk ?_; refine c_seq ?_; refine c_reg ?_
      refine fa rfl rfl (ld rfl (cell b1_2 rfl) rfl (mv rfl rfl (ixs rfl rfl (by omega) rfl (fa rfl rfl (ld rfl (hr2 1 _ rfl) rfl (lns rfl rfl (gti rfl rfl rfl (mv rfl rfl ?_))))))))
      refine gqf rfl rfl rfl (fun e => fa rfl rfl) (gqf rfl rfl rfl (fun e => ld (cg rfl e) (cell b1_2 rfl) rfl) (gqf rfl rfl rfl (fun e => mv rfl rfl) (gqf rfl rfl rfl (fun e => ixs (cg rfl e) (cg rfl e) (by omega) rfl) ?_)))
      refine gqf rfl rfl rfl (fun e => fa (cg rfl e) rfl) (gqf rfl rfl rfl (fun e => fa (cg rfl e) rfl) (gqf rfl rfl rfl (fun e => ld (cg rfl e) (hr2 5 _ rfl) rfl) (gqf rfl rfl rfl (fun e => lns (cg rfl e) rfl) ?_)))
      refine gqf rfl rfl rfl (fun e => gti (cg rfl e) rfl rfl) (pko rfl rfl rfl rfl ?_)
      refine o_nil ?_; refine x_seq ?_; refine c_cond rfl (fun c5 => ?_) (fun c5 => ?_)
      · refine c_seq ?_; refine c_reg ?_; refine asg rfl rfl ?_; refine o_nil ?_; refine x_seq ?_; refine c_ret ?_; refine x_blk_ret ?_
        refine x_seq_ret ?_; refine x_loop_ret ?_; refine x_blk_ret ?_; refine x_seq_ret ?_; refine ret1 (.inr rfl) rfl rfl ?_
        exact ⟨congrArg Value.bool (tb_t (.inr (.inl ⟨x, List.mem_of_getElem? hx, by omega⟩))).symm, (k_2).toExt⟩
      · refine c_skip ?_; refine x_blk ?_; refine x_seq ?_; refine c_reg ?_; refine mv rfl rfl (add rfl rfl (by omega) rfl (asg rfl rfl ?_))
        refine o_nil ?_
        exact x_loop (i + 1) ⟨hlt, (upTo_succ hx).2 ⟨hup, by omega⟩⟩ (by omega) ⟨rfl, rfl, trivial⟩ rfl
    · have hie : i = f.objs.length := by have := c4; omega
      subst hie
      refine c_exit ?_; refine x_seq_exit ?_; refine x_loop_exit ?_; refine x_blk_hit ?_; refine x_seq ?_
      refine c_seq ?_; refine c_seq ?_; refine c_reg ?_; refine asg rfl rfl ?_; refine o_nil ?_; refine x_seq ?_; refine c_blk ?_
      refine c_loop (α := Nat) (fun i => [(1, ptr h.size 0), (4, i64 (i : Nat))]) (fun _ => h2) (fun i => i ≤ f.uses.length ∧ upTo f.uses (fun o => ¬ 500 < o.name.length) i) (fun i => f.uses.length - i) 0 ⟨Nat.zero_le _, upTo_zero _ _⟩ ⟨rfl, rfl, trivial⟩ rfl (fun i hs => ?_)
      obtain ⟨hil2, hup2⟩ := hs
      change SC _ _ _ _ h2
      refine c_seq ?_; refine c_seq ?_; refine c_reg ?_; refine mv rfl rfl (fa rfl rfl (ld rfl (cell b1_2 rfl) rfl (lnl rfl rfl (lti rfl rfl rfl ?_))))
      refine o_nil ?_; refine x_seq ?_; refine c_cond rfl (fun c6 => ?_) (fun c6 => ?_)
      · have hlt : i < f.uses.length := by have := c6; omega
        have hx : f.uses[i]? = some f.uses[i] := List.getElem?_eq_getElem hlt
        obtain ⟨b2, o2, cs2, ha2, hb2, hl2, hr2, hR2⟩ := SliceAt.el hU0 k_2 hx
        generalize f.uses[i] = x at *
        subst ha2
        obtain ⟨rfl, -⟩ := hR2
        refine c_skip ?_; refine x_seq ?_
        refine c_seq ?_; refine c_blk ?_; refine c_seq ?_; refine c_reg ?_
        refine fa rfl rfl (ld rfl (cell b1_2 rfl) rfl (mv rfl rfl (ixs rfl rfl (by omega) rfl (fa rfl rfl (ld rfl (hr2 0 _ rfl) rfl (lns rfl rfl (gti rfl rfl rfl ?_)))))))
        refine o_nil ?_; refine x_seq ?_; refine c_cond rfl (fun c7 => ?_) (fun c7 => ?_)
        · refine c_seq ?_; refine c_reg ?_; refine asg rfl rfl ?_; refine o_nil ?_; refine x_seq ?_; refine c_ret ?_; refine x_blk_ret ?_
          refine x_seq_ret ?_; refine x_loop_ret ?_; refine x_blk_ret ?_; refine x_seq_ret ?_; refine ret1 (.inr rfl) rfl rfl ?_
          exact ⟨congrArg Value.bool (tb_t (.inr (.inr ⟨x, List.mem_of_getElem? hx, by omega⟩))).symm, (k_2).toExt⟩
        · refine c_skip ?_; refine x_blk ?_; refine x_seq ?_; refine c_reg ?_; refine mv rfl rfl (add rfl rfl (by omega) rfl (asg rfl rfl ?_))
          refine o_nil ?_
          exact x_loop (i + 1) ⟨hlt, (upTo_succ hx).2 ⟨hup2, by omega⟩⟩ (by omega) ⟨rfl, rfl, trivial⟩ rfl
      · have hie : i = f.uses.length := by have := c6; omega
        subst hie
        refine c_exit ?_; refine x_seq_exit ?_; refine x_loop_exit ?_; refine x_blk_hit ?_; refine x_seq ?_; refine c_seq ?_; refine c_reg ?_
        refine asg rfl rfl ?_; refine o_nil ?_; refine x_seq ?_; refine c_ret ?_; refine ret1 (.inr rfl) rfl rfl ?_
        refine ⟨congrArg Value.bool (tb_f (fun e => ?_)).symm, (k_2).toExt⟩
        rcases e with e | ⟨o, ho, e⟩ | ⟨o, ho, e⟩
        · exact d1 e
        · exact upTo_all.1 hup o ho e
        · exact upTo_all.1 hup2 o ho e
theorem tables_fn {h : Heap} {vx vy : Value} {s t : List Ty} (hs : TypesAt h.size h vx s) (ht : TypesAt h.size h vy t) : Does Try.prog 39 [vx, vy] h (fun v h' => v = .bool (tb (s = t)) ∧ Ext h h') := by
  have hs0 := hs
  have ht0 := ht
  have hsl := hs.1
  have hmx : maxLen = 9223372036854775807 := by decide
  have k0 : At h.size h h := At.refl (Nat.le_refl _)
  obtain ⟨at0, ct0, rfl⟩ := SliceAt.form ht
  obtain ⟨as0, cs0, rfl⟩ := SliceAt.form hs
  refine fn_enter (N := 27) Try.func39 (by kernel_rfl) rfl rfl rfl (fun w0 => ?_)
  refine c_seq ?_; refine c_reg ?_; refine asg rfl rfl ?_; refine o_nil ?_; refine x_seq ?_
  refine c_seq ?_; refine c_seq ?_; refine c_reg ?_; refine mv rfl rfl (lnl rfl rfl (mv rfl rfl (lnl rfl rfl (nei rfl rfl rfl ?_))))
  refine o_nil ?_; refine x_seq ?_; refine c_cond rfl (fun c1 => ?_) (fun c1 => ?_)
  · refine c_seq ?_; refine c_reg ?_; refine asg rfl rfl ?_; refine o_nil ?_; refine x_seq ?_; refine c_ret ?_; refine x_seq_ret ?_
    refine ret1 (.inr rfl) rfl rfl ?_
    exact ⟨congrArg Value.bool (tb_f (fun e => c1 (by rw [e]))).symm, (k0).toExt⟩
  · have hl : s.length = t.length := by omega
    refine c_skip ?_; refine x_seq ?_
    refine c_seq ?_; refine c_seq ?_; refine c_reg ?_; refine asg rfl rfl ?_; refine o_nil ?_; refine x_seq ?_; refine c_blk ?_
    refine c_loop (α := Nat × Heap) (fun y => [(0, .slice as0 s.length cs0), (1, .slice at0 t.length ct0), (5, i64 (y.1 : Nat))]) (fun y => y.2) (fun y => At h.size h y.2 ∧ y.1 ≤ s.length ∧ ∀ j, j < y.1 → s[j]? = t[j]?) (fun y => s.length - y.1) (0, h) ⟨k0, Nat.zero_le _, fun j e => absurd e (Nat.not_lt_zero _)⟩ ⟨rfl, rfl, rfl, trivial⟩ rfl (fun y hy => ?_)
    obtain ⟨i, g⟩ := y
    obtain ⟨kg, hil, hup⟩ := hy
    simp only at kg hil hup
    have kgn := kg.n
    change SC _ _ _ _ g
    refine c_seq ?_; refine c_seq ?_; refine c_reg ?_; refine mv rfl rfl (mv rfl rfl (lnl rfl rfl (lti rfl rfl rfl ?_)))
    refine o_nil ?_; refine x_seq ?_; refine c_cond rfl (fun c2 => ?_) (fun c2 => ?_)
    · have hlt : i < s.length := by have := c2; simp only at this; omega
      have hx : s[i]? = some s[i] := List.getElem?_eq_getElem hlt
      have hy : t[i]? = some (t[i]'(by omega)) := List.getElem?_eq_getElem _
      obtain ⟨b2, o2, cs2, ha2, hb2, hl2, hr2, hR2⟩ := SliceAt.el hs0 kg hx
      obtain ⟨b3, o3, cs3, ha3, hb3, hl3, hr3, hR3⟩ := SliceAt.el ht0 kg hy
      generalize s[i] = x at *
      generalize t[i]'(by omega) = y at *
      subst ha2
      subst ha3
      have hV2 : TyV h.size h (.agg cs2.toArray) x := ⟨cs2, rfl, hR2⟩
      have hV3 : TyV h.size h (.agg cs3.toArray) y := ⟨cs3, rfl, hR3⟩
      obtain ⟨-, vf, vp, rfl, -⟩ := hR2
      obtain ⟨-, vf', vp', rfl, -⟩ := hR3
      refine c_skip ?_; refine x_seq ?_
      refine c_seq ?_; refine c_blk ?_; refine c_seq ?_
      refine c_treg (Mod (fun k => False) g) (some 8) [8, 7, 6, 5, 4, 3, 2, 1, 0] (.leaf [0, 1, 2, 3, 4, 5, 6, 7] [8, 9]) rfl (Mod.refl _ _) (by kernel_rfl) ?_
      have c0_1 : Mod (fun k => False) g g := Mod.refl _ _
      refine t_leaf ?_
      refine mv rfl rfl (mv rfl rfl (ixs rfl rfl (by omega) rfl (ldnI rfl rfl (fun _ hI => Mod.row hI hr2 (by first | exact id | (intro e; have e : _ = _ := e; omega) | assumption)) rfl ?_)))
      refine mv rfl rfl (mv rfl rfl (ixs rfl rfl (by omega) rfl (ldnI rfl rfl (fun _ hI => Mod.row hI hr3 (by first | exact id | (intro e; have e : _ = _ := e; omega) | assumption)) rfl ?_)))
      refine o_nil ?_; refine x_tail ?_
      refine clE ((alike_fn (TyV.keep hV2 (At.k kg) (At.n kg)) (TyV.keep hV3 (At.k kg) (At.n kg)))) rfl rfl (fun h3 x3 => ?_)
      have s3 : g.size ≤ h3.size := x3.size
      have k_3 := kg.ext x3
      refine nt rfl rfl ?_; refine o_nil ?_; refine x_seq ?_; refine c_cond rfl (fun c4 => ?_) (fun c4 => ?_)
      · refine c_seq ?_; refine c_reg ?_; refine asg rfl rfl ?_; refine o_nil ?_; refine x_seq ?_; refine c_ret ?_; refine x_blk_ret ?_
        refine x_seq_ret ?_; refine x_loop_ret ?_; refine x_blk_ret ?_; refine x_seq_ret ?_; refine ret1 (.inr rfl) rfl rfl ?_
        exact ⟨congrArg Value.bool (tb_f (fun e => c4 (by rw [e, hy] at hx; exact (Option.some.inj hx).symm))).symm, (k_3).toExt⟩
      · refine c_skip ?_; refine x_blk ?_; refine x_seq ?_; refine c_reg ?_; refine mv rfl rfl (add rfl rfl (by omega) rfl (asg rfl rfl ?_))
        refine o_nil ?_
        refine x_loop (i + 1, h3) ⟨k_3, hlt, fun j hj => ?_⟩ (by simp only; omega) ⟨rfl, rfl, rfl, trivial⟩ rfl
        rcases Nat.lt_or_ge j i with e | e
        · exact hup j e
        · obtain rfl : j = i := by have := hj; simp only at this; omega
          rw [hx, hy, Classical.not_not.1 c4]
    · have hie : i = s.length := by have := c2; simp only at this; omega
      subst hie
      refine c_exit ?_; refine x_seq_exit ?_; refine x_loop_exit ?_; refine x_blk_hit ?_; refine x_seq ?_; refine c_seq ?_; refine c_reg ?_
      refine asg rfl rfl ?_; refine o_nil ?_; refine x_seq ?_; refine c_ret ?_; refine ret1 (.inr rfl) rfl rfl ?_
      exact ⟨congrArg Value.bool (tb_t (upto_eq hl hup)).symm, (kg).toExt⟩
end

/-! The walks of what tells interfaces alike, and of what copies one. No condition but what each theorem says. -/
section
open Go Go.Eng

theorem face_eq {f g : Face} : f = g ↔ ((((f.name = g.name ∧ f.key = g.key) ∧ f.uses = g.uses) ∧ f.objs = g.objs) ∧ f.types = g.types) := by
  cases f; cases g
  simp only [Face.mk.injEq]
  constructor
  · exact fun ⟨a, b, c, d, e⟩ => ⟨⟨⟨⟨a, b⟩, c⟩, e⟩, d⟩
  · exact fun ⟨⟨⟨⟨a, b⟩, c⟩, e⟩, d⟩ => ⟨a, b, c, d, e⟩
set_option maxHeartbeats 2000000 in
theorem same16_fn {h : Heap} {vx vy : Value} {f g : Face} (hx : FaceV h.size h vx f) (hy : FaceV h.size h vy g) : Does Try.prog 22 [vx, vy] h (fun v h' => v = .bool (tb (f = g)) ∧ Ext h h') := by
  have hmx : maxLen = 9223372036854775807 := by decide
  have k0 : At h.size h h := At.refl (Nat.le_refl _)
  obtain ⟨vu, vt, vo, rfl, hn, hk, hU, hT, hO⟩ := hx
  obtain ⟨vu', vt', vo', rfl, hn', hk', hU', hT', hO'⟩ := hy
  have hO0 := hO
  have hU0 := hU
  have hT0 := hT
  have hO0' := hO'
  have hU0' := hU'
  have hT0' := hT'
  obtain ⟨ao, co, rfl⟩ := hO.form
  obtain ⟨au, cu, rfl⟩ := hU.form
  obtain ⟨at0, ct0, rfl⟩ := SliceAt.form hT
  obtain ⟨ao', co', rfl⟩ := hO'.form
  obtain ⟨au', cu', rfl⟩ := hU'.form
  obtain ⟨at0', ct0', rfl⟩ := SliceAt.form hT'
  have hol := hO.1
  have hul := hU.1
  refine fn_enter (N := 99) Try.func22 (by kernel_rfl) rfl rfl rfl (fun w0 => ?_)
  refine c_seq ?_; refine c_reg ?_; refine bx rfl nofun rfl (fun h1 n1 => ?_)
  have s1 : h1.size = h.size + 1 := n1.size
  have k_1 := k0.ext n1.ext
  have b2_1 := n1.at_
  refine bx rfl nofun rfl (fun h2 n2 => ?_)
  have s2 : h2.size = h1.size + 1 := n2.size
  have k_2 := k_1.ext n2.ext
  have b2_2 := n2.ext.get b2_1
  have b3_2 := n2.at_
  refine asg rfl rfl ?_; refine o_nil ?_; refine x_seq ?_
  refine c_seq ?_; refine c_seq ?_; refine c_reg ?_
  refine fa rfl rfl (ld rfl (cell b2_2 rfl) rfl (fa rfl rfl (ld rfl (cell b3_2 rfl) rfl (nes rfl rfl rfl (mv rfl rfl (gqf rfl rfl rfl (fun e => fa rfl rfl) (gqf rfl rfl rfl (fun e => ld (cg rfl e) (cell b2_2 rfl) rfl) ?_)))))))
  refine gqf rfl rfl rfl (fun e => fa rfl rfl) (gqf rfl rfl rfl (fun e => ld (cg rfl e) (cell b3_2 rfl) rfl) (gqf rfl rfl rfl (fun e => nei (cg rfl e) (cg rfl e) rfl) ?_))
  refine pko rfl rfl rfl rfl (mv rfl rfl (gqf rfl rfl rfl (fun e => fa rfl rfl) (gqf rfl rfl rfl (fun e => ld (cg rfl e) (cell b2_2 rfl) rfl) (gqf rfl rfl rfl (fun e => lnl (cg rfl e) rfl) ?_))))
  refine gqf rfl rfl rfl (fun e => fa rfl rfl) (gqf rfl rfl rfl (fun e => ld (cg rfl e) (cell b3_2 rfl) rfl) (gqf rfl rfl rfl (fun e => lnl (cg rfl e) rfl) (gqf rfl rfl rfl (fun e => nei (cg rfl e) (cg rfl e) rfl) ?_)))
  refine pko rfl rfl rfl rfl (mv rfl rfl (gqf rfl rfl rfl (fun e => fa rfl rfl) (gqf rfl rfl rfl (fun e => ld (cg rfl e) (cell b2_2 rfl) rfl) (gqf rfl rfl rfl (fun e => lnl (cg rfl e) rfl) ?_))))
  refine gqf rfl rfl rfl (fun e => fa rfl rfl) (gqf rfl rfl rfl (fun e => ld (cg rfl e) (cell b3_2 rfl) rfl) (gqf rfl rfl rfl (fun e => lnl (cg rfl e) rfl) (gqf rfl rfl rfl (fun e => nei (cg rfl e) (cg rfl e) rfl) ?_)))
  refine pko rfl rfl rfl rfl (mv rfl rfl (gqf rfl rfl rfl (fun e => fa rfl rfl) (gqf rfl rfl rfl (fun e => ld (cg rfl e) (cell b2_2 rfl) rfl) (gqf rfl rfl rfl (fun e => fa rfl rfl) ?_))))
  refine gqf rfl rfl rfl (fun e => ld (cg rfl e) (cell b3_2 rfl) rfl) (gef rfl rfl rfl (fun e kk => clE ((tables_fn (TypesAt.keep hT0 (At.k k_2) (At.n k_2)) (TypesAt.keep hT0' (At.k k_2) (At.n k_2)))) (a2 (cg rfl e) (cg rfl e)) rfl kk) (fun h3 x3 => ?_))
  have s3 : h2.size ≤ h3.size := x3.size
  have k_3 := k_2.ext x3
  have b2_3 := x3.get b2_2
  have b3_3 := x3.get b3_2
  refine gqf rfl rfl rfl (fun e => nt (cg rfl e) rfl) (pko rfl rfl rfl rfl ?_)
  refine o_nil ?_; refine x_seq ?_; refine c_cond rfl (fun c4 => ?_) (fun c4 => ?_)
  · refine c_seq ?_; refine c_reg ?_; refine asg rfl rfl ?_; refine o_nil ?_; refine x_seq ?_; refine c_ret ?_; refine x_seq_ret ?_
    refine ret1 (.inr rfl) rfl rfl ?_
    refine ⟨congrArg Value.bool (tb_f (fun e => ?_)).symm, (k_3).toExt⟩
    subst e
    rcases c4 with (((c | c) | c) | c) | c <;> exact c rfl
  · have d1 : f.name = g.name := Classical.byContradiction fun e => c4 (.inl (.inl (.inl (.inl e))))
    have d2 : f.key = g.key := Classical.byContradiction fun e => c4 (.inl (.inl (.inl (.inr e))))
    have d3 : f.uses.length = g.uses.length := by have : (f.uses.length : Int) = g.uses.length := Classical.byContradiction fun e => c4 (.inl (.inl (.inr e))); omega
    have d4 : f.objs.length = g.objs.length := by have : (f.objs.length : Int) = g.objs.length := Classical.byContradiction fun e => c4 (.inl (.inr e)); omega
    have d5 : f.types = g.types := Classical.byContradiction fun e => c4 (.inr e)
    have hiff : f = g ↔ f.uses = g.uses ∧ f.objs = g.objs := face_eq.trans ⟨fun e => ⟨e.1.1.2, e.1.2⟩, fun e => ⟨⟨⟨⟨d1, d2⟩, e.1⟩, e.2⟩, d5⟩⟩
    refine c_skip ?_; refine x_seq ?_
    refine c_seq ?_; refine c_seq ?_; refine c_reg ?_; refine asg rfl rfl ?_; refine o_nil ?_; refine x_seq ?_; refine c_blk ?_
    refine c_loop (α := Nat) (fun i => [(2, ptr h.size 0), (3, ptr h1.size 0), (5, i64 (i : Nat))]) (fun _ => h3) (fun i => i ≤ f.uses.length ∧ ∀ j, j < i → f.uses[j]? = g.uses[j]?) (fun i => f.uses.length - i) 0 ⟨Nat.zero_le _, fun j e => absurd e (Nat.not_lt_zero _)⟩ ⟨rfl, rfl, rfl, trivial⟩ rfl (fun i hs => ?_)
    obtain ⟨hil, hup⟩ := hs
    change SC _ _ _ _ h3
    refine c_seq ?_; refine c_seq ?_; refine c_reg ?_; refine mv rfl rfl (fa rfl rfl (ld rfl (cell b2_3 rfl) rfl (lnl rfl rfl (lti rfl rfl rfl ?_))))
    refine o_nil ?_; refine x_seq ?_; refine c_cond rfl (fun c5 => ?_) (fun c5 => ?_)
    · have hlt : i < f.uses.length := by have := c5; omega
      have hxi : f.uses[i]? = some f.uses[i] := List.getElem?_eq_getElem hlt
      have hyi : g.uses[i]? = some (g.uses[i]'(by omega)) := List.getElem?_eq_getElem _
      obtain ⟨b2, o2, cs2, ha2, hb2, hl2, hr2, hR2⟩ := SliceAt.el hU0 k_3 hxi
      obtain ⟨b3, o3, cs3, ha3, hb3, hl3, hr3, hR3⟩ := SliceAt.el hU0' k_3 hyi
      generalize f.uses[i] = u at *
      generalize g.uses[i]'(by omega) = w at *
      subst ha2
      subst ha3
      obtain ⟨rfl, -⟩ := hR2
      obtain ⟨rfl, -⟩ := hR3
      refine c_skip ?_; refine x_seq ?_
      refine c_seq ?_; refine c_blk ?_; refine c_seq ?_
      refine c_dreg (· = h3) [0, 1, 2, 3, 4, 5, 6, 7, 8, 9, 10, 11, 12, 13, 14, 15, 16, 17, 18, 19, 20, 21, 22, 23, 24, 25, 26, 27] rfl rfl (by kernel_rfl) ?_
      refine fa rfl rfl (ldI rfl (fun _ hI => by subst hI; exact cell b2_3 rfl) rfl (mv rfl rfl (ixs rfl rfl (by omega) rfl (fa rfl rfl (ldI rfl (fun _ hI => by subst hI; exact (hr2 0 _ rfl)) rfl ?_)))))
      refine fa rfl rfl (ldI rfl (fun _ hI => by subst hI; exact cell b3_3 rfl) rfl (mv rfl rfl (ixs rfl rfl (by omega) rfl (fa rfl rfl (ldI rfl (fun _ hI => by subst hI; exact (hr3 0 _ rfl)) rfl ?_)))))
      refine nes rfl rfl rfl (mv rfl rfl (gqf rfl rfl rfl (fun e => fa rfl rfl) (gqf rfl rfl rfl (fun e => ldI (cg rfl e) (fun _ hI => by subst hI; exact cell b2_3 rfl) rfl) ?_)))
      refine gqf rfl rfl rfl (fun e => mv rfl rfl) (gqf rfl rfl rfl (fun e => ixs (cg rfl e) (cg rfl e) (by omega) rfl) (gqf rfl rfl rfl (fun e => fa (cg rfl e) rfl) ?_))
      refine gqf rfl rfl rfl (fun e => ldI (cg rfl e) (fun _ hI => by subst hI; exact (hr2 1 _ rfl)) rfl) (gqf rfl rfl rfl (fun e => fa rfl rfl) (gqf rfl rfl rfl (fun e => ldI (cg rfl e) (fun _ hI => by subst hI; exact cell b3_3 rfl) rfl) ?_))
      refine gqf rfl rfl rfl (fun e => mv rfl rfl) (gqf rfl rfl rfl (fun e => ixs (cg rfl e) (cg rfl e) (by omega) rfl) (gqf rfl rfl rfl (fun e => fa (cg rfl e) rfl) ?_))
      refine gqf rfl rfl rfl (fun e => ldI (cg rfl e) (fun _ hI => by subst hI; exact (hr3 1 _ rfl)) rfl) (gqf rfl rfl rfl (fun e => nei (cg rfl e) (cg rfl e) rfl) (pko rfl rfl rfl rfl ?_))
      refine o_nil ?_; refine x_seq ?_; refine c_cond rfl (fun c6 => ?_) (fun c6 => ?_)
      · refine c_seq ?_; refine c_reg ?_; refine asg rfl rfl ?_; refine o_nil ?_; refine x_seq ?_; refine c_ret ?_; refine x_blk_ret ?_
        refine x_seq_ret ?_; refine x_loop_ret ?_; refine x_blk_ret ?_; refine x_seq_ret ?_; refine ret1 (.inr rfl) rfl rfl ?_
        refine ⟨congrArg Value.bool (tb_f (fun e => ?_)).symm, (k_3).toExt⟩
        rw [(hiff.1 e).1, hyi] at hxi
        cases hxi
        rcases c6 with c | c <;> exact c rfl
      · refine c_skip ?_; refine x_blk ?_; refine x_seq ?_; refine c_reg ?_; refine mv rfl rfl (add rfl rfl (by omega) rfl (asg rfl rfl ?_))
        refine o_nil ?_
        refine x_loop (i + 1) ⟨hlt, fun j hj => ?_⟩ (by omega) ⟨rfl, rfl, rfl, trivial⟩ rfl
        rcases Nat.lt_or_ge j i with e | e
        · exact hup j e
        · rw [show j = i by omega, hxi, hyi]
          have q1 : u.name = w.name := Classical.byContradiction fun e => c6 (.inl e)
          have q2 : u.key = w.key := Classical.byContradiction fun e => c6 (.inr e)
          cases u; cases w; simp only at q1 q2; rw [q1, q2]
    · have hie : i = f.uses.length := by have := c5; omega
      subst hie
      have hue := upto_eq d3 hup
      refine c_exit ?_; refine x_seq_exit ?_; refine x_loop_exit ?_; refine x_blk_hit ?_; refine x_seq ?_
      refine c_seq ?_; refine c_seq ?_; refine c_reg ?_; refine asg rfl rfl ?_; refine o_nil ?_; refine x_seq ?_; refine c_blk ?_
      refine c_loop (α := Nat × Heap) (fun y => [(2, ptr h.size 0), (3, ptr h1.size 0), (6, i64 (y.1 : Nat))]) (fun y => y.2) (fun y => At h.size h y.2 ∧ y.2[h.size]? = h3[h.size]? ∧ y.2[h1.size]? = h3[h1.size]? ∧ y.1 ≤ f.objs.length ∧ ∀ j, j < y.1 → f.objs[j]? = g.objs[j]?) (fun y => f.objs.length - y.1) (0, h3) ⟨k_3, rfl, rfl, Nat.zero_le _, fun j e => absurd e (Nat.not_lt_zero _)⟩ ⟨rfl, rfl, rfl, trivial⟩ rfl (fun y hs => ?_)
      obtain ⟨i, z⟩ := y
      obtain ⟨kz, z2, z3, hil, hup⟩ := hs
      simp only at kz z2 z3 hil hup
      have y2 := z2.trans b2_3
      have y3 := z3.trans b3_3
      have kzn := kz.n
      change SC _ _ _ _ z
      refine c_seq ?_; refine c_seq ?_; refine c_reg ?_; refine mv rfl rfl (fa rfl rfl (ld rfl (cell y2 rfl) rfl (lnl rfl rfl (lti rfl rfl rfl ?_))))
      refine o_nil ?_; refine x_seq ?_; refine c_cond rfl (fun c7 => ?_) (fun c7 => ?_)
      · have hlt : i < f.objs.length := by have := c7; simp only at this; omega
        have hxi : f.objs[i]? = some f.objs[i] := List.getElem?_eq_getElem hlt
        have hyi : g.objs[i]? = some (g.objs[i]'(by omega)) := List.getElem?_eq_getElem _
        obtain ⟨b2, o2, cs2, ha2, hb2, hl2, hr2, hR2⟩ := SliceAt.el hO0 kz hxi
        obtain ⟨b3, o3, cs3, ha3, hb3, hl3, hr3, hR3⟩ := SliceAt.el hO0' kz hyi
        generalize f.objs[i] = u at *
        generalize g.objs[i]'(by omega) = w at *
        subst ha2
        subst ha3
        obtain ⟨rfl, -⟩ := hR2
        obtain ⟨rfl, -⟩ := hR3
        refine c_skip ?_; refine x_seq ?_
        refine c_seq ?_; refine c_blk ?_; refine c_seq ?_
        refine c_treg (Mod (fun k => False) z) (some 10) [10, 9, 8, 7, 6, 5, 4, 3, 2, 1, 0] (.leaf [0, 1, 2, 3, 4, 5, 6, 7, 8, 9] [10, 11]) rfl (Mod.refl _ _) (by kernel_rfl) ?_
        have c0_2 : Mod (fun k => False) z z := Mod.refl _ _
        refine t_leaf ?_
        refine fa rfl rfl (ldI rfl (fun _ hI => cell (hI.get y2 (by first | exact id | (intro e; have e : _ = _ := e; omega) | assumption)) rfl) rfl (mv rfl rfl (ixs rfl rfl (by omega) rfl ?_)))
        refine ldnI rfl rfl (fun _ hI => Mod.row hI hr2 (by first | exact id | (intro e; have e : _ = _ := e; omega) | assumption)) rfl (fa rfl rfl (ldI rfl (fun _ hI => cell (hI.get y3 (by first | exact id | (intro e; have e : _ = _ := e; omega) | assumption)) rfl) rfl ?_))
        refine mv rfl rfl (ixs rfl rfl (by omega) rfl (ldnI rfl rfl (fun _ hI => Mod.row hI hr3 (by first | exact id | (intro e; have e : _ = _ := e; omega) | assumption)) rfl ?_))
        refine o_nil ?_; refine x_tail ?_; refine clE ((sameO_fn u w _)) rfl rfl (fun h8 x8 => ?_)
        have s8 : z.size ≤ h8.size := x8.size
        have k_8 := kz.ext x8
        have y2_8 := x8.get y2
        have y3_8 := x8.get y3
        refine nt rfl rfl ?_; refine o_nil ?_; refine x_seq ?_; refine c_cond rfl (fun c9 => ?_) (fun c9 => ?_)
        · refine c_seq ?_; refine c_reg ?_; refine asg rfl rfl ?_; refine o_nil ?_; refine x_seq ?_; refine c_ret ?_; refine x_blk_ret ?_
          refine x_seq_ret ?_; refine x_loop_ret ?_; refine x_blk_ret ?_; refine x_seq_ret ?_; refine ret1 (.inr rfl) rfl rfl ?_
          refine ⟨congrArg Value.bool (tb_f (fun e => ?_)).symm, (k_8).toExt⟩
          rw [(hiff.1 e).2, hyi] at hxi
          cases hxi
          exact c9 rfl
        · refine c_skip ?_; refine x_blk ?_; refine x_seq ?_; refine c_reg ?_; refine mv rfl rfl (add rfl rfl (by omega) rfl (asg rfl rfl ?_))
          refine o_nil ?_
          refine x_loop (i + 1, h8) ⟨k_8, y2_8.trans b2_3.symm, y3_8.trans b3_3.symm, hlt, fun j hj => ?_⟩ (by simp only; omega) ⟨rfl, rfl, rfl, trivial⟩ rfl
          rcases Nat.lt_or_ge j i with e | e
          · exact hup j e
          · rw [show j = i by have := hj; simp only at this; omega, hxi, hyi, Classical.not_not.1 c9]
      · have hie : i = f.objs.length := by have := c7; simp only at this; omega
        subst hie
        refine c_exit ?_; refine x_seq_exit ?_; refine x_loop_exit ?_; refine x_blk_hit ?_; refine x_seq ?_; refine c_seq ?_; refine c_reg ?_
        refine asg rfl rfl ?_; refine o_nil ?_; refine x_seq ?_; refine c_ret ?_; refine ret1 (.inr rfl) rfl rfl ?_
        exact ⟨congrArg Value.bool (tb_t (hiff.2 ⟨hue, upto_eq d4 hup⟩)).symm, (kz).toExt⟩
theorem used_ones {h : Heap} : ∀ (x : Used) cs, usedR h x cs → ∀ u ∈ cs, u.oneCell' = true := by
  intro x cs ⟨hc, _⟩ u hu; subst hc; simp at hu; rcases hu with rfl | rfl <;> rfl
theorem obj_ones {h : Heap} : ∀ (x : Ob) cs, objR h x cs → ∀ u ∈ cs, u.oneCell' = true := by
  intro x cs ⟨hc, _⟩ u hu; subst hc; simp at hu; rcases hu with rfl | rfl | rfl | rfl | rfl | rfl | rfl <;> rfl
/-- an interface in new memory, all from N on -/
def FaceN (N : Nat) (h : Heap) (v : Value) (f : Face) : Prop := ∃ vu vt vo, v = .agg #[str f.name, .int .u32 f.key, vu, vt, vo] ∧ TysOwn (fun b => N ≤ b) h vt f.types ∧
  SliceB (fun b => N ≤ b ∧ ¬ ownB vt b) h 2 (usedR h) vu f.uses ∧ SliceB (fun b => N ≤ b ∧ ¬ ownB vt b) h 7 (objR h) vo f.objs
theorem FaceN.face {N : Nat} {h : Heap} {v : Value} {f : Face} (a : FaceN N h v f) (hn : f.name.length ≤ maxLen) (hk : inU32 f.key) (hl : f.types.length ≤ maxLen) : FaceV h.size h v f := by
  obtain ⟨vu, vt, vo, rfl, hT, hU, hO⟩ := a
  exact ⟨vu, vt, vo, rfl, hn, hk, hU.at_ (fun b hb _ => hb), hT.at_ hl, hO.at_ (fun b hb _ => hb)⟩
theorem FaceN.mod {S : Nat → Prop} {N : Nat} {h h' : Heap} {v : Value} {f : Face} (a : FaceN N h v f) (m : Go.Eng.Mod S h h') (hS : ∀ b, N ≤ b → b < h.size → ¬ S b) : FaceN N h' v f := by
  obtain ⟨vu, vt, vo, rfl, hT, hU, hO⟩ := a
  exact ⟨vu, vt, vo, rfl, hT.mod m hS, hU.mod m (fun b hb e => ⟨hS b e.1 hb, e⟩), hO.mod m (fun b hb e => ⟨hS b e.1 hb, e⟩)⟩
set_option maxHeartbeats 2000000 in
theorem copy16_fn {h : Heap} {fv : Value} {f : Face} (hF : FaceV h.size h fv f) (hlg : ¬ Large16P f) : Does Try.prog 16 [fv] h (fun v h' => FaceN h.size h' v f ∧ Ext h h') := by
  have hmx : maxLen = 9223372036854775807 := by decide
  have k0 : At h.size h h := At.refl (Nat.le_refl _)
  obtain ⟨vu, vt, vo, rfl, hn, hk, hU, hT, hO⟩ := hF
  have hO0 := hO
  have hU0 := hU
  have hT0 := hT
  obtain ⟨ao, co, rfl⟩ := hO.form
  obtain ⟨au, cu, rfl⟩ := hU.form
  obtain ⟨at0, ct0, rfl⟩ := SliceAt.form hT
  have hu100 : f.uses.length ≤ 100 := Nat.le_of_not_lt fun e => hlg (.inl (.inl (.inl (.inl e))))
  have ho200 : f.objs.length ≤ 200 := Nat.le_of_not_lt fun e => hlg (.inl (.inl (.inl (.inr e))))
  obtain ⟨ht300, hsz⟩ := not_large (fun e => hlg (.inl (.inr e)))
  refine fn_enter (N := 18) Try.func16 (by kernel_rfl) rfl rfl rfl (fun w0 => ?_)
  refine c_seq ?_; refine c_reg ?_; refine bx rfl nofun rfl (fun h1 n1 => ?_)
  have s1 : h1.size = h.size + 1 := n1.size
  have k_1 := k0.ext n1.ext
  have b1_1 := n1.at_
  refine alc nofun rfl (fun h2 n2 => ?_)
  have s2 : h2.size = h1.size + 1 := n2.size
  have k_2 := k_1.ext n2.ext
  have b1_2 := n2.ext.get b1_1
  have b2_2 := n2.at_
  refine o_nil ?_; refine x_seq ?_; refine c_seq ?_; refine c_reg ?_
  refine bsl (vs := []) (cs := #[]) (E := 65) rfl (fun _ => by kernel_rfl) nofun rfl (fun h3 n3 => ?_)
  obtain ⟨cf1, sf1, qf1, qf2, qf3⟩ := hU0.src Try.prog (k_2.ext n3.ext)
  have s3 : h3.size = h2.size + 1 := n3.size
  have k_3 := k_2.ext n3.ext
  have b1_3 := n3.ext.get b1_2
  have b2_3 := n3.ext.get b2_2
  refine fa rfl rfl (ld rfl (cell b1_3 rfl) rfl (app U_sl rfl rfl (n3.owns (n := 0) rfl (by decide)) sf1 (by rw [flat_len _ qf2, qf1]) (flat_ones qf1 qf3 used_ones) (by omega) (by omega) nofun rfl (fun v4 h4 o4 m4 f4 => ?_)))
  rw [Nat.zero_add, List.nil_append] at o4
  obtain ⟨a4, ca4, rfl⟩ := o4.form
  have s4 : h3.size ≤ h4.size := m4.size
  have k_4 := (k_3.mod m4 (fun k e => by have := ownB_eq e; omega))
  have b1_4 := (m4.get b1_3 (fun e => by have := ownB_eq e; omega))
  have b2_4 := (m4.get b2_3 (fun e => by have := ownB_eq e; omega))
  refine fa rfl rfl (st rfl rfl rfl b1_4 rfl nofun (fun h5 u5 => ?_))
  have s5 : h5.size = h4.size := u5.size
  have k_5 := k_4.upd u5 (by omega)
  have b2_5 := u5.ne b2_4 (by omega)
  have b1_5 := u5.at_
  refine o_nil ?_; refine x_seq ?_; refine c_seq ?_; refine c_reg ?_
  refine fa rfl rfl (ld rfl (cell b1_5 rfl) rfl (cl (vs := [.slice at0 f.types.length ct0]) rfl ((copy13_fn (TypesAt.keep hT0 (At.k k_5) (At.n k_5)) ht300 hsz)) rfl (fun v6 h6 r6 => ?_)))
  obtain ⟨hT6, x6, hTy6⟩ := r6
  obtain ⟨a6, ca6, rfl⟩ := SliceAt.form hT6
  have s6 := x6.size
  have k_6 := (k_5.ext x6)
  have b1_6 := (x6.get b1_5)
  have b2_6 := (x6.get b2_5)
  refine fa rfl rfl (st rfl rfl rfl b1_6 rfl nofun (fun h7 u7 => ?_))
  have s7 : h7.size = h6.size := u7.size
  have k_7 := k_6.upd u7 (by omega)
  have b2_7 := u7.ne b2_6 (by omega)
  have b1_7 := u7.at_
  refine o_nil ?_; refine x_seq ?_; refine c_seq ?_; refine c_reg ?_
  refine bsl (vs := []) (cs := #[]) (E := 34) rfl (fun _ => by kernel_rfl) nofun rfl (fun h8 n8 => ?_)
  obtain ⟨cp1, sp1, qp1, qp2, qp3⟩ := hO0.src Try.prog (k_7.ext n8.ext)
  have s8 : h8.size = h7.size + 1 := n8.size
  have k_8 := k_7.ext n8.ext
  have b1_8 := n8.ext.get b1_7
  have b2_8 := n8.ext.get b2_7
  refine fa rfl rfl (ld rfl (cell b1_8 rfl) rfl (app U_sl rfl rfl (n8.owns (n := 0) rfl (by decide)) sp1 (by rw [flat_len _ qp2, qp1]) (flat_ones qp1 qp3 obj_ones) (by omega) (by omega) nofun rfl (fun v9 h9 o9 m9 f9 => ?_)))
  rw [Nat.zero_add, List.nil_append] at o9
  obtain ⟨a9, ca9, rfl⟩ := o9.form
  have s9 : h8.size ≤ h9.size := m9.size
  have k_9 := (k_8.mod m9 (fun k e => by have := ownB_eq e; omega))
  have b1_9 := (m9.get b1_8 (fun e => by have := ownB_eq e; omega))
  have b2_9 := (m9.get b2_8 (fun e => by have := ownB_eq e; omega))
  refine fa rfl rfl (st rfl rfl rfl b1_9 rfl nofun (fun h10 u10 => ?_))
  have s10 : h10.size = h9.size := u10.size
  have k_10 := k_9.upd u10 (by omega)
  have b2_10 := u10.ne b2_9 (by omega)
  have b1_10 := u10.at_
  refine o_nil ?_; refine x_seq ?_; refine c_seq ?_; refine c_reg ?_
  refine ldn rfl rfl (row_blk b1_10) rfl (stw rfl rfl rfl (ones rfl) b2_10 rfl nofun (fun h11 u11 => ?_))
  have s11 : h11.size = h10.size := u11.size
  have k_11 := k_10.upd u11 (by omega)
  have b1_11 := u11.ne b1_10 (by omega)
  have b2_11 := u11.at_
  refine o_nil ?_; refine x_seq ?_; refine c_ret ?_; refine retc1 (.inr rfl) rfl rfl rfl (row_blk b2_11) ?_
  have cm : Go.Eng.Mod (fun k => k = h.size ∨ k = h1.size) h6 h11 := (((((Go.Eng.Mod.refl _ h6).upd u7 (.inl (.inl rfl))).trans (n8.ext.mod _)).andMod m9 (fun k e => .inr (by have := ownB_eq e; omega))).upd u10 (.inl (.inl rfl))).upd u11 (.inl (.inr rfl))
  have q0 : TysOwn (fun b => h5.size ≤ b) h11 (.slice a6 f.types.length ca6) f.types := hTy6.mod cm (fun b p1 p2 e => by omega)
  have q0lt := hTy6.lt
  have r1 := (own_slice (n := f.uses.length) rfl hU0.1 o4 qf1 qf2 qf3).mono (B' := fun b => b = h2.size ∨ (h3.size ≤ b ∧ b < h4.size)) (fun b hb e => (f4 b e).imp ownB_eq (fun e => ⟨e, hb⟩))
  have r1 := ((((((r1.mod (B' := fun b => b = h2.size ∨ (h3.size ≤ b ∧ b < h4.size)) u5.mod (fun b _ e => ⟨fun e' => by have e' : b = h.size := e'; omega, e⟩)).mod (B' := fun b => b = h2.size ∨ (h3.size ≤ b ∧ b < h4.size)) x6 (fun b _ e => ⟨fun e => e, e⟩)).mod (B' := fun b => b = h2.size ∨ (h3.size ≤ b ∧ b < h4.size)) u7.mod (fun b _ e => ⟨fun e' => by have e' : b = h.size := e'; omega, e⟩)).mod (B' := fun b => b = h2.size ∨ (h3.size ≤ b ∧ b < h4.size)) n8.ext (fun b _ e => ⟨fun e => e, e⟩)).mod (B' := fun b => b = h2.size ∨ (h3.size ≤ b ∧ b < h4.size)) m9 (fun b _ e => ⟨fun e' => by have := ownB_eq e'; omega, e⟩)).mod (B' := fun b => b = h2.size ∨ (h3.size ≤ b ∧ b < h4.size)) u10.mod (fun b _ e => ⟨fun e' => by have e' : b = h.size := e'; omega, e⟩)).mod (B' := fun b => b = h2.size ∨ (h3.size ≤ b ∧ b < h4.size)) u11.mod (fun b _ e => ⟨fun e' => by have e' : b = h1.size := e'; omega, e⟩)
  have r2 := (own_slice (n := f.objs.length) rfl hO0.1 o9 qp1 qp2 qp3).mono (B' := fun b => b = h7.size ∨ (h8.size ≤ b ∧ b < h9.size)) (fun b hb e => (f9 b e).imp ownB_eq (fun e => ⟨e, hb⟩))
  have r2 := ((r2.mod (B' := fun b => b = h7.size ∨ (h8.size ≤ b ∧ b < h9.size)) u10.mod (fun b _ e => ⟨fun e' => by have e' : b = h.size := e'; omega, e⟩)).mod (B' := fun b => b = h7.size ∨ (h8.size ≤ b ∧ b < h9.size)) u11.mod (fun b _ e => ⟨fun e' => by have e' : b = h1.size := e'; omega, e⟩))
  refine ⟨⟨_, _, _, rfl, ?_, ?_, ?_⟩, (k_11).toExt⟩
  · exact q0.mono (fun b _ e => by omega)
  · exact r1.mono (fun b _ e => ⟨by omega, fun e' => by have := hTy6.low b e'; omega⟩)
  · exact r2.mono (fun b _ e => ⟨by omega, fun e' => by have := q0lt b e'; omega⟩)
end

/-! The walks of what copies lists. No condition but what each theorem says. -/
section
open Go Go.Eng

theorem cloneU_fn {N : Nat} {h0 h : Heap} {v : Value} {xs : List Used} (hs : SliceAt N h0 2 usedR v xs) (k0 : At N h0 h) (hl : xs.length ≤ 3000) :
    Does Try.prog 41 [v] h (fun v' h' => OwnS h' 65 2 (usedR h') v' xs ∧ (∀ b, ownB v' b → h.size ≤ b) ∧ Ext h h') := by
  have hmx : maxLen = 9223372036854775807 := by decide
  have kk : At h.size h h := At.refl (Nat.le_refl _)
  have hs0 := hs
  obtain ⟨a0, c0, rfl⟩ := hs.form
  refine fn_enter (N := 8) Try.func41 (by kernel_rfl) rfl rfl rfl (fun w0 => ?_)
  refine c_seq ?_; refine c_reg ?_; refine asg rfl rfl ?_; refine o_nil ?_; refine x_seq ?_
  refine c_seq ?_; refine c_seq ?_; refine c_reg ?_; refine mv rfl rfl (eqsn rfl rfl rfl ?_)
  refine o_nil ?_; refine x_seq ?_; refine c_cond rfl (fun c1 => ?_) (fun c1 => ?_)
  · refine c_seq ?_; refine c_reg ?_; refine asg rfl rfl ?_; refine o_nil ?_; refine x_seq ?_; refine c_ret ?_; refine x_seq_ret ?_
    refine ret1 (.inr rfl) rfl rfl ?_
    have hx : xs = [] := by
     cases xs with
     | nil => rfl
     | cons x r =>
       obtain ⟨_, a, c, he, hi⟩ := hs0
       cases he
       obtain ⟨b, o, cs, ha, -⟩ := hi 0 x rfl
       rw [ha] at c1; cases c1
    subst hx
    exact ⟨OwnS.nil _ _ _ _, fun b e => by simp [ownB, Value.ownBlock] at e, Mod.refl _ _⟩
  · refine c_skip ?_; refine x_seq ?_; refine c_seq ?_; refine c_reg ?_
    refine bsl (vs := []) (cs := #[]) (E := 65) rfl (fun _ => by kernel_rfl) nofun rfl (fun h2 n2 => ?_)
    obtain ⟨cf1, sf1, qf1, qf2, qf3⟩ := hs0.src Try.prog (k0.ext n2.ext)
    have s2 : h2.size = h.size + 1 := n2.size
    have k_2 := kk.ext n2.ext
    refine mv rfl rfl (app U_sl rfl rfl (n2.owns (n := 0) rfl (by decide)) sf1 (by rw [flat_len _ qf2, qf1]) (flat_ones qf1 qf3 used_ones) (by omega) (by omega) nofun rfl (fun v3 h3 o3 m3 f3 => ?_))
    have s3 : h2.size ≤ h3.size := m3.size
    have k_3 := (k_2.mod m3 (fun k e => by have := ownB_eq e; omega))
    refine asg rfl rfl ?_; refine o_nil ?_; refine x_seq ?_; refine c_ret ?_; refine ret1 (.inr rfl) rfl rfl ?_
    rw [Nat.zero_add, List.nil_append] at o3
    exact ⟨⟨cf1, o3, qf1, qf2, qf3⟩, fun b e => (f3 b e).elim (fun e => by have := ownB_eq e; omega) (fun e => by omega), (k_3).toExt⟩
theorem cloneF_fn {N : Nat} {h0 h : Heap} {v : Value} {xs : List Fld} (hs : SliceAt N h0 3 fldR v xs) (k0 : At N h0 h) (hl : xs.length ≤ 3000) :
    Does Try.prog 87 [v] h (fun v' h' => OwnS h' 83 3 (fldR h') v' xs ∧ (∀ b, ownB v' b → h.size ≤ b) ∧ Ext h h') := by
  have hmx : maxLen = 9223372036854775807 := by decide
  have kk : At h.size h h := At.refl (Nat.le_refl _)
  have hs0 := hs
  obtain ⟨a0, c0, rfl⟩ := hs.form
  refine fn_enter (N := 8) Try.func87 (by kernel_rfl) rfl rfl rfl (fun w0 => ?_)
  refine c_seq ?_; refine c_reg ?_; refine asg rfl rfl ?_; refine o_nil ?_; refine x_seq ?_
  refine c_seq ?_; refine c_seq ?_; refine c_reg ?_; refine mv rfl rfl (eqsn rfl rfl rfl ?_)
  refine o_nil ?_; refine x_seq ?_; refine c_cond rfl (fun c1 => ?_) (fun c1 => ?_)
  · refine c_seq ?_; refine c_reg ?_; refine asg rfl rfl ?_; refine o_nil ?_; refine x_seq ?_; refine c_ret ?_; refine x_seq_ret ?_
    refine ret1 (.inr rfl) rfl rfl ?_
    have hx : xs = [] := by
     cases xs with
     | nil => rfl
     | cons x r =>
       obtain ⟨_, a, c, he, hi⟩ := hs0
       cases he
       obtain ⟨b, o, cs, ha, -⟩ := hi 0 x rfl
       rw [ha] at c1; cases c1
    subst hx
    exact ⟨OwnS.nil _ _ _ _, fun b e => by simp [ownB, Value.ownBlock] at e, Mod.refl _ _⟩
  · refine c_skip ?_; refine x_seq ?_; refine c_seq ?_; refine c_reg ?_
    refine bsl (vs := []) (cs := #[]) (E := 83) rfl (fun _ => by kernel_rfl) nofun rfl (fun h2 n2 => ?_)
    obtain ⟨cf1, sf1, qf1, qf2, qf3⟩ := hs0.src Try.prog (k0.ext n2.ext)
    have s2 : h2.size = h.size + 1 := n2.size
    have k_2 := kk.ext n2.ext
    refine mv rfl rfl (app U_sl rfl rfl (n2.owns (n := 0) rfl (by decide)) sf1 (by rw [flat_len _ qf2, qf1]) (flat_ones qf1 qf3 fld_ones) (by omega) (by omega) nofun rfl (fun v3 h3 o3 m3 f3 => ?_))
    have s3 : h2.size ≤ h3.size := m3.size
    have k_3 := (k_2.mod m3 (fun k e => by have := ownB_eq e; omega))
    refine asg rfl rfl ?_; refine o_nil ?_; refine x_seq ?_; refine c_ret ?_; refine ret1 (.inr rfl) rfl rfl ?_
    rw [Nat.zero_add, List.nil_append] at o3
    exact ⟨⟨cf1, o3, qf1, qf2, qf3⟩, fun b e => (f3 b e).elim (fun e => by have := ownB_eq e; omega) (fun e => by omega), (k_3).toExt⟩
theorem cloneP_fn {N : Nat} {h0 h : Heap} {v : Value} {xs : List Par} (hs : SliceAt N h0 2 parR v xs) (k0 : At N h0 h) (hl : xs.length ≤ 3000) :
    Does Try.prog 88 [v] h (fun v' h' => OwnS h' 85 2 (parR h') v' xs ∧ (∀ b, ownB v' b → h.size ≤ b) ∧ Ext h h') := by
  have hmx : maxLen = 9223372036854775807 := by decide
  have kk : At h.size h h := At.refl (Nat.le_refl _)
  have hs0 := hs
  obtain ⟨a0, c0, rfl⟩ := hs.form
  refine fn_enter (N := 8) Try.func88 (by kernel_rfl) rfl rfl rfl (fun w0 => ?_)
  refine c_seq ?_; refine c_reg ?_; refine asg rfl rfl ?_; refine o_nil ?_; refine x_seq ?_
  refine c_seq ?_; refine c_seq ?_; refine c_reg ?_; refine mv rfl rfl (eqsn rfl rfl rfl ?_)
  refine o_nil ?_; refine x_seq ?_; refine c_cond rfl (fun c1 => ?_) (fun c1 => ?_)
  · refine c_seq ?_; refine c_reg ?_; refine asg rfl rfl ?_; refine o_nil ?_; refine x_seq ?_; refine c_ret ?_; refine x_seq_ret ?_
    refine ret1 (.inr rfl) rfl rfl ?_
    have hx : xs = [] := by
     cases xs with
     | nil => rfl
     | cons x r =>
       obtain ⟨_, a, c, he, hi⟩ := hs0
       cases he
       obtain ⟨b, o, cs, ha, -⟩ := hi 0 x rfl
       rw [ha] at c1; cases c1
    subst hx
    exact ⟨OwnS.nil _ _ _ _, fun b e => by simp [ownB, Value.ownBlock] at e, Mod.refl _ _⟩
  · refine c_skip ?_; refine x_seq ?_; refine c_seq ?_; refine c_reg ?_
    refine bsl (vs := []) (cs := #[]) (E := 85) rfl (fun _ => by kernel_rfl) nofun rfl (fun h2 n2 => ?_)
    obtain ⟨cf1, sf1, qf1, qf2, qf3⟩ := hs0.src Try.prog (k0.ext n2.ext)
    have s2 : h2.size = h.size + 1 := n2.size
    have k_2 := kk.ext n2.ext
    refine mv rfl rfl (app U_sl rfl rfl (n2.owns (n := 0) rfl (by decide)) sf1 (by rw [flat_len _ qf2, qf1]) (flat_ones qf1 qf3 par_ones) (by omega) (by omega) nofun rfl (fun v3 h3 o3 m3 f3 => ?_))
    have s3 : h2.size ≤ h3.size := m3.size
    have k_3 := (k_2.mod m3 (fun k e => by have := ownB_eq e; omega))
    refine asg rfl rfl ?_; refine o_nil ?_; refine x_seq ?_; refine c_ret ?_; refine ret1 (.inr rfl) rfl rfl ?_
    rw [Nat.zero_add, List.nil_append] at o3
    exact ⟨⟨cf1, o3, qf1, qf2, qf3⟩, fun b e => (f3 b e).elim (fun e => by have := ownB_eq e; omega) (fun e => by omega), (k_3).toExt⟩
end
end Go.Proofs.Ytgnkfegkdjfnjaa
