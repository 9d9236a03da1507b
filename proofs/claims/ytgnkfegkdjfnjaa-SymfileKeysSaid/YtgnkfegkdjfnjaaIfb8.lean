/- The walks of the reference's trimmer. No condition but what each theorem says. -/
import Derived.Test.YtgnkfegkdjfnjaaIfb1
namespace Go.Proofs.Ytgnkfegkdjfnjaa
open Go Go.Eng

def plCells (P : Nat → Nat) (n : Nat) : List Value := (List.range n).map (fun i => i64 (P i : Int))
theorem pl_at (P : Nat → Nat) {n : Nat} {a : Int} (h : 0 ≤ a ∧ a < n) : (plCells P n)[a.toNat]? = some (i64 (P a.toNat : Int)) := by
  unfold plCells; rw [List.getElem?_map, List.getElem?_range (by omega)]; rfl
theorem pl_set (P : Nat → Nat) {n a v : Nat} : (plCells P n).set a (i64 (v : Int)) = plCells (putP P a v) n := by
  refine List.ext_getElem? fun j => ?_
  unfold plCells
  by_cases hj : j < n
  · rw [List.getElem?_map, List.getElem?_range hj]
    by_cases e : a = j
    · subst e; rw [List.getElem?_set_self (by simpa using hj)]; simp [putP]
    · rw [List.getElem?_set_ne e, List.getElem?_map, List.getElem?_range hj]; simp [putP_ne _ _ (Ne.symm e)]
  · rw [List.getElem?_eq_none (by simp; omega), List.getElem?_eq_none (by simp; omega)]
structure RX (h : Heap) (m bp n : Nat) (vt : Value) (P : Nat → Nat) (vo : Value) : Prop where
  at_ : h[m]? = some (.cells #[vt, .slice (some ⟨bp, 0, none⟩) n n, vo] 80 (0, 0))
  pl : h[bp]? = some (.cells (plCells P n).toArray 3 (0, 0))
theorem RX.mod {S : Nat → Prop} {h h' : Heap} {m bp n : Nat} {vt vo : Value} {P : Nat → Nat} (a : RX h m bp n vt P vo) (x : Go.Eng.Mod S h h') (hm : ¬ S m) (hb : ¬ S bp) : RX h' m bp n vt P vo := ⟨x.get a.at_ hm, x.get a.pl hb⟩
theorem RX.get {h : Heap} {m bp n : Nat} {vt vo : Value} {P : Nat → Nat} (x : RX h m bp n vt P vo) {a : Int} (h' : 0 ≤ a ∧ a < n) : cellAt h bp (0 + a.toNat * 1) = some (i64 (P a.toNat : Int)) :=
  cell x.pl (by rw [List.getElem?_toArray, show 0 + a.toNat * 1 = a.toNat by omega]; exact pl_at P h')
structure RCtx (t : List Ty) (N : Nat) (h0 : Heap) (m bp : Nat) (vt : Value) : Prop where
  old : TypesAt N h0 vt t
  len : t.length ≤ 256
  size : ∀ x ∈ t, x.fields.length ≤ 64 ∧ x.params.length ≤ 64
  refs : RefsIn t
  m_ : N ≤ m
  bp_ : N ≤ bp
  ne : m ≠ bp
structure RI (t : List Ty) (N : Nat) (h0 : Heap) (m bp : Nat) (vt : Value) (s1 : VS) (hS : Heap) (voS : Value) (s : VS) (g : Heap) (vo : Value) : Prop where
  k : At N h0 g
  x : RX g m bp t.length vt s.place vo
  ok : VOk t s1 s
  own : Owns g 3 1 vo s.order.length (ncells s.order)
  far : ∀ b, ownB vo b → N ≤ b ∧ b ≠ m ∧ b ≠ bp
  mod : Go.Eng.Mod (fun b => b = m ∨ b = bp ∨ ownB voS b) hS g
  low : ∀ b, ownB vo b → ownB voS b ∨ hS.size ≤ b
section
variable {t : List Ty} {N : Nat} {h0 : Heap} {m bp : Nat} {vt : Value} {s1 s : VS} {hS g g' : Heap} {voS vo : Value}
theorem RI.move {S : Nat → Prop} (a : RI t N h0 m bp vt s1 hS voS s g vo) (x : Go.Eng.Mod S g g') (hS' : ∀ b, S b → N ≤ b ∧ hS.size ≤ b ∧ b ≠ m ∧ b ≠ bp ∧ ¬ ownB vo b) : RI t N h0 m bp vt s1 hS voS s g' vo :=
  ⟨a.k.mod x (fun b hb => (hS' b hb).1), a.x.mod x (fun hb => (hS' m hb).2.2.1 rfl) (fun hb => (hS' bp hb).2.2.2.1 rfl), a.ok, a.own.mod x (fun b e hb => (hS' b hb).2.2.2.2 e), a.far, a.mod.andMod x (fun b hb => .inr (hS' b hb).2.1), a.low⟩
end
section
variable (t : List Ty) (N : Nat) (h0 : Heap) (m bp : Nat) (vt : Value)
def RVisC (k : Nat) : Prop := ∀ {a : Int} {s : VS} {g : Heap} {vo : Value}, At N h0 g → RX g m bp t.length vt s.place vo → Owns g 3 1 vo s.order.length (ncells s.order) → (∀ b, ownB vo b → N ≤ b ∧ b ≠ m ∧ b ≠ bp) → VInv t s → unp t s < k → 0 ≤ a ∧ a < t.length →
  Does Try.prog 43 [ptr m 0, i64 a] g (fun _ g' => ∃ vo', RI t N h0 m bp vt s g vo (visitF t k a s) g' vo')
end
theorem RI.step {t : List Ty} {N : Nat} {h0 : Heap} {m bp : Nat} {vt : Value} (c : RCtx t N h0 m bp vt) {k : Nat} (ih : RVisC t N h0 m bp vt k) {s1 s : VS} {hS g : Heap} {voS vo : Value}
    (a : RI t N h0 m bp vt s1 hS voS s g vo) {r : Int} (hr : 0 ≤ r ∧ r < t.length) (hu : unp t s1 < k) :
    Does Try.prog 43 [ptr m 0, i64 r] g (fun _ g' => ∃ vo', RI t N h0 m bp vt s1 hS voS (visitF t k r s) g' vo' ∧ Placed (visitF t k r s) r ∧ VOk t s (visitF t k r s) ∧
      Go.Eng.Mod (fun b => b = m ∨ b = bp ∨ ownB vo b) g g' ∧ ∀ b, ownB vo' b → ownB vo b ∨ g.size ≤ b) := by
  have hu' : unp t s < k := Nat.lt_of_le_of_lt a.ok.unp hu
  obtain ⟨q1, q2⟩ := visitF_ok c.refs k r s a.ok.inv hu' hr
  refine Does.mono (ih a.k a.x a.own a.far a.ok.inv hu' hr) (fun v g' w => ?_)
  obtain ⟨vo', b⟩ := w
  refine ⟨vo', ⟨b.k, b.x, a.ok.trans q1, b.own, b.far, a.mod.andMod b.mod (fun d hd => ?_), fun d hd => ?_⟩, q2, q1, b.mod, b.low⟩
  · rcases hd with rfl | rfl | hd
    · exact .inl (.inl rfl)
    · exact .inl (.inr (.inl rfl))
    · exact (a.low d hd).imp (fun e => .inr (.inr e)) id
  · rcases b.low d hd with e | e
    · exact a.low d e
    · exact .inr (Nat.le_trans a.mod.size e)
set_option maxHeartbeats 4000000 in
theorem rvisit_step {t : List Ty} {N : Nat} {h0 : Heap} {m bp : Nat} {vt : Value} (c : RCtx t N h0 m bp vt) {k : Nat} (ih : RVisC t N h0 m bp vt k) : RVisC t N h0 m bp vt (k + 1) := by
  intro a s h vo hk hX hO hfar hI hu ha
  have hm := c.m_
  have hbp := c.bp_
  have hne := c.ne
  have hlen := c.len
  have hol := vorder_le hI
  have hmx : maxLen = 9223372036854775807 := by decide
  have hnN := hk.n
  have hmlt := lt_of_get hX.at_
  have hplt := lt_of_get hX.pl
  have hlt0 := hO.lt
  have hold := c.old
  obtain ⟨aold, cold, rfl⟩ := SliceAt.form hold
  obtain ⟨av, cv, rfl⟩ := hO.form
  refine fn_enter (N := 90) Try.func43 (by kernel_rfl) rfl rfl rfl (fun w0 => ?_)
  refine c_seq ?_; refine c_seq ?_; refine c_reg ?_
  refine mv rfl rfl (lti rfl rfl rfl (mv rfl rfl (gqf rfl rfl rfl (fun e => mv rfl rfl) (gqf rfl rfl rfl (fun e => nck (cg rfl e) rfl) (gqf rfl rfl rfl (fun e => fa (cg rfl e) rfl) ?_)))))
  refine gqf rfl rfl rfl (fun e => ld (cg rfl e) (cell hX.at_ rfl) rfl) (gqf rfl rfl rfl (fun e => mv rfl rfl) (gqf rfl rfl rfl (fun e => ixs (cg rfl e) (cg rfl e) (by omega) rfl) ?_))
  refine gqf rfl rfl rfl (fun e => ld (cg rfl e) (hX.get (by omega)) rfl) (gqf rfl rfl rfl (fun e => gti (cg rfl e) rfl rfl) (pko rfl rfl rfl rfl ?_))
  refine o_nil ?_; refine x_seq ?_; refine c_cond rfl (fun c1 => ?_) (fun c1 => ?_)
  · refine c_ret ?_; refine x_seq_ret ?_; refine ret0 (.inr rfl) rfl ?_
    have c1 : a ≤ 6 ∨ 0 < s.place a.toNat := by rcases c1 with c1 | c1 <;> omega
    rw [visitF_skip c1]
    exact ⟨_, hk, hX, .refl hI, hO, hfar, Mod.refl _ _, fun b e => .inl e⟩
  · have hgo : ¬ (a ≤ 6 ∨ 0 < s.place a.toNat) := fun e => c1 (by rcases e with e | e <;> omega)
    have hp0 : s.place a.toNat = 0 := by omega
    have hal : a.toNat < t.length := by omega
    have hx : t[a.toNat]? = some t[a.toNat] := List.getElem?_eq_getElem hal
    have hsz := c.size _ (List.getElem_mem hal)
    have hrefs : ∀ r ∈ refsTy t[a.toNat], 0 ≤ r ∧ r < t.length := by have := c.refs a.toNat; rwa [refsAt_of hx] at this
    have hI1 := enter_inv hI (a := a.toNat) (by omega) hp0
    have hu1 : unp t (enterV s a.toNat) < k := by have := unp_enter (t := t) (s := s) hal hp0; omega
    refine c_skip ?_; refine x_seq ?_; refine c_seq ?_
    refine c_treg (Mod (fun k => False) h) (some 11) [11, 10, 9, 8, 7, 6, 5, 4, 3, 2, 1, 0] (.leaf [0, 1, 2, 3, 4, 5, 6, 7, 8, 9, 10] [11, 12]) rfl (Mod.refl _ _) (by kernel_rfl) ?_
    have c0_1 : Mod (fun k => False) h h := Mod.refl _ _
    refine t_leaf ?_
    refine mv rfl rfl (nck rfl rfl (fa rfl rfl (ldI rfl (fun _ hI => Mod.cell hI (cell hX.at_ rfl) (by first | exact id | (intro e; have e : _ = _ := e; omega) | assumption)) rfl ?_)))
    refine mv rfl rfl (mv rfl rfl (nck rfl rfl (fa rfl rfl (ldI rfl (fun _ hI => Mod.cell hI (cell hX.at_ rfl) (by first | exact id | (intro e; have e : _ = _ := e; omega) | assumption)) rfl ?_))))
    refine lnl rfl rfl (add rfl rfl (by omega) rfl ?_)
    refine o_nil ?_; refine x_tail ?_
    refine ixs rfl rfl (by omega) rfl (st rfl rfl rfl hX.pl (by rw [List.size_toArray, Nat.blt_eq]; simp only [plCells, List.length_map, List.length_range]; omega) nofun (fun h2 u2 => ?_))
    have X2a := u2.ne hX.at_ hne
    have X2p : h2[bp]? = some (.cells (plCells (enterV s a.toNat).place t.length).toArray 3 (0, 0)) := by
      refine u2.at_.trans (congrArg (fun c => some (Obj.cells c 3 (0, 0))) (Array.ext' ?_))
      rw [Array.toList_setIfInBounds, show 0 + a.toNat * 1 = a.toNat by omega]
      show (plCells s.place t.length).set a.toNat (i64 (7 + (s.order.length : Int))) = _
      rw [show (7 + (s.order.length : Int)) = ((7 + s.order.length : Nat) : Int) by omega]
      exact pl_set s.place
    have O2 := hO.mod u2.mod (fun b e e' => (hfar b e).2.2 e')
    have s2 : h2.size = h.size := u2.size
    have k_2 := hk.upd u2 (by omega)
    refine o_nil ?_; refine x_seq ?_; refine c_seq ?_; refine c_reg ?_
    refine mv rfl rfl (mv rfl rfl (nck rfl rfl (fa rfl rfl (ld rfl (cell X2a rfl) rfl (mv rfl rfl (bsl (vs := [(0, i64 a)]) (cs := #[i64 a]) (E := 3) rfl (fun _ => by kernel_rfl) nofun rfl (fun h3 n3 => ?_)))))))
    have s3 : h3.size = h2.size + 1 := n3.size
    have k_3 := k_2.ext n3.ext
    refine app U_sl rfl rfl (O2.mod n3.ext (fun _ _ e => e)) (Src.slice (size := 1) (m := 1) rfl (row_blk n3.at_)) rfl (ones rfl) (by omega) (by omega) nofun rfl (fun v4 h4 o4 m4 f4 => ?_)
    obtain ⟨a4, c4, rfl⟩ := o4.form
    have X4a := m4.get (n3.ext.get X2a) (fun e => (hfar _ e).2.1 rfl)
    have X4p := m4.get (n3.ext.get X2p) (fun e => (hfar _ e).2.2 rfl)
    have s4 : h3.size ≤ h4.size := m4.size
    have k_4 := (k_3.mod m4 (fun b e => (hfar b e).1))
    refine nck rfl rfl (fa rfl rfl (st rfl rfl rfl X4a rfl nofun (fun h5 u5 => ?_)))
    have f5 : ∀ b, ownB (.slice a4 (s.order.length + 1) c4) b → ownB (.slice av s.order.length cv) b ∨ h.size ≤ b := fun b e => (f4 b e).imp id (fun e => by have := n3.size; have := u2.size; omega)
    have far5 : ∀ b, ownB (.slice a4 (s.order.length + 1) c4) b → N ≤ b ∧ b ≠ m ∧ b ≠ bp := fun b e => (f5 b e).elim (hfar b) (fun e => by omega)
    have O5 : Owns h5 3 1 (.slice a4 (s.order.length + 1) c4) (enterV s a.toNat).order.length (ncells (enterV s a.toNat).order) := by
      have := o4.mod u5.mod (fun b e e' => (far5 b e).2.1 e')
      show Owns h5 _ _ _ (s.order ++ [a.toNat]).length (ncells (s.order ++ [a.toNat]))
      rw [List.length_append, show ncells (s.order ++ [a.toNat]) = ncells s.order ++ [i64 a] by unfold ncells; rw [List.map_append]; simp; omega]
      exact this
    have M5 : Go.Eng.Mod (fun b => b = m ∨ b = bp ∨ ownB (.slice av s.order.length cv) b) h h5 := ((((Go.Eng.Mod.refl _ h).upd u2 (.inl (.inr (.inl rfl)))).trans (n3.ext.mod _)).andMod m4 (fun b e => .inl (.inr (.inr e)))).upd u5 (.inl (.inl rfl))
    have k5 : At N h0 h5 := (((hk.upd u2 hbp).ext n3.ext).mod m4 (fun b e => (hfar b e).1)).upd u5 hm
    have I5 : RI t N h0 m bp (.slice aold t.length cold) (enterV s a.toNat) h (.slice av s.order.length cv) (enterV s a.toNat) h5 (.slice a4 (s.order.length + 1) c4) := ⟨k5, ⟨u5.at_, u5.ne X4p (Ne.symm hne)⟩, .refl hI1, O5, far5, M5, f5⟩
    obtain ⟨b2, o2, cs2, ha2, hb2, hl2, hr2, hR2⟩ := SliceAt.el hold k5 hx
    generalize t[a.toNat] = x at *
    subst ha2
    obtain ⟨hfit, vf, vp, rfl, hF, hP⟩ := hR2
    have hF0 := hF
    have hP0 := hP
    obtain ⟨af, cf, rfl⟩ := hF.form
    obtain ⟨ap, cp, rfl⟩ := hP.form
    have s5 : h5.size = h4.size := u5.size
    have k_5 := k_4.upd u5 (by omega)
    refine o_nil ?_; refine x_seq ?_; refine c_seq ?_; refine c_reg ?_
    refine mv rfl rfl (nck rfl rfl (fa rfl rfl (ld rfl (cell I5.x.at_ rfl) rfl (mv rfl rfl (ixs rfl rfl (by omega) rfl (ldn rfl rfl hr2 rfl (alc nofun rfl (fun h6 n6 => ?_))))))))
    have s6 : h6.size = h5.size + 1 := n6.size
    have k_6 := k_5.ext n6.ext
    have b4_6 := n6.at_
    refine stw rfl rfl rfl (ones rfl) b4_6 rfl nofun (fun h7 u7 => ?_)
    have lt5 : ∀ b, ownB (.slice a4 (s.order.length + 1) c4) b → b < h5.size := O5.lt
    have hx5 := I5.mod.size
    have I7 := (I5.move n6.ext (fun b e => e.elim)).move u7.mod (fun b e => by have e : b = h5.size := e; subst e; exact ⟨by omega, hx5, by omega, by omega, fun e => by have := lt5 _ e; omega⟩)
    have nq7 : ¬ ownB (.slice a4 (s.order.length + 1) c4) h5.size := fun e => by have := lt5 _ e; omega
    have s7 : h7.size = h6.size := u7.size
    have k_7 := k_6.upd u7 (by omega)
    have b4_7 := u7.at_
    refine o_nil ?_; refine x_seq ?_; refine c_seq ?_; refine c_reg ?_
    refine mv rfl rfl (fa rfl rfl (ld rfl (cell b4_7 rfl) rfl (cl (vs := [ptr m 0, i64 x.elem]) rfl ((RI.step c ih I7 (hrefs _ ref_e) hu1)) rfl (fun v8 h8 r8 => ?_))))
    obtain ⟨vo8, I8, P8, K8, M8, F8⟩ := r8
    have z8 := M8.size
    have n7s := n6.size
    have nq8 : ¬ ownB vo8 h5.size := fun e => (F8 _ e).elim nq7 (fun e => by omega)
    have k_8 := (I8.k)
    have b4_8 := (M8.get b4_7 (fun e => e.elim (fun e => by omega) (fun e => e.elim (fun e => by omega) nq7)))
    refine o_nil ?_; refine x_seq ?_; refine c_seq ?_; refine c_reg ?_
    refine mv rfl rfl (fa rfl rfl (ld rfl (cell b4_8 rfl) rfl (cl (vs := [ptr m 0, i64 x.base]) rfl ((RI.step c ih I8 (hrefs _ ref_b) hu1)) rfl (fun v9 h9 r9 => ?_))))
    obtain ⟨vo9, I9, P9, K9, M9, F9⟩ := r9
    have z9 := M9.size
    have nq9 : ¬ ownB vo9 h5.size := fun e => (F9 _ e).elim nq8 (fun e => by omega)
    have k_9 := (I9.k)
    have b4_9 := (M9.get b4_8 (fun e => e.elim (fun e => by omega) (fun e => e.elim (fun e => by omega) nq8)))
    refine o_nil ?_; refine x_seq ?_
    refine c_seq ?_; refine c_seq ?_; refine c_reg ?_; refine asg rfl rfl ?_; refine o_nil ?_; refine x_seq ?_; refine c_blk ?_
    refine c_loop (α := Nat × Heap × Value) (fun z => [(0, ptr m 0), (4, ptr h5.size 0), (5, i64 (z.1 : Nat))]) (fun z => z.2.1)
      (fun z => z.1 ≤ x.fields.length ∧ RI t N h0 m bp (.slice (some ⟨b2, o2, none⟩) t.length cold) (enterV s a.toNat) h (.slice av s.order.length cv) (sfs t k (x.fields.map (·.type)) z.1 (visitF t k x.base (visitF t k x.elem (enterV s a.toNat)))) z.2.1 z.2.2 ∧
        z.2.1[h5.size]? = some (.cells (tyCells x (.slice af x.fields.length cf) (.slice ap x.params.length cp)).toArray 49 (0, 0)) ∧ ¬ ownB z.2.2 h5.size) (fun z => x.fields.length - z.1) (0, h9, vo9) ⟨Nat.zero_le _, I9, b4_9, nq9⟩ ⟨rfl, rfl, rfl, trivial⟩ rfl (fun z hz => ?_)
    obtain ⟨i, g, vg⟩ := z
    obtain ⟨hi, I1, hq, nq⟩ := hz
    simp only at hi I1 hq nq
    have kl := I1.k
    have hqg := lt_of_get hq
    change SC _ _ _ _ g
    refine c_seq ?_; refine c_seq ?_; refine c_reg ?_; refine mv rfl rfl (fa rfl rfl (ld rfl (cell hq rfl) rfl (lnl rfl rfl (lti rfl rfl rfl ?_))))
    refine o_nil ?_; refine x_seq ?_; refine c_cond rfl (fun c10 => ?_) (fun c10 => ?_)
    · have hlt : i < x.fields.length := by have := c10; simp only at this; omega
      obtain ⟨f, hfx⟩ : ∃ f, x.fields[i]? = some f := ⟨_, List.getElem?_eq_getElem hlt⟩
      have hfm : f ∈ x.fields := List.mem_of_getElem? hfx
      obtain ⟨b3, o3, cs3, ha3, hb3, hl3, hr3, hR3⟩ := SliceAt.el hF0 kl hfx
      subst ha3
      obtain ⟨rfl, -⟩ := hR3
      refine c_skip ?_; refine x_seq ?_
      refine c_seq ?_; refine c_blk ?_; refine c_reg ?_
      refine mv rfl rfl (fa rfl rfl (ld rfl (cell hq rfl) rfl (mv rfl rfl (ixs rfl rfl (by omega) rfl (fa rfl rfl (ld rfl (hr3 2 _ rfl) rfl (cl (vs := [ptr m 0, i64 f.type]) rfl ((RI.step c ih I1 (hrefs _ (ref_f hfm)) hu1)) rfl (fun v11 h11 r11 => ?_))))))))
      obtain ⟨vo11, I11, P11, K11, M11, F11⟩ := r11
      have k_11 := (I11.k)
      have hq_11 := (M11.get hq (fun e => e.elim (fun e => by omega) (fun e => e.elim (fun e => by omega) nq)))
      refine o_nil ?_; refine x_blk ?_; refine x_seq ?_; refine c_reg ?_; refine mv rfl rfl (add rfl rfl (by omega) rfl (asg rfl rfl ?_))
      refine o_nil ?_
      have hsu : sfs t k (x.fields.map (·.type)) (i + 1) (visitF t k x.base (visitF t k x.elem (enterV s a.toNat))) = _ := sfs_succ (by rw [List.getElem?_map, hfx]; rfl) _
      exact x_loop (i + 1, h11, vo11) ⟨hlt, by simp only; rw [hsu]; exact I11, hq_11, fun e => (F11 _ e).elim nq (fun e => by omega)⟩ (by simp only; omega) ⟨rfl, rfl, rfl, trivial⟩ rfl
    · have hin : i = x.fields.length := by have := c10; simp only at this; omega
      subst hin
      generalize hs4 : sfs t k (x.fields.map (·.type)) x.fields.length (visitF t k x.base (visitF t k x.elem (enterV s a.toNat))) = s4 at *
      refine c_exit ?_; refine x_seq_exit ?_; refine x_loop_exit ?_; refine x_blk_hit ?_; refine x_seq ?_
      refine c_seq ?_; refine c_seq ?_; refine c_reg ?_; refine asg rfl rfl ?_; refine o_nil ?_; refine x_seq ?_; refine c_blk ?_
      refine c_loop (α := Nat × Heap × Value) (fun z => [(0, ptr m 0), (4, ptr h5.size 0), (6, i64 (z.1 : Nat))]) (fun z => z.2.1)
        (fun z => z.1 ≤ x.params.length ∧ RI t N h0 m bp (.slice (some ⟨b2, o2, none⟩) t.length cold) (enterV s a.toNat) h (.slice av s.order.length cv) (sfs t k (x.params.map (·.type)) z.1 s4) z.2.1 z.2.2 ∧
          z.2.1[h5.size]? = some (.cells (tyCells x (.slice af x.fields.length cf) (.slice ap x.params.length cp)).toArray 49 (0, 0)) ∧ ¬ ownB z.2.2 h5.size) (fun z => x.params.length - z.1) (0, g, vg) ⟨Nat.zero_le _, I1, hq, nq⟩ ⟨rfl, rfl, rfl, trivial⟩ rfl (fun z hz => ?_)
      obtain ⟨i, g2, vg2⟩ := z
      obtain ⟨hi2, I2, hq2, nq2⟩ := hz
      simp only at hi2 I2 hq2 nq2
      have kl2 := I2.k
      have hqg2 := lt_of_get hq2
      change SC _ _ _ _ g2
      refine c_seq ?_; refine c_seq ?_; refine c_reg ?_; refine mv rfl rfl (fa rfl rfl (ld rfl (cell hq2 rfl) rfl (lnl rfl rfl (lti rfl rfl rfl ?_))))
      refine o_nil ?_; refine x_seq ?_; refine c_cond rfl (fun c12 => ?_) (fun c12 => ?_)
      · have hlt : i < x.params.length := by have := c12; simp only at this; omega
        obtain ⟨f, hfx⟩ : ∃ f, x.params[i]? = some f := ⟨_, List.getElem?_eq_getElem hlt⟩
        have hfm : f ∈ x.params := List.mem_of_getElem? hfx
        obtain ⟨b3, o3, cs3, ha3, hb3, hl3, hr3, hR3⟩ := SliceAt.el hP0 kl2 hfx
        subst ha3
        obtain ⟨rfl, -⟩ := hR3
        refine c_skip ?_; refine x_seq ?_
        refine c_seq ?_; refine c_blk ?_; refine c_reg ?_
        refine mv rfl rfl (fa rfl rfl (ld rfl (cell hq2 rfl) rfl (mv rfl rfl (ixs rfl rfl (by omega) rfl (fa rfl rfl (ld rfl (hr3 1 _ rfl) rfl (cl (vs := [ptr m 0, i64 f.type]) rfl ((RI.step c ih I2 (hrefs _ (ref_p hfm)) hu1)) rfl (fun v13 h13 r13 => ?_))))))))
        obtain ⟨vo13, I13, P13, K13, M13, F13⟩ := r13
        have k_13 := (I13.k)
        have hq2_13 := (M13.get hq2 (fun e => e.elim (fun e => by omega) (fun e => e.elim (fun e => by omega) nq2)))
        refine o_nil ?_; refine x_blk ?_; refine x_seq ?_; refine c_reg ?_; refine mv rfl rfl (add rfl rfl (by omega) rfl (asg rfl rfl ?_))
        refine o_nil ?_
        have hsu : sfs t k (x.params.map (·.type)) (i + 1) s4 = _ := sfs_succ (by rw [List.getElem?_map, hfx]; rfl) _
        exact x_loop (i + 1, h13, vo13) ⟨hlt, by simp only; rw [hsu]; exact I13, hq2_13, fun e => (F13 _ e).elim nq2 (fun e => by omega)⟩ (by simp only; omega) ⟨rfl, rfl, rfl, trivial⟩ rfl
      · have hin : i = x.params.length := by have := c12; simp only at this; omega
        subst hin
        refine c_exit ?_; refine x_seq_exit ?_; refine x_loop_exit ?_; refine x_blk_hit ?_; refine x_seq ?_; refine c_reg ?_
        refine mv rfl rfl (fa rfl rfl (ld rfl (cell hq2 rfl) rfl (cl (vs := [ptr m 0, i64 x.res]) rfl ((RI.step c ih I2 (hrefs _ ref_r) hu1)) rfl (fun v14 h14 r14 => ?_))))
        obtain ⟨vo14, I14, P14, K14, M14, F14⟩ := r14
        have k_14 := (I14.k)
        have hq2_14 := (M14.get hq2 (fun e => e.elim (fun e => by omega) (fun e => e.elim (fun e => by omega) nq2)))
        refine o_nil ?_; refine ret0 (.inl rfl) rfl ?_
        have hs : visitF t (k + 1) a s = visitF t k x.res (sfs t k (x.params.map (·.type)) x.params.length s4) := by
         rw [visitF_go hgo, refsAt_of hx, refs_fold]
         have e4 : vfold (visitF t k) (x.fields.map (·.type)) (visitF t k x.base (visitF t k x.elem (enterV s a.toNat))) = s4 := by rw [← hs4]; unfold sfs; rw [List.take_of_length_le (by simp)]
         have e5 : vfold (visitF t k) (x.params.map (·.type)) s4 = sfs t k (x.params.map (·.type)) x.params.length s4 := by unfold sfs; rw [List.take_of_length_le (by simp)]
         rw [e4, e5]
        have hok := (visitF_ok c.refs (k + 1) a s hI hu ha).1
        rw [hs] at hok ⊢
        exact ⟨vo14, I14.k, I14.x, hok, I14.own, I14.far, I14.mod, I14.low⟩
theorem rvisit_fn {t : List Ty} {N : Nat} {h0 : Heap} {m bp : Nat} {vt : Value} (c : RCtx t N h0 m bp vt) : ∀ k, RVisC t N h0 m bp vt k
  | 0 => fun _ _ _ _ _ hu _ => absurd hu (Nat.not_lt_zero _)
  | k + 1 => rvisit_step c (rvisit_fn c k)
theorem turned_fn {h : Heap} {m bp n : Nat} {vt vo : Value} {P : Nat → Nat} (x : RX h m bp n vt P vo) {a : Int} (ha : 0 ≤ a ∧ a < n) : Does Try.prog 44 [ptr m 0, i64 a] h (fun v h' => h' = h ∧ v = i64 (turned P a)) := by
  have kk : At h.size h h := At.refl (Nat.le_refl _)
  refine fn_enter (N := 15) Try.func44 (by kernel_rfl) rfl rfl rfl (fun w0 => ?_)
  refine c_seq ?_; refine c_reg ?_; refine asg rfl rfl ?_; refine o_nil ?_; refine x_seq ?_
  refine c_seq ?_; refine c_seq ?_; refine c_reg ?_; refine mv rfl rfl (lti rfl rfl rfl ?_)
  refine o_nil ?_; refine x_seq ?_; refine c_cond rfl (fun c1 => ?_) (fun c1 => ?_)
  · refine c_seq ?_; refine c_reg ?_; refine mv rfl rfl (asg rfl rfl ?_)
    refine o_nil ?_; refine x_seq ?_; refine c_ret ?_; refine x_seq_ret ?_; refine ret1 (.inr rfl) rfl rfl ?_
    refine ⟨rfl, ?_⟩
    unfold turned; rw [if_pos (by omega)]
  · refine c_skip ?_; refine x_seq ?_; refine c_seq ?_; refine c_reg ?_
    refine mv rfl rfl (nck rfl rfl (fa rfl rfl (ld rfl (cell x.at_ rfl) rfl (mv rfl rfl (ixs rfl rfl (by omega) rfl (ld rfl (x.get ha) rfl (asg rfl rfl ?_)))))))
    refine o_nil ?_; refine x_seq ?_; refine c_ret ?_; refine ret1 (.inr rfl) rfl rfl ?_
    refine ⟨rfl, ?_⟩
    unfold turned; rw [if_neg (by omega)]
end Go.Proofs.Ytgnkfegkdjfnjaa
