/- The walk of tables' ends: a search in depth over the types that lie in a type. The search in depth finds whether a type lies in itself. Plain; no condition but what each theorem says. The walks of tables' fielded, and of what is found in a list of types. The walks of what is found in a list of types, and of the question of a record's fields. What a good table of types is, and what follows of its nodes. Plain; no condition but what each theorem says. No condition but what each theorem says. -/
import Derived.Test.YtgnkfegkdjfnjaaGreatIga
import Derived.Test.YtgnkfegkdjfnjaaGreatEng12
import Derived.Test.YtgnkfegkdjfnjaaGreatEng13
namespace Go.Proofs.YtgnkfegkdjfnjaaGreat
/-! The walk of tables' ends: a search in depth over the types that lie in a type. No condition but what each theorem says. -/
section
open Go Go.Eng

/-- the types that lie in a type -/
def edges (t : List Ty) (a : Nat) : List Int := match t[a]? with
  | some x => if x.form = 7 ∨ x.form = 8 then [x.elem] else if x.form = 9 then x.base :: x.fields.map (·.type) else []
  | none => []
def icells (l : List Int) : List Value := l.map i64
def MetAt (h : Heap) (m : Nat) (M : List Int) : Prop := h[m]? = some (.cells (icells M).toArray 3 (0, 0))
def foldE (f : Nat → List Int → Bool × List Int) : List Int → List Int → Bool × List Int
  | [], M => (true, M)
  | x :: l, M => if (f x.toNat M).1 then foldE f l (f x.toNat M).2 else (false, (f x.toNat M).2)
def endsF (E : Nat → List Int) : Nat → Nat → List Int → Bool × List Int
  | 0, _, M => (false, M)
  | k + 1, a, M => if 0 < M[a]?.getD 0 then (decide (M[a]?.getD 0 = 2), M) else
      if (foldE (endsF E k) (E a) (M.set a 1)).1 then (true, (foldE (endsF E k) (E a) (M.set a 1)).2.set a 2) else (false, (foldE (endsF E k) (E a) (M.set a 1)).2)
def zeros (M : List Int) : Nat := M.countP (· ≤ 0)
theorem zeros_set_le (M : List Int) (a : Nat) (v : Int) (hv : 0 < v) : zeros (M.set a v) ≤ zeros M := by
  unfold zeros
  induction M generalizing a with
  | nil => simp
  | cons x M ih =>
    cases a with
    | zero =>
      simp only [List.set_cons_zero, List.countP_cons]
      have : decide (v ≤ 0) = false := decide_eq_false (by omega)
      rw [this]; simp
    | succ a => simp only [List.set_cons_succ, List.countP_cons]; have := ih a; omega
theorem zeros_set_lt (M : List Int) (a : Nat) (v : Int) (hv : 0 < v) (ha : a < M.length) (h0 : ¬ 0 < M[a]?.getD 0) : zeros (M.set a v) < zeros M := by
  unfold zeros
  induction M generalizing a with
  | nil => simp at ha
  | cons x M ih =>
    cases a with
    | zero =>
      simp only [List.set_cons_zero, List.countP_cons]
      simp at h0
      have h1 : decide (v ≤ 0) = false := decide_eq_false (by omega)
      have h2 : decide (x ≤ 0) = true := decide_eq_true (by omega)
      rw [h1, h2]; simp
    | succ a =>
      simp only [List.set_cons_succ, List.countP_cons]
      have := ih a (by simpa using ha) (by simpa using h0)
      omega
theorem foldE_keep {f : Nat → List Int → Bool × List Int} (hf : ∀ a M, (f a M).2.length = M.length ∧ zeros (f a M).2 ≤ zeros M) : ∀ (l M : List Int), (foldE f l M).2.length = M.length ∧ zeros (foldE f l M).2 ≤ zeros M
  | [], M => ⟨rfl, Nat.le_refl _⟩
  | x :: l, M => by
    have h1 := hf x.toNat M
    have h2 := foldE_keep hf l (f x.toNat M).2
    unfold foldE
    split
    · exact ⟨h2.1.trans h1.1, Nat.le_trans h2.2 h1.2⟩
    · exact h1
theorem endsF_keep (E : Nat → List Int) : ∀ (k a : Nat) (M : List Int), (endsF E k a M).2.length = M.length ∧ zeros (endsF E k a M).2 ≤ zeros M
  | 0, _, _ => ⟨rfl, Nat.le_refl _⟩
  | k + 1, a, M => by
    have h := foldE_keep (endsF_keep E k) (E a) (M.set a 1)
    have hz := zeros_set_le M a 1 (by omega)
    unfold endsF
    split
    · exact ⟨rfl, Nat.le_refl _⟩
    · split
      · exact ⟨by simp only [List.length_set] at h ⊢; exact h.1, by have := zeros_set_le (foldE (endsF E k) (E a) (M.set a 1)).2 a 2 (by omega); simp only; omega⟩
      · exact ⟨by simpa using h.1, by simp only; omega⟩
/-- the edges lead to types -/
def Valid (t : List Ty) (E : Nat → List Int) : Prop := ∀ a, a < t.length → ∀ e ∈ E a, 0 ≤ e ∧ e < t.length
theorem set_met {h : Heap} {m : Nat} {M : List Int} {a : Nat} {v : Int} {o : Obj} (h1 : h[m]? = some o) (ho : o = .cells ((icells M).toArray.setIfInBounds (0 + (a : Int).toNat * 1) (i64 v)) 3 (0, 0)) : MetAt h m (M.set a v) := by
  unfold MetAt
  rw [h1, ho]
  have e : 0 + (a : Int).toNat * 1 = a := by omega
  rw [e]
  simp [icells, List.map_set]
theorem met_cell {h : Heap} {m : Nat} {M : List Int} (hm : MetAt h m M) {a : Nat} (ha : a < M.length) : cellAt h m (0 + (a : Int).toNat * 1) = some (i64 (M[a]?.getD 0)) := by
  have e : 0 + (a : Int).toNat * 1 = a := by omega
  rw [e]
  refine cell hm ?_
  simp [icells, List.getElem?_eq_getElem ha]
theorem MetAt.mod {S : Nat → Prop} {h h' : Heap} {m : Nat} {M : List Int} (a : MetAt h m M) (x : Mod S h h') (hm : ¬ S m) : MetAt h' m M := x.get a hm
theorem MetAt.lt {h : Heap} {m : Nat} {M : List Int} (a : MetAt h m M) : m < h.size := lt_of_get a

theorem mod_more {S : Nat → Prop} {h h1 h2 : Heap} {q : Nat} (a : Mod (· = q) h h1) (b : Mod S h1 h2) (hS : ∀ k, S k → k = q ∨ h.size ≤ k) : Mod (· = q) h h2 :=
  ⟨Nat.le_trans a.size b.size, fun k hk hn => (b.same k (Nat.lt_of_lt_of_le hk a.size) (fun e => (hS k e).elim hn (fun e => by omega))).trans (a.same k hk hn)⟩
theorem ownB_eq {b n c j : Nat} (e : ownB (.slice (some ⟨b, 0, none⟩) n c) j) : j = b := by
  simp [ownB, Value.ownBlock] at e; exact e.symm
theorem _root_.Go.Eng.Owns.some {h : Heap} {E n sz : Nat} {v : Value} {xs : List Value} (o : Owns h E sz v n xs) (hn : 0 < n) : ∃ b c, v = .slice (some ⟨b, 0, none⟩) n c ∧ Go.Eng.rowAt h b 0 xs := by
  rcases o.2 with ⟨_, h0⟩ | ⟨g, cap, cur, rfl, _⟩
  · omega
  · exact ⟨g, cap, rfl, o.row.2⟩
theorem one_i (n : Int) : ∀ u ∈ [i64 n], u.oneCell' = true := by
  intro u hu; simp at hu; rw [hu]; rfl

set_option maxHeartbeats 4000000 in
theorem ends_fn {N : Nat} {h0 : Heap} {vt : Value} {t : List Ty} (ht : TypesAt N h0 vt t) (hv : Valid t (edges t)) (h64 : ∀ x ∈ t, x.form = 9 → x.fields.length ≤ 64) (m : Nat) (hm : N ≤ m) (k : Nat) :
    ∀ (a : Nat) (M : List Int) (h : Heap), zeros M < k → At N h0 h → MetAt h m M → M.length = t.length → a < t.length →
      Does Tryz.prog 97 [vt, i64 (a : Nat), .slice (some ⟨m, 0, none⟩) t.length t.length] h (fun v h' => v = .bool (endsF (edges t) k a M).1 ∧ MetAt h' m (endsF (edges t) k a M).2 ∧ Mod (· = m) h h') := by
  obtain ⟨htl, at_, ct, rfl, hti⟩ := ht
  induction k with
  | zero => intro a M h hk; omega
  | succ k ih =>
  intro a M h hk k0 hM hlen ha
  have hx : t[a]? = some t[a] := List.getElem?_eq_getElem ha
  have hed : edges t a = (if t[a].form = 7 ∨ t[a].form = 8 then [t[a].elem] else if t[a].form = 9 then t[a].base :: t[a].fields.map (·.type) else []) := by rw [edges, hx]
  have hval := hv a ha
  have h64 := h64 _ (List.getElem_mem ha)
  have hel : (edges t a).length ≤ 65 := by
   rw [hed]; have := h64
   split
   · simp
   · split
     · simp; have := h64 ‹_›; omega
     · simp
  generalize t[a] = x at *
  obtain ⟨b', o', cs, rfl, hb', hl', hr0, hfit, vf, vp, rfl, hF, -⟩ := hti a x hx
  have hF0 := hF
  obtain ⟨hFl, af, cf, rfl, -⟩ := hF
  have hmx : maxLen = 9223372036854775807 := by decide
  have hmd := met_cell hM (a := a) (by omega)
  have hms := hM.lt
  have hn0 := k0.n
  have hset := zeros_set_lt M a 1 (by omega) (by omega)
  refine fn_enter (N := 83) Tryz.func97 (by kernel_rfl) rfl rfl rfl (fun w0 => ?_)
  refine c_seq ?_; refine c_reg ?_; refine asg rfl rfl ?_; refine o_nil ?_; refine x_seq ?_
  refine c_cut (α := Unit) (fun _ => [(0, .slice (some ⟨b', o', none⟩) t.length ct), (1, i64 (a : Nat)), (2, .slice (some ⟨m, 0, none⟩) t.length t.length)]) (fun _ => h) (fun _ => ¬ 0 < M[a]?.getD 0) ?_ ?_
  · refine c_seq ?_
    refine c_reg ?_; refine mv rfl rfl (mv rfl rfl (ixs rfl rfl (by omega) rfl (ld rfl hmd rfl (gti rfl rfl rfl ?_))))
    refine o_nil ?_; refine x_seq ?_; refine c_cond rfl (fun c1 => ?_) (fun c1 => ?_)
    · refine c_seq ?_; refine c_reg ?_; refine mv rfl rfl (mv rfl rfl (ixs rfl rfl (by omega) rfl (ld rfl hmd rfl (eqi rfl rfl rfl (asg rfl rfl ?_)))))
      refine o_nil ?_; refine x_seq ?_; refine c_ret ?_; refine x_cut_ret ?_; refine ret1 (.inr rfl) rfl rfl ?_
      have e : endsF (edges t) (k + 1) a M = (decide (M[a]?.getD 0 = 2), M) := by rw [endsF, if_pos c1]
      rw [e]
      exact ⟨rfl, hM, Mod.refl _ _⟩
    · refine c_skip ?_
      exact x_cut () c1 ⟨rfl, rfl, rfl, trivial⟩ rfl
  · intro _ c1
    have hset := hset c1
    have eF : endsF (edges t) (k + 1) a M = (if (foldE (endsF (edges t) k) (edges t a) (M.set a 1)).1 then (true, (foldE (endsF (edges t) k) (edges t a) (M.set a 1)).2.set a 2) else (false, (foldE (endsF (edges t) k) (edges t a) (M.set a 1)).2)) := by rw [endsF, if_neg c1]
    rw [eF]
    change SC _ _ _ _ h
    refine c_seq ?_; refine c_reg ?_
    refine mv rfl rfl (mv rfl rfl (ixs rfl rfl (by omega) rfl (st rfl rfl rfl hM (by simp [icells]; omega) nofun (fun h2 u2 => ?_))))
    have M2 := set_met u2.at_ rfl
    have s2 : h2.size = h.size := u2.size
    have k_2 := k0.upd u2 (by omega)
    refine o_nil ?_; refine x_seq ?_; refine c_seq ?_; refine c_reg ?_
    refine bsl (vs := []) (cs := #[]) (E := 3) rfl (fun _ => by kernel_rfl) nofun rfl (fun h3 n3 => ?_)
    have M3 := M2.mod n3.ext (fun e => e)
    have q3 : Mod (· = m) h h3 := mod_more u2.mod n3.ext (fun _ e => e.elim)
    have o3 : Owns h3 3 1 (.slice (some ⟨h2.size, 0, none⟩) 0 0) 0 [] := n3.owns rfl (by decide)
    have s3 : h3.size = h2.size + 1 := n3.size
    have k_3 := k_2.ext n3.ext
    refine asg rfl rfl ?_; refine o_nil ?_; refine x_seq ?_
    refine c_cut (α := Value × Heap) (fun y => [(0, .slice (some ⟨b', o', none⟩) t.length ct), (1, i64 (a : Nat)), (2, .slice (some ⟨m, 0, none⟩) t.length t.length), (7, y.1)]) (fun y => y.2)
      (fun y => Owns y.2 3 1 y.1 (edges t a).length (icells (edges t a)) ∧ (∀ j, ownB y.1 j → j ≠ m ∧ h.size ≤ j) ∧ MetAt y.2 m (M.set a 1) ∧ Mod (· = m) h y.2) ?_ ?_
    · refine c_seq ?_
      refine c_reg ?_; refine mv rfl rfl (mv rfl rfl (ixs rfl rfl (by omega) rfl (fa rfl rfl (ld rfl (k_3.k.row hb' hr0 0 _ rfl) rfl ?_))))
      refine o_nil ?_; refine x_seq ?_; refine c_blk ?_
      refine c_cut (α := Unit) (fun _ => [(0, .slice (some ⟨b', o', none⟩) t.length ct), (1, i64 (a : Nat)), (2, .slice (some ⟨m, 0, none⟩) t.length t.length), (7, .slice (some ⟨h2.size, 0, none⟩) 0 0), (30, i64 x.form), (31, .bool (tb (x.form = 7 ∨ x.form = 8)))]) (fun _ => h3) (fun _ => True) ?_ ?_
      · refine c_seq ?_
        refine c_reg ?_; refine eqi rfl rfl rfl (asg rfl rfl ?_)
        refine o_nil ?_; refine x_seq ?_; refine c_cond rfl (fun c4 => ?_) (fun c4 => ?_)
        · refine c_skip ?_
          exact x_cut () trivial ⟨rfl, rfl, rfl, rfl, rfl, congrArg some (vtb ⟨.inl, fun _ => c4⟩), trivial⟩ rfl
        · refine c_reg ?_; refine eqi rfl rfl rfl (asg rfl rfl ?_)
          refine o_nil ?_
          exact x_cut () trivial ⟨rfl, rfl, rfl, rfl, rfl, congrArg some (vtb ⟨.inr, fun e => e.resolve_left c4⟩), trivial⟩ rfl
      · intro _ _
        change SC _ _ _ _ h3
        refine c_cond rfl (fun c5 => ?_) (fun c5 => ?_)
        · refine c_reg ?_
          refine mv rfl rfl (mv rfl rfl (mv rfl rfl (ixs rfl rfl (by omega) rfl (fa rfl rfl (ld rfl (k_3.k.row hb' hr0 4 _ rfl) rfl (bsl (vs := [(0, i64 x.elem)]) (cs := #[i64 x.elem]) (E := 3) rfl (fun _ => by kernel_rfl) nofun rfl (fun h6 n6 => ?_)))))))
          have s6 : h6.size = h3.size + 1 := n6.size
          have k_6 := k_3.ext n6.ext
          refine app U_sl rfl rfl (o3.mod n6.ext (fun _ _ e => e)) (Src.slice rfl (row_blk n6.at_)) rfl (one_i _) (by decide) (by decide) nofun rfl (fun v7 h7 o7 m7 f7 => ?_)
          have s7 : h6.size ≤ h7.size := m7.size
          have k_7 := (k_6.mod m7 (fun j e => by have := ownB_eq e; omega))
          refine asg rfl rfl ?_; refine o_nil ?_; refine x_blk ?_
          refine x_cut (v7, h7) ⟨by rw [hed, if_pos c5]; exact o7, fun j e => ?_, (M3.mod n6.ext (fun e => e)).mod m7 (fun e => by have := ownB_eq e; omega), mod_more (mod_more q3 n6.ext (fun _ e => e.elim)) m7 (fun j e => .inr (by have := ownB_eq e; omega))⟩ ⟨rfl, rfl, rfl, rfl, trivial⟩ rfl
          rcases f7 j e with e | e
          · have := ownB_eq e; omega
          · omega
        · refine c_seq ?_; refine c_reg ?_; refine eqi rfl rfl rfl (asg rfl rfl ?_)
          refine o_nil ?_; refine x_seq ?_; refine c_cond rfl (fun c8 => ?_) (fun c8 => ?_)
          · refine c_seq ?_; refine c_reg ?_
            refine mv rfl rfl (mv rfl rfl (mv rfl rfl (ixs rfl rfl (by omega) rfl (fa rfl rfl (ld rfl (k_3.k.row hb' hr0 5 _ rfl) rfl (bsl (vs := [(0, i64 x.base)]) (cs := #[i64 x.base]) (E := 3) rfl (fun _ => by kernel_rfl) nofun rfl (fun h9 n9 => ?_)))))))
            have s9 : h9.size = h3.size + 1 := n9.size
            have k_9 := k_3.ext n9.ext
            refine app U_sl rfl rfl (o3.mod n9.ext (fun _ _ e => e)) (Src.slice rfl (row_blk n9.at_)) rfl (one_i _) (by decide) (by decide) nofun rfl (fun v10 h10 o10 m10 f10 => ?_)
            have s10 : h9.size ≤ h10.size := m10.size
            have k_10 := (k_9.mod m10 (fun j e => by have := ownB_eq e; omega))
            refine asg rfl rfl ?_; refine o_nil ?_; refine x_seq ?_; refine c_seq ?_; refine c_reg ?_
            refine mv rfl rfl (mv rfl rfl (ixs rfl rfl (by omega) rfl (fa rfl rfl (ld rfl (k_10.k.row hb' hr0 6 _ rfl) rfl (lnl rfl rfl (mv rfl rfl ?_))))))
            refine o_nil ?_; refine x_seq ?_; refine c_blk ?_
            refine c_loop (α := Value × Heap × Nat) (fun y => [(0, .slice (some ⟨b', o', none⟩) t.length ct), (1, i64 (a : Nat)), (2, .slice (some ⟨m, 0, none⟩) t.length t.length), (7, y.1), (56, .slice af x.fields.length cf), (57, i64 (x.fields.length : Nat)), (58, i64 (y.2.2 : Nat))]) (fun y => y.2.1)
              (fun y => At N h0 y.2.1 ∧ Owns y.2.1 3 1 y.1 (y.2.2 + 1) (icells (x.base :: (x.fields.take y.2.2).map (·.type))) ∧ (∀ j, ownB y.1 j → j ≠ m ∧ h.size ≤ j) ∧ MetAt y.2.1 m (M.set a 1) ∧ Mod (· = m) h y.2.1 ∧ y.2.2 ≤ x.fields.length) (fun y => x.fields.length - y.2.2) (v10, h10, 0)
              ⟨k_10, o10, fun j e => ?_, (M3.mod n9.ext (fun e => e)).mod m10 (fun e => by have := ownB_eq e; omega), mod_more (mod_more q3 n9.ext (fun _ e => e.elim)) m10 (fun j e => .inr (by have := ownB_eq e; omega)), Nat.zero_le _⟩ ⟨rfl, rfl, rfl, rfl, rfl, rfl, rfl, trivial⟩ rfl (fun y hy => ?_)
            · rcases f10 j e with e | e
              · have := ownB_eq e; omega
              · omega
            obtain ⟨vl, g, i⟩ := y
            obtain ⟨kg, og, og2, Mg, qg, hil⟩ := hy
            simp only at kg og og2 Mg qg hil
            have gs := qg.size
            change SC _ _ _ _ g
            refine c_seq ?_; refine c_reg ?_; refine lti rfl rfl rfl ?_; refine o_nil ?_; refine x_seq ?_
            refine c_seq ?_; refine c_cond rfl (fun c11 => ?_) (fun c11 => ?_)
            · have hlt : i < x.fields.length := by have := c11; simp only at this; omega
              have hxi : x.fields[i]? = some x.fields[i] := List.getElem?_eq_getElem hlt
              have htake : x.fields.take (i + 1) = x.fields.take i ++ [x.fields[i]] := by rw [List.take_add_one, hxi]; rfl
              obtain ⟨b2, o2, cs2, ha2, hb2, hl2, hr2, hcs2, hfl2⟩ := hF0.el kg hxi
              generalize x.fields[i] = f at *
              subst hcs2
              subst ha2
              have h64 := h64 c8
              have Mlt := Mg.lt
              refine c_skip ?_; refine x_seq ?_
              refine c_seq ?_; refine c_blk ?_; refine c_seq ?_; refine c_reg ?_
              refine ixs rfl rfl (by omega) rfl (ldn rfl rfl hr2 rfl (alc nofun rfl (fun h12 n12 => ?_)))
              have s12 : h12.size = g.size + 1 := n12.size
              have k_12 := kg.ext n12.ext
              have b9_12 := n12.at_
              refine stw rfl rfl rfl (ones rfl) b9_12 rfl nofun (fun h13 u13 => ?_)
              have s13 : h13.size = h12.size := u13.size
              have k_13 := k_12.upd u13 (by omega)
              have b9_13 := u13.at_
              refine o_nil ?_; refine x_seq ?_; refine c_reg ?_
              refine mv rfl rfl (fa rfl rfl (ld rfl (cell b9_13 rfl) rfl (bsl (vs := [(0, i64 f.type)]) (cs := #[i64 f.type]) (E := 3) rfl (fun _ => by kernel_rfl) nofun rfl (fun h14 n14 => ?_))))
              have s14 : h14.size = h13.size + 1 := n14.size
              have k_14 := k_13.ext n14.ext
              have b9_14 := n14.ext.get b9_13
              refine app U_sl rfl rfl (((og.mod n12.ext (fun _ _ e => e)).mod u13.mod (fun j hj e => by have := og.lt j hj; have e' : j = g.size := e; omega)).mod n14.ext (fun _ _ e => e)) (Src.slice rfl (row_blk n14.at_)) rfl (one_i _) (by omega) (by omega) nofun rfl (fun v15 h15 o15 m15 f15 => ?_)
              have s15 : h14.size ≤ h15.size := m15.size
              have k_15 := (k_14.mod m15 (fun j e => by have := og2 j e; omega))
              have b9_15 := (m15.get b9_14 (fun e => by have := og.lt _ e; omega))
              refine asg rfl rfl ?_; refine o_nil ?_; refine x_blk ?_; refine x_seq ?_; refine c_reg ?_
              refine add rfl rfl (by omega) rfl (mv rfl rfl ?_)
              refine o_nil ?_
              refine x_loop (v15, h15, i + 1) ⟨k_15, by rw [htake]; simpa [icells] using o15, fun j e => ?_, ((((Mg.mod n12.ext (fun e => e)).mod u13.mod (fun e => by have e' : m = g.size := e; omega)).mod n14.ext (fun e => e)).mod m15 (fun e => (og2 _ e).1 rfl)), mod_more (mod_more (mod_more (mod_more qg n12.ext (fun _ e => e.elim)) u13.mod (fun j e => .inr (by have e' : j = g.size := e; omega))) n14.ext (fun _ e => e.elim)) m15 (fun j e => .inr (og2 j e).2), hlt⟩ (by simp only; omega) ⟨rfl, rfl, rfl, rfl, rfl, rfl, rfl, trivial⟩ rfl
              rcases f15 j e with e | e
              · exact og2 j e
              · omega
            · refine c_exit ?_; refine x_seq_exit ?_; refine x_loop_exit ?_; refine x_blk_hit ?_; refine x_blk ?_
              have hi : i = x.fields.length := by have := c11; simp only at this; omega
              subst hi
              refine x_cut (vl, g) ⟨by rw [hed, if_neg c5, if_pos c8]; rw [List.take_length] at og; simpa using og, og2, Mg, qg⟩ ⟨rfl, rfl, rfl, rfl, trivial⟩ rfl
          · refine c_skip ?_; refine x_blk ?_
            refine x_cut (.slice (some ⟨h2.size, 0, none⟩) 0 0, h3) ⟨by rw [hed, if_neg c5, if_neg c8]; exact o3, fun j e => by have := ownB_eq e; omega, M3, q3⟩ ⟨rfl, rfl, rfl, rfl, trivial⟩ rfl
    · intro y hy
      obtain ⟨vl, g0⟩ := y
      obtain ⟨og0, og2, Mg0, qg0⟩ := hy
      simp only at og0 og2 Mg0 qg0
      have gs0 := qg0.size
      have kg0 : At N h0 g0 := k0.mod qg0 (fun j e => by have e' : j = m := e; omega)
      obtain ⟨al, cq, rfl⟩ := og0.form
      change SC _ _ _ _ g0
      refine c_seq ?_; refine c_seq ?_; refine c_reg ?_; refine mv rfl rfl (lnl rfl rfl (mv rfl rfl ?_))
      refine o_nil ?_; refine x_seq ?_; refine c_blk ?_
      refine c_loop (α := Heap × Nat × List Int) (fun y => [(0, .slice (some ⟨b', o', none⟩) t.length ct), (1, i64 (a : Nat)), (2, .slice (some ⟨m, 0, none⟩) t.length t.length), (68, .slice al (edges t a).length cq), (69, i64 ((edges t a).length : Nat)), (70, i64 (y.2.1 : Nat))]) (fun y => y.1)
        (fun y => At N h0 y.1 ∧ Owns y.1 3 1 (.slice al (edges t a).length cq) (edges t a).length (icells (edges t a)) ∧ MetAt y.1 m y.2.2 ∧ Mod (· = m) h y.1 ∧ y.2.2.length = t.length ∧ zeros y.2.2 < k ∧ y.2.1 ≤ (edges t a).length ∧ foldE (endsF (edges t) k) ((edges t a).drop y.2.1) y.2.2 = foldE (endsF (edges t) k) (edges t a) (M.set a 1))
        (fun y => (edges t a).length - y.2.1) (g0, 0, M.set a 1) ⟨kg0, og0, Mg0, qg0, by simpa using hlen, by simp only; omega, Nat.zero_le _, rfl⟩ ⟨rfl, rfl, rfl, rfl, rfl, rfl, trivial⟩ rfl (fun y hy => ?_)
      obtain ⟨g, i, M'⟩ := y
      obtain ⟨kg, og, Mg, qg, hlM, hzM, hil, hfold⟩ := hy
      simp only at kg og Mg qg hlM hzM hil hfold
      have gs := qg.size
      have kn := kg.n
      change SC _ _ _ _ g
      refine c_seq ?_; refine c_reg ?_; refine lti rfl rfl rfl ?_; refine o_nil ?_; refine x_seq ?_
      refine c_seq ?_; refine c_cond rfl (fun c16 => ?_) (fun c16 => ?_)
      · have hlt : i < (edges t a).length := by have := c16; simp only at this; omega
        have hei : (edges t a)[i]? = some (edges t a)[i] := List.getElem?_eq_getElem hlt
        have hdrop : (edges t a).drop i = (edges t a)[i] :: (edges t a).drop (i + 1) := List.drop_eq_getElem_cons hlt
        have hve := hval _ (List.getElem_mem hlt)
        obtain ⟨n, hn⟩ : ∃ n : Nat, (edges t a)[i] = (n : Int) := ⟨(edges t a)[i].toNat, by omega⟩
        rw [hn] at hei hdrop hve
        rw [hdrop, foldE, Int.toNat_natCast] at hfold
        obtain ⟨bl, cq2, hsl, hrl⟩ := og.some (by omega)
        cases hsl
        have hcl : cellAt g bl (0 + i * 1) = some (i64 (n : Nat)) := by
         have := hrl i (i64 (n : Nat)) (by simp only [icells, List.getElem?_map, hei]; rfl)
         rw [Nat.mul_one]; exact this
        refine c_skip ?_; refine x_seq ?_
        refine c_seq ?_; refine c_blk ?_; refine c_seq ?_; refine c_reg ?_; refine ixs rfl rfl (by omega) rfl (ld rfl hcl rfl (asg rfl rfl ?_))
        refine o_nil ?_; refine x_seq ?_; refine c_seq ?_; refine c_reg ?_
        refine mv rfl rfl (mv rfl rfl (mv rfl rfl (cl (vs := [.slice (some ⟨b', o', none⟩) t.length ct, i64 (n : Nat), .slice (some ⟨m, 0, none⟩) t.length t.length]) rfl ((ih n M' g hzM kg Mg hlM (by omega))) rfl (fun v17 h17 r17 => ?_))))
        obtain ⟨rfl, M17, q17⟩ := r17
        have hk17 := endsF_keep (edges t) k n M'
        have k_17 := (kg.mod q17 (fun j e => by have e' : j = m := e; omega))
        refine nt rfl rfl ?_; refine o_nil ?_; refine x_seq ?_; refine c_cond rfl (fun c18 => ?_) (fun c18 => ?_)
        · have c18' : ¬ (endsF (edges t) k n M').1 = true := c18
          rw [if_neg c18'] at hfold
          rw [← hfold]
          refine c_seq ?_; refine c_reg ?_; refine asg rfl rfl ?_; refine o_nil ?_; refine x_seq ?_; refine c_ret ?_; refine x_blk_ret ?_
          refine x_seq_ret ?_; refine x_loop_ret ?_; refine x_blk_ret ?_; refine x_seq_ret ?_; refine ret1 (.inr rfl) rfl rfl ?_
          exact ⟨rfl, M17, mod_more qg q17 (fun j e => .inl e)⟩
        · have c18' : (endsF (edges t) k n M').1 = true := Classical.not_not.1 c18
          rw [if_pos c18'] at hfold
          refine c_skip ?_; refine x_blk ?_; refine x_seq ?_; refine c_reg ?_; refine add rfl rfl (by omega) rfl (mv rfl rfl ?_)
          refine o_nil ?_
          exact x_loop (h17, i + 1, (endsF (edges t) k n M').2) ⟨k_17, og.mod q17 (fun j hj e => (og2 j hj).1 e), M17, mod_more qg q17 (fun j e => .inl e), hk17.1.trans hlM, by have := hk17.2; simp only; omega, hlt, hfold⟩ (by simp only; omega) ⟨rfl, rfl, rfl, rfl, rfl, rfl, trivial⟩ rfl
      · have hi : i = (edges t a).length := by have := c16; simp only at this; omega
        subst hi
        rw [List.drop_length, foldE] at hfold
        rw [← hfold]
        refine c_exit ?_; refine x_seq_exit ?_; refine x_loop_exit ?_; refine x_blk_hit ?_; refine x_seq ?_; refine c_seq ?_; refine c_reg ?_
        refine mv rfl rfl (mv rfl rfl (ixs rfl rfl (by omega) rfl (st rfl rfl rfl Mg (by simp [icells]; omega) nofun (fun h19 u19 => ?_))))
        have s19 : h19.size = g.size := u19.size
        have k_19 := kg.upd u19 (by omega)
        refine o_nil ?_; refine x_seq ?_; refine c_seq ?_; refine c_reg ?_; refine asg rfl rfl ?_; refine o_nil ?_; refine x_seq ?_; refine c_ret ?_
        refine ret1 (.inr rfl) rfl rfl ?_
        exact ⟨rfl, set_met u19.at_ rfl, mod_more qg u19.mod (fun j e => .inl e)⟩
end

/-! The search in depth finds whether a type lies in itself. Plain; no condition but what each theorem says. -/
section
open Go Go.Eng

/-- nothing lies in itself -/
inductive Ends (E : Nat → List Int) : Nat → Prop
  | mk {a : Nat} : (∀ e ∈ E a, Ends E e.toNat) → Ends E a
inductive Way (E : Nat → List Int) : Nat → Nat → Prop
  | one {a : Nat} {e : Int} : e ∈ E a → Way E a e.toNat
  | more {a b : Nat} {e : Int} : Way E a b → e ∈ E b → Way E a e.toNat
theorem Way.first {E : Nat → List Int} {a b : Nat} (w : Way E a b) : ∃ e ∈ E a, e.toNat = b ∨ Way E e.toNat b := by
  induction w with
  | one he => exact ⟨_, he, .inl rfl⟩
  | more _ he ih =>
    obtain ⟨x, hx, h⟩ := ih
    rcases h with h | h
    · exact ⟨x, hx, .inr (.one (by rw [h]; exact he))⟩
    · exact ⟨x, hx, .inr (.more h he)⟩
theorem Ends.round {E : Nat → List Int} {a : Nat} (h : Ends E a) : ¬ Way E a a := by
  induction h with
  | @mk a _ ih =>
    intro w
    obtain ⟨e, he, h⟩ := w.first
    rcases h with h | h
    · exact ih e he (by rw [h]; exact w)
    · exact ih e he (.more h he)
theorem Ends.mono {E F : Nat → List Int} (hs : ∀ a, ∀ e ∈ F a, e ∈ E a ∨ Ends F e.toNat) {a : Nat} (h : Ends E a) : Ends F a := by
  induction h with
  | @mk a _ ih => exact .mk fun e he => (hs a e he).elim (ih e) id
def col (M : List Int) (b : Nat) : Int := M[b]?.getD 0
theorem col_set (M : List Int) (a b : Nat) (v : Int) (ha : a < M.length) : col (M.set a v) b = if b = a then v else col M b := by
  unfold col
  by_cases h : b = a
  · subst h; simp [ha]
  · rw [if_neg h, List.getElem?_set_ne (Ne.symm h)]
structure Inv (E : Nat → List Int) (n : Nat) (M : List Int) : Prop where
  len : M.length = n
  col : ∀ b, col M b = 0 ∨ col M b = 1 ∨ col M b = 2
  fin : ∀ b, Go.Proofs.YtgnkfegkdjfnjaaGreat.col M b = 2 → Ends E b
structure DOk (E : Nat → List Int) (n : Nat) (M : List Int) (Q : Prop) (r : Bool × List Int) : Prop where
  t : r.1 = true → Inv E n r.2 ∧ Q ∧ ∀ b, col r.2 b = 1 ↔ col M b = 1
  f : r.1 = false → ∃ x, x < n ∧ ¬ Ends E x
theorem foldE_ok {E : Nat → List Int} {n k : Nat} (hf : ∀ a M, Inv E n M → zeros M < k → a < n → (∀ b, col M b = 1 → Way E b a) → DOk E n M (Ends E a) (endsF E k a M)) :
    ∀ (l M : List Int), Inv E n M → zeros M < k → (∀ e ∈ l, 0 ≤ e ∧ e < n) → (∀ e ∈ l, ∀ b, col M b = 1 → Way E b e.toNat) → DOk E n M (∀ e ∈ l, Ends E e.toNat) (foldE (endsF E k) l M)
  | [], M, hI, _, _, _ => ⟨fun _ => ⟨hI, by simp, fun _ => Iff.rfl⟩, fun e => by simp [foldE] at e⟩
  | x :: l, M, hI, hz, hv, hw => by
    have hx := hv x (List.mem_cons_self ..)
    have h1 := hf x.toNat M hI hz (by omega) (hw x (List.mem_cons_self ..))
    have hk := endsF_keep E k x.toNat M
    unfold foldE
    split
    · rename_i c
      obtain ⟨hI1, he, hg⟩ := h1.t c
      have h2 := foldE_ok hf l (endsF E k x.toNat M).2 hI1 (by omega) (fun e he => hv e (List.mem_cons_of_mem _ he)) (fun e he b hb => hw e (List.mem_cons_of_mem _ he) b ((hg b).1 hb))
      refine ⟨fun e => ?_, h2.f⟩
      obtain ⟨a1, a2, a3⟩ := h2.t e
      refine ⟨a1, fun y hy => ?_, fun b => (a3 b).trans (hg b)⟩
      rcases List.mem_cons.1 hy with rfl | hy
      · exact he
      · exact a2 y hy
    · rename_i c
      exact ⟨fun e => by simp at e, fun _ => h1.f (by simpa using c)⟩
theorem endsF_ok {E : Nat → List Int} {n : Nat} (hv : ∀ a, a < n → ∀ e ∈ E a, 0 ≤ e ∧ e < n) : ∀ (k a : Nat) (M : List Int), Inv E n M → zeros M < k → a < n → (∀ b, col M b = 1 → Way E b a) → DOk E n M (Ends E a) (endsF E k a M)
  | 0, _, _, _, h, _, _ => absurd h (Nat.not_lt_zero _)
  | k + 1, a, M, hI, hz, ha, hw => by
    have hl := hI.len
    have hc := hI.col a
    unfold endsF
    split
    · rename_i c
      have c : 0 < col M a := c
      refine ⟨fun e => ?_, fun e => ⟨a, ha, fun h => h.round (hw a ?_)⟩⟩
      · have e : col M a = 2 := by simpa [col] using e
        exact ⟨hI, hI.fin a e, fun _ => Iff.rfl⟩
      · have e : ¬ col M a = 2 := by simpa [col] using e
        omega
    · rename_i c
      have hz1 := zeros_set_lt M a 1 (by omega) (by omega) c
      have c : ¬ 0 < col M a := c
      have hs := fun b => col_set M a b 1 (by omega)
      have hI1 : Inv E n (M.set a 1) := ⟨by simpa using hl, fun b => by rw [hs]; split; omega; exact hI.col b, fun b hb => by
        rw [hs] at hb
        split at hb
        · omega
        · exact hI.fin b hb⟩
      have h := foldE_ok (endsF_ok hv k) (E a) (M.set a 1) hI1 (by omega) (hv a ha) (fun e he b hb => by
        rw [hs] at hb
        split at hb
        · rename_i e1; subst e1; exact .one he
        · exact .more (hw b hb) he)
      split
      · rename_i c2
        obtain ⟨b1, b2, b3⟩ := h.t c2
        have hE : Ends E a := .mk b2
        have hs2 := fun b => col_set (foldE (endsF E k) (E a) (M.set a 1)).2 a b 2 (by rw [b1.len]; exact ha)
        refine ⟨fun _ => ⟨⟨by simpa using b1.len, fun b => by simp only; rw [hs2]; split; omega; exact b1.col b, fun b hb => ?_⟩, hE, fun b => ?_⟩, fun e => by simp at e⟩
        · simp only at hb; rw [hs2] at hb
          split at hb
          · rename_i e; rw [e]; exact hE
          · exact b1.fin b hb
        · simp only; rw [hs2]
          by_cases e : b = a
          · rw [if_pos e, e]; omega
          · rw [if_neg e, b3, hs, if_neg e]
      · rename_i c2
        exact ⟨fun e => by simp at e, fun _ => h.f (by simpa using c2)⟩
theorem zeros_le (M : List Int) : zeros M ≤ M.length := List.countP_le_length
theorem col_zero (n b : Nat) : col (List.replicate n 0) b = 0 := by
  unfold col
  rcases h : (List.replicate n (0 : Int))[b]? with _ | v
  · rfl
  · have := List.mem_of_getElem? h
    simp at this; simp [this]
theorem inv_zero (E : Nat → List Int) (n : Nat) : Inv E n (List.replicate n 0) := ⟨by simp, fun b => .inl (col_zero n b), fun b hb => by rw [col_zero] at hb; omega⟩
/-- before a search from above: nothing is on its way -/
structure Free (E : Nat → List Int) (n : Nat) (M : List Int) : Prop extends Inv E n M where
  free : ∀ b, ¬ Go.Proofs.YtgnkfegkdjfnjaaGreat.col M b = 1
theorem free_zero (E : Nat → List Int) (n : Nat) : Free E n (List.replicate n 0) := ⟨inv_zero E n, fun b => by rw [col_zero]; omega⟩
theorem free_step {E : Nat → List Int} {n : Nat} (hv : ∀ a, a < n → ∀ e ∈ E a, 0 ≤ e ∧ e < n) {M : List Int} (h : Free E n M) {a : Nat} (ha : a < n) :
    ((endsF E (n + 1) a M).1 = true → Free E n (endsF E (n + 1) a M).2 ∧ Ends E a) ∧ ((endsF E (n + 1) a M).1 = false → ∃ x, x < n ∧ ¬ Ends E x) := by
  have hz := zeros_le M
  have hl := h.len
  have k := endsF_ok hv (n + 1) a M h.toInv (by omega) ha (fun b hb => absurd hb (h.free b))
  exact ⟨fun e => by obtain ⟨a1, a2, a3⟩ := k.t e; exact ⟨⟨a1, fun b hb => h.free b ((a3 b).1 hb)⟩, a2⟩, k.f⟩
theorem endsF_col {E : Nat → List Int} (k : Nat) : ∀ (a : Nat) (M : List Int), (∀ b, col M b = 0 ∨ col M b = 1 ∨ col M b = 2) → ∀ b, col (endsF E k a M).2 b = 0 ∨ col (endsF E k a M).2 b = 1 ∨ col (endsF E k a M).2 b = 2 := by
  have hset : ∀ (M : List Int) (a : Nat) (v : Int), (v = 1 ∨ v = 2) → (∀ b, col M b = 0 ∨ col M b = 1 ∨ col M b = 2) → ∀ b, col (M.set a v) b = 0 ∨ col (M.set a v) b = 1 ∨ col (M.set a v) b = 2 := by
    intro M a v hv h b
    rcases Nat.lt_or_ge a M.length with ha | ha
    · rw [col_set M a b v ha]
      split
      · omega
      · exact h b
    · rw [List.set_eq_of_length_le ha]; exact h b
  have hfold : ∀ (f : Nat → List Int → Bool × List Int), (∀ (a : Nat) (M : List Int), (∀ b, col M b = 0 ∨ col M b = 1 ∨ col M b = 2) → ∀ b, col (f a M).2 b = 0 ∨ col (f a M).2 b = 1 ∨ col (f a M).2 b = 2) →
      ∀ (l M : List Int), (∀ b, col M b = 0 ∨ col M b = 1 ∨ col M b = 2) → ∀ b, col (foldE f l M).2 b = 0 ∨ col (foldE f l M).2 b = 1 ∨ col (foldE f l M).2 b = 2 := by
    intro f hf l
    induction l with
    | nil => exact fun M h => h
    | cons x l ih =>
      intro M h
      unfold foldE
      split
      · exact ih _ (hf _ _ h)
      · exact hf _ _ h
  induction k with
  | zero => exact fun a M h => h
  | succ k ih =>
    intro a M h
    unfold endsF
    split
    · exact h
    · split
      · exact hset _ _ _ (.inr rfl) (hfold _ ih _ _ (hset _ _ _ (.inl rfl) h))
      · exact hfold _ ih _ _ (hset _ _ _ (.inl rfl) h)
end

/-! The walks of tables' fielded, and of what is found in a list of types. No condition but what each theorem says. -/
section
open Go Go.Eng

instance eiI : EI Tryz.prog 3 := ei_of (by kernel_rfl)
theorem str_inj {a b : Bytes} (h : str a = str b) : a = b := by
  have h2 : (ByteArray.mk a.toArray) = ByteArray.mk b.toArray := by injection h
  have h3 : a.toArray = b.toArray := by injection h2
  simpa using congrArg Array.toList h3
open Classical in
/-- a map that counts: 1 of what was met -/
noncomputable def seenV (l : List Value) : Value → Int := fun v => if v ∈ l then 1 else 0
theorem seenV_nil : seenV [] = fun _ => 0 := by funext v; simp [seenV]
theorem seenV_le (l : List Value) (v : Value) : 0 ≤ seenV l v ∧ seenV l v ≤ 1 := by unfold seenV; split <;> omega
theorem seenV_in {l : List Value} {v : Value} (h : v ∈ l) : seenV l v = 1 := if_pos h
theorem seenV_out {l : List Value} {v : Value} (h : ¬ v ∈ l) : seenV l v = 0 := if_neg h
theorem seenV_pos {l : List Value} {v : Value} : 0 < seenV l v ↔ v ∈ l := by unfold seenV; split <;> simp [*]
theorem upd_at (f : Value → Int) (k : Value) (v : Int) : upd f k v k = v := if_pos rfl
theorem seenV_upd (l : List Value) (k : Value) : upd (seenV l) k 1 = seenV (l ++ [k]) := by
  funext x
  unfold upd seenV
  by_cases e : x = k
  · subst e; rw [if_pos rfl, if_pos (by simp)]
  · rw [if_neg e]
    by_cases h : x ∈ l
    · rw [if_pos h, if_pos (by simp [h])]
    · rw [if_neg h, if_neg (by simp [h, e])]
theorem seenV_upd2 {l : List Value} {k : Value} (h : ¬ k ∈ l) : upd (seenV l) k (seenV l k + 1) = seenV (l ++ [k]) := by rw [seenV_out h]; exact seenV_upd l k
theorem map_new {P : Program} {k : TypeId} {h h' : Heap} (n : New h (.map #[] 0) h') : MapIs P k h' h.size (seenV []) := ⟨#[], 0, n.at_, by rw [seenV_nil]; exact MapOf.empty P k⟩
theorem str_mem {s : Bytes} {l : List Bytes} : str s ∈ l.map str ↔ s ∈ l := by
  rw [List.mem_map]
  exact ⟨fun ⟨a, ha, e⟩ => str_inj e ▸ ha, fun h => ⟨s, h, rfl⟩⟩

/-- the names of a record's fields and of its bases', of few bases -/
def chainN (t : List Ty) : Nat → Ty → Option (List Bytes)
  | 0, _ => none
  | k + 1, x => if x.base = 0 then some (x.fields.map (·.name)) else match t[x.base.toNat]? with
    | some y => (chainN t k y).map (x.fields.map (·.name) ++ ·)
    | none => none
def FieldP (t : List Ty) (x : Ty) : Prop := ∃ l, chainN t 5 x = some l ∧ l.Nodup
theorem chain_first {t : List Ty} {k : Nat} {x : Ty} {l : List Bytes} (h : chainN t (k + 1) x = some l) : ∃ l', l = x.fields.map (·.name) ++ l' := by
  unfold chainN at h
  split at h
  · cases h; exact ⟨[], by simp⟩
  · split at h
    · rw [Option.map_eq_some_iff] at h
      obtain ⟨a, -, e⟩ := h
      exact ⟨a, e.symm⟩
    · cases h

set_option maxHeartbeats 2000000 in
theorem fielded_fn {h : Heap} {vt v : Value} {t : List Ty} {x : Ty} (ht : TypesAt h.size h vt t) (hx : TyV h.size h v x) (hbt : ∀ y ∈ t, 0 ≤ y.base ∧ y.base < t.length) (hxt : x ∈ t) :
    Does Tryz.prog 100 [vt, v] h (fun v h' => v = .bool (tb (FieldP t x)) ∧ Ext h h') := by
  obtain ⟨cs, rfl, htr⟩ := hx
  have ht0 := ht
  obtain ⟨at0, ct0, rfl⟩ := SliceAt.form ht
  have hmx : maxLen = 9223372036854775807 := by decide
  have k0 : At h.size h h := At.refl (Nat.le_refl _)
  refine fn_enter (N := 40) Tryz.func100 (by kernel_rfl) rfl rfl rfl (fun w0 => ?_)
  refine c_seq ?_; refine c_reg ?_; refine bx rfl nofun rfl (fun h1 n1 => ?_)
  have s1 : h1.size = h.size + 1 := n1.size
  have k_1 := k0.ext n1.ext
  have b3_1 := n1.at_
  refine asg rfl rfl ?_; refine o_nil ?_; refine x_seq ?_; refine c_seq ?_; refine c_reg ?_; refine mkm nofun rfl (fun h2 n2 => ?_)
  have s2 : h2.size = h1.size + 1 := n2.size
  have k_2 := k_1.ext n2.ext
  have b3_2 := n2.ext.get b3_1
  have M9_2 : MapIs Tryz.prog 9 h2 h1.size _ := map_new n2
  refine asg rfl rfl ?_; refine o_nil ?_; refine x_seq ?_; refine c_seq ?_; refine c_reg ?_; refine asg rfl rfl ?_; refine o_nil ?_; refine x_seq ?_
  refine c_blk ?_
  refine c_loop (α := Ty × List Value × Nat × List Bytes × Heap) (fun s => [(0, .slice at0 t.length ct0), (3, ptr h.size 0), (5, .map (some h1.size)), (6, i64 (s.2.2.1 : Nat))]) (fun s => s.2.2.2.2)
    (fun s => At h.size h s.2.2.2.2 ∧ s.2.2.2.2[h.size]? = some (.cells s.2.1.toArray 52 (0, 0)) ∧ tyR h.size h s.1 s.2.1 ∧ s.1 ∈ t ∧ MapIs Tryz.prog 9 s.2.2.2.2 h1.size (seenV (s.2.2.2.1.map str)) ∧ s.2.2.2.1.Nodup ∧ s.2.2.1 ≤ 5 ∧ ((∃ l', chainN t (5 - s.2.2.1) s.1 = some l' ∧ (s.2.2.2.1 ++ l').Nodup) ↔ FieldP t x))
    (fun s => 5 - s.2.2.1) (x, cs, 0, [], h2) ⟨k_2, b3_2, htr, hxt, map_new n2, .nil, Nat.zero_le _, by simp [FieldP]⟩ ⟨rfl, rfl, rfl, rfl, trivial⟩ rfl (fun s hs => ?_)
  obtain ⟨y, cs', b, l, g⟩ := s
  obtain ⟨kg, g3, ⟨hfit, vf, vp, hcs', hF, -⟩, hyt, hM, hnd, hb5, hiff⟩ := hs
  simp only at kg g3 hfit hcs' hF hyt hM hnd hb5 hiff
  subst hcs'
  have hF0 := hF
  obtain ⟨hFl, af, cf, rfl, -⟩ := hF
  have hby := hbt y hyt
  have hMl := hM.lt
  change SC _ _ _ _ g
  refine c_seq ?_; refine c_blk ?_
  refine c_seq ?_; refine c_seq ?_; refine c_reg ?_; refine mv rfl rfl (gti rfl rfl rfl ?_)
  refine o_nil ?_; refine x_seq ?_; refine c_cond rfl (fun c3 => ?_) (fun c3 => ?_)
  · refine c_seq ?_; refine c_reg ?_; refine asg rfl rfl ?_; refine o_nil ?_; refine x_seq ?_; refine c_ret ?_; refine x_seq_ret ?_
    refine x_blk_ret ?_; refine x_seq_ret ?_; refine x_loop_ret ?_; refine x_blk_ret ?_; refine ret1 (.inr rfl) rfl rfl ?_
    refine ⟨congrArg Value.bool (tb_f (fun hf => ?_)).symm, kg.toExt⟩
    obtain ⟨l', hl', -⟩ := hiff.2 hf
    rw [show 5 - b = 0 by have := c3; simp only at this; omega] at hl'
    cases hl'
  · obtain ⟨k, hk⟩ : ∃ k, 5 - b = k + 1 := ⟨4 - b, by have := c3; simp only at this; omega⟩
    rw [hk] at hiff
    refine c_skip ?_; refine x_seq ?_
    refine c_seq ?_; refine c_seq ?_; refine c_reg ?_; refine fa rfl rfl (ld rfl (cell g3 rfl) rfl (lnl rfl rfl (mv rfl rfl ?_)))
    refine o_nil ?_; refine x_seq ?_; refine c_blk ?_
    refine c_loop (α := Nat × Heap) (fun s => [(0, .slice at0 t.length ct0), (3, ptr h.size 0), (5, .map (some h1.size)), (6, i64 (b : Nat)), (15, .slice af y.fields.length cf), (16, i64 (y.fields.length : Nat)), (17, i64 (s.1 : Nat))]) (fun s => s.2)
      (fun s => At h.size h s.2 ∧ s.2[h.size]? = some (.cells (tyCells y (.slice af y.fields.length cf) vp).toArray 52 (0, 0)) ∧ MapIs Tryz.prog 9 s.2 h1.size (seenV ((l ++ (y.fields.take s.1).map (·.name)).map str)) ∧ (l ++ (y.fields.take s.1).map (·.name)).Nodup ∧ s.1 ≤ y.fields.length)
      (fun s => y.fields.length - s.1) (0, g) ⟨kg, g3, by simpa using hM, by simpa using hnd, Nat.zero_le _⟩ ⟨rfl, rfl, rfl, rfl, rfl, rfl, rfl, trivial⟩ rfl (fun s hs => ?_)
    obtain ⟨i, g2⟩ := s
    obtain ⟨kg2, g23, hM2, hnd2, hil⟩ := hs
    simp only at kg2 g23 hM2 hnd2 hil
    have hM2l := hM2.lt
    change SC _ _ _ _ g2
    refine c_seq ?_; refine c_reg ?_; refine lti rfl rfl rfl ?_; refine o_nil ?_; refine x_seq ?_
    refine c_seq ?_; refine c_cond rfl (fun c4 => ?_) (fun c4 => ?_)
    · have hlt : i < y.fields.length := by have := c4; simp only at this; omega
      have hxi : y.fields[i]? = some y.fields[i] := List.getElem?_eq_getElem hlt
      have htake : l ++ (y.fields.take (i + 1)).map (·.name) = (l ++ (y.fields.take i).map (·.name)) ++ [y.fields[i].name] := by rw [List.take_add_one, hxi, List.map_append, List.append_assoc]; rfl
      have hpre : ∃ r, l ++ y.fields.map (·.name) = (l ++ (y.fields.take i).map (·.name)) ++ [y.fields[i].name] ++ r := ⟨(y.fields.drop (i + 1)).map (·.name), by rw [← htake, List.append_assoc, ← List.map_append, List.take_append_drop]⟩
      obtain ⟨b2, o2, cs2, ha2, hb2, hl2, hr2, hcs2, hfl2⟩ := hF0.el kg2 hxi
      generalize y.fields[i] = f at *
      subst hcs2
      subst ha2
      have hsl := seenV_le ((l ++ (y.fields.take i).map (·.name)).map str) (str f.name)
      refine c_skip ?_; refine x_seq ?_
      refine c_seq ?_; refine c_blk ?_; refine c_seq ?_; refine c_reg ?_
      refine ixs rfl rfl (by omega) rfl (ldn rfl rfl hr2 rfl (alc nofun rfl (fun h5 n5 => ?_)))
      have s5 : h5.size = g2.size + 1 := n5.size
      have k_5 := kg2.ext n5.ext
      have g23_5 := n5.ext.get g23
      have b8_5 := n5.at_
      refine stw rfl rfl rfl (ones rfl) b8_5 rfl nofun (fun h6 u6 => ?_)
      have s6 : h6.size = h5.size := u6.size
      have k_6 := k_5.upd u6 (by omega)
      have g23_6 := u6.ne g23_5 (by omega)
      have b8_6 := u6.at_
      refine o_nil ?_; refine x_seq ?_; refine c_seq ?_; refine c_reg ?_
      refine mv rfl rfl (fa rfl rfl (ld rfl (cell b8_6 rfl) rfl (lk (key := str f.name) rfl rfl (keys hfl2.1) ((hM2.mod n5.ext (fun e => e)).mod u6.mod (fun e => by have e' : h1.size = g2.size := e; omega)) rfl ?_)))
      refine add rfl rfl (by omega) rfl (mup rfl rfl (keys hfl2.1) rfl ((hM2.mod n5.ext (fun e => e)).mod u6.mod (fun e => by have e' : h1.size = g2.size := e; omega)) nofun (fun h7 m7 x7 => ?_))
      have s7 : h6.size ≤ h7.size := x7.size
      have k_7 := k_6.mod x7 (fun k e => by have := e; omega)
      have g23_7 := (x7.get g23_6 (fun e => by omega))
      have b8_7 := (x7.get b8_6 (fun e => by omega))
      refine o_nil ?_; refine x_seq ?_; refine c_seq ?_; refine c_reg ?_
      refine mv rfl rfl (fa rfl rfl (ld rfl (cell b8_7 rfl) rfl (lk (key := str f.name) rfl rfl (keys hfl2.1) m7 rfl (gti rfl rfl rfl ?_))))
      refine o_nil ?_; refine x_seq ?_; refine c_cond rfl (fun c8 => ?_) (fun c8 => ?_)
      · refine c_seq ?_; refine c_reg ?_; refine asg rfl rfl ?_; refine o_nil ?_; refine x_seq ?_; refine c_ret ?_; refine x_blk_ret ?_
        refine x_seq_ret ?_; refine x_loop_ret ?_; refine x_blk_ret ?_; refine x_seq_ret ?_; refine x_blk_ret ?_; refine x_seq_ret ?_
        refine x_loop_ret ?_; refine x_blk_ret ?_; refine ret1 (.inr rfl) rfl rfl ?_
        rw [upd_at] at c8
        have hin := seenV_pos.1 (show 0 < seenV ((l ++ (y.fields.take i).map (·.name)).map str) (str f.name) by omega)
        refine ⟨congrArg Value.bool (tb_f (fun hf => ?_)).symm, k_7.toExt⟩
        obtain ⟨l', hl', hn'⟩ := hiff.2 hf
        obtain ⟨l2, rfl⟩ := chain_first hl'
        obtain ⟨r, hr⟩ := hpre
        rw [← List.append_assoc, hr, List.nodup_append, List.nodup_append, List.nodup_append] at hn'
        exact hn'.1.1.2.2 f.name (str_mem.1 hin) f.name (by simp) rfl
      · rw [upd_at] at c8
        have hout : ¬ str f.name ∈ (l ++ (y.fields.take i).map (·.name)).map str := fun e => by rw [seenV_in e] at c8; exact c8 (by decide)
        rw [seenV_upd2 hout] at m7
        refine c_skip ?_; refine x_blk ?_; refine x_seq ?_; refine c_reg ?_; refine add rfl rfl (by omega) rfl (mv rfl rfl ?_)
        refine o_nil ?_
        refine x_loop (i + 1, h7) ⟨k_7, g23_7, by rw [htake, List.map_append]; exact m7, by rw [htake, List.nodup_append]; exact ⟨hnd2, by simp, fun a ha b hb e => by rw [List.mem_singleton] at hb; subst hb; subst e; exact hout (str_mem.2 ha)⟩, hlt⟩ (by simp only; omega) ⟨rfl, rfl, rfl, rfl, rfl, rfl, rfl, trivial⟩ rfl
    · have hi : i = y.fields.length := by have := c4; simp only at this; omega
      subst hi
      rw [List.take_length] at hM2 hnd2
      refine c_exit ?_; refine x_seq_exit ?_; refine x_loop_exit ?_; refine x_blk_hit ?_; refine x_seq ?_
      refine c_seq ?_; refine c_seq ?_; refine c_reg ?_; refine fa rfl rfl (ld rfl (cell g23 rfl) rfl (eqi rfl rfl rfl ?_))
      refine o_nil ?_; refine x_seq ?_; refine c_cond rfl (fun c9 => ?_) (fun c9 => ?_)
      · refine c_seq ?_; refine c_reg ?_; refine asg rfl rfl ?_; refine o_nil ?_; refine x_seq ?_; refine c_ret ?_; refine x_seq_ret ?_
        refine x_blk_ret ?_; refine x_seq_ret ?_; refine x_loop_ret ?_; refine x_blk_ret ?_; refine ret1 (.inr rfl) rfl rfl ?_
        refine ⟨congrArg Value.bool (tb_t (hiff.1 ⟨_, ?_, hnd2⟩)).symm, kg2.toExt⟩
        unfold chainN
        exact if_pos c9
      · have hyb : t[y.base.toNat]? = some (t[y.base.toNat]'(by omega)) := List.getElem?_eq_getElem _
        have hym : t[y.base.toNat]'(by omega) ∈ t := List.getElem_mem _
        have hch : chainN t (k + 1) y = (chainN t k (t[y.base.toNat]'(by omega))).map (y.fields.map (·.name) ++ ·) := by
         rw [chainN, if_neg c9, hyb]
        obtain ⟨b4, o4, cs4, ha4, hb4, hl4, hr4, hR4⟩ := SliceAt.el ht0 kg2 hyb
        generalize t[y.base.toNat]'(by omega) = y' at *
        subst ha4
        obtain ⟨hfit4, vf4, vp4, rfl, hF4, hP4⟩ := hR4
        obtain ⟨a4, c4', rfl⟩ := hF4.form
        obtain ⟨a5, c5', rfl⟩ := hP4.form
        refine c_skip ?_; refine x_seq ?_; refine c_reg ?_
        refine mv rfl rfl (fa rfl rfl (ld rfl (cell g23 rfl) rfl (ixs rfl rfl (by omega) rfl (ldn rfl rfl hr4 rfl (stw rfl rfl rfl (ones rfl) g23 rfl nofun (fun h10 u10 => ?_))))))
        have s10 : h10.size = g2.size := u10.size
        have k_10 := kg2.upd u10 (by omega)
        have g23_10 := u10.at_
        refine o_nil ?_; refine x_blk ?_; refine x_seq ?_; refine c_reg ?_; refine mv rfl rfl (add rfl rfl (by omega) rfl (asg rfl rfl ?_))
        refine o_nil ?_
        refine x_loop (y', tyCells y' (.slice a4 y'.fields.length c4') (.slice a5 y'.params.length c5'), b + 1, l ++ y.fields.map (·.name), h10) ⟨k_10, g23_10, ⟨hfit4, _, _, rfl, hF4, hP4⟩, hym, hM2.mod u10.mod (fun e => by have e' : h1.size = h.size := e; omega), hnd2, by have := c3; simp only at this ⊢; omega, ?_⟩ (by have := c3; simp only at this ⊢; omega) ⟨rfl, rfl, rfl, rfl, trivial⟩ rfl
        rw [← hiff, hch]
        simp only
        rw [show 5 - (b + 1) = k by omega]
        constructor
        · exact fun ⟨l', h1, h2⟩ => ⟨_, by rw [h1]; rfl, by rw [← List.append_assoc]; exact h2⟩
        · intro ⟨l', h1, h2⟩
          rw [Option.map_eq_some_iff] at h1
          obtain ⟨a, h1, rfl⟩ := h1
          exact ⟨a, h1, by rw [List.append_assoc]; exact h2⟩
end

/-! The walks of what is found in a list of types, and of the question of a record's fields. No condition but what each theorem says. -/
section
open Go Go.Eng

theorem idxT_fn {h : Heap} {vt : Value} {t : List Ty} {f : Nat} {us : List Value} {p : Ty → Prop} (ht : TypesAt h.size h vt t)
    (hf : ∀ v x g, At h.size h g → TyV h.size h v x → x ∈ t → Does Tryz.prog f ([v] ++ us) g (fun v h' => v = .bool (tb (p x)) ∧ Ext g h')) :
    Does Tryz.prog 106 [vt, .func (.func f) #[] us.toArray] h (fun v h' => (∃ n, v = i64 n ∧ (0 ≤ n ↔ ∃ x ∈ t, p x)) ∧ Ext h h') := by
  have ht0 := ht
  obtain ⟨htl, at0, ct0, rfl, -⟩ := ht
  have hmx : maxLen = 9223372036854775807 := by decide
  refine fn_enter (N := 19) Tryz.func106 (by kernel_rfl) rfl rfl rfl (fun w0 => ?_)
  refine c_seq ?_; refine c_reg ?_; refine asg rfl rfl ?_; refine o_nil ?_; refine x_seq ?_
  refine c_seq ?_; refine c_seq ?_; refine c_reg ?_; refine mv rfl rfl (lnl rfl rfl (mv rfl rfl ?_))
  refine o_nil ?_; refine x_seq ?_; refine c_blk ?_
  refine c_loop (α := Nat × Heap) (fun s => [(0, .slice at0 t.length ct0), (1, .func (.func f) #[] us.toArray), (7, i64 (t.length : Nat)), (8, i64 (s.1 : Nat))]) (fun s => s.2)
    (fun s => At h.size h s.2 ∧ s.1 ≤ t.length ∧ upTo t (fun x => ¬ p x) s.1) (fun s => t.length - s.1) (0, h) ⟨At.refl (Nat.le_refl _), Nat.zero_le _, upTo_zero _ _⟩ ⟨rfl, rfl, rfl, rfl, trivial⟩ rfl (fun s hs => ?_)
  obtain ⟨i, g⟩ := s
  obtain ⟨kg, hil, hup⟩ := hs
  simp only at kg hil hup
  change SC _ _ _ _ g
  refine c_seq ?_; refine c_reg ?_; refine lti rfl rfl rfl ?_; refine o_nil ?_; refine x_seq ?_
  refine c_seq ?_; refine c_cond rfl (fun c1 => ?_) (fun c1 => ?_)
  · have hlt : i < t.length := by have := c1; simp only at this; omega
    have hxi : t[i]? = some t[i] := List.getElem?_eq_getElem hlt
    have hxm : t[i] ∈ t := List.getElem_mem hlt
    obtain ⟨b2, o2, cs2, ha2, hb2, hl2, hr2, hR2⟩ := SliceAt.el ht0 kg hxi
    generalize t[i] = x at *
    subst ha2
    have hV : TyV h.size h (.agg cs2.toArray) x := ⟨cs2, rfl, hR2⟩
    obtain ⟨hfit, vf, vp, rfl, hF, hP⟩ := hR2
    refine c_skip ?_; refine x_seq ?_
    refine c_seq ?_; refine c_blk ?_; refine c_seq ?_; refine c_reg ?_; refine mv rfl rfl (asg rfl rfl ?_)
    refine o_nil ?_; refine x_seq ?_; refine c_seq ?_; refine c_reg ?_
    refine mv rfl rfl (mv rfl rfl (mv rfl rfl (ixs rfl rfl (by omega) rfl (ldn rfl rfl hr2 rfl (cll (first := []) (captured := us) (vs := [.agg (tyCells x vf vp).toArray]) rfl (a1 rfl) (hf _ x g kg hV hxm) rfl nofun (fun v2 h2 r2 => ?_))))))
    obtain ⟨rfl, x2⟩ := r2
    have k_2 := (kg.ext x2)
    refine o_nil ?_; refine x_seq ?_; refine c_cond rfl (fun c3 => ?_) (fun c3 => ?_)
    · have c3 : p x := by simpa [tb_iff] using c3
      refine c_seq ?_; refine c_reg ?_; refine mv rfl rfl (asg rfl rfl ?_)
      refine o_nil ?_; refine x_seq ?_; refine c_ret ?_; refine x_blk_ret ?_; refine x_seq_ret ?_; refine x_loop_ret ?_; refine x_blk_ret ?_
      refine x_seq_ret ?_; refine ret1 (.inr rfl) rfl rfl ?_
      exact ⟨⟨i, rfl, fun _ => ⟨x, hxm, c3⟩, fun _ => by omega⟩, (kg.ext x2).toExt⟩
    · have c3 : ¬ p x := by simpa [tb_iff] using c3
      refine c_skip ?_; refine x_blk ?_; refine x_seq ?_; refine c_reg ?_; refine add rfl rfl (by omega) rfl (mv rfl rfl ?_)
      refine o_nil ?_
      refine x_loop (i + 1, h2) ⟨kg.ext x2, hlt, (upTo_succ hxi).2 ⟨hup, c3⟩⟩ (by simp only; omega) ⟨rfl, rfl, rfl, rfl, trivial⟩ rfl
  · have hi : i = t.length := by have := c1; simp only at this; omega
    subst hi
    refine c_exit ?_; refine x_seq_exit ?_; refine x_loop_exit ?_; refine x_blk_hit ?_; refine x_seq ?_; refine c_seq ?_; refine c_reg ?_
    refine asg rfl rfl ?_; refine o_nil ?_; refine x_seq ?_; refine c_ret ?_; refine ret1 (.inr rfl) rfl rfl ?_
    exact ⟨⟨-1, rfl, fun e => absurd e (by decide), fun ⟨x, hx, hp⟩ => absurd hp (upTo_all.1 hup x hx)⟩, kg.toExt⟩
theorem contT_fn {h : Heap} {vt : Value} {t : List Ty} {f : Nat} {us : List Value} {p : Ty → Prop} (ht : TypesAt h.size h vt t)
    (hf : ∀ v x g, At h.size h g → TyV h.size h v x → x ∈ t → Does Tryz.prog f ([v] ++ us) g (fun v h' => v = .bool (tb (p x)) ∧ Ext g h')) :
    Does Tryz.prog 98 [vt, .func (.func f) #[] us.toArray] h (fun v h' => v = .bool (tb (∃ x ∈ t, p x)) ∧ Ext h h') := by
  refine fn_enter (N := 9) Tryz.func98 (by kernel_rfl) rfl rfl rfl (fun w0 => ?_)
  refine c_seq ?_; refine c_reg ?_; refine asg rfl rfl ?_; refine o_nil ?_; refine x_seq ?_; refine c_seq ?_; refine c_reg ?_
  refine mv rfl rfl (mv rfl rfl (cl (vs := [vt, .func (.func f) #[] us.toArray]) rfl ((idxT_fn ht hf)) rfl (fun v1 h1 r1 => ?_)))
  obtain ⟨⟨n, rfl, hn⟩, x1⟩ := r1
  refine gei rfl rfl rfl (asg rfl rfl ?_)
  refine o_nil ?_; refine x_seq ?_; refine c_ret ?_; refine ret1 (.inr rfl) rfl rfl ?_
  exact ⟨vtb hn, x1⟩
theorem good1_fn {h0 h : Heap} {vt v : Value} {t : List Ty} {x : Ty} {b : Nat} {N : Nat} (ht : TypesAt N h0 vt t) (k0 : At N h0 h) (hb : cellAt h b 0 = some vt) (hx : TyV N h0 v x) (hbt : ∀ y ∈ t, 0 ≤ y.base ∧ y.base < t.length) (hxt : x ∈ t) :
    Does Tryz.prog 99 ([v] ++ [ptr b 0]) h (fun v h' => v = .bool (tb (x.form = 9 ∧ ¬ FieldP t x)) ∧ Ext h h') := by
  have hx0 := hx
  obtain ⟨cs, rfl, hfit, vf, vp, rfl, hF, hP⟩ := hx
  refine fn_enter (N := 13) Tryz.func99 (by kernel_rfl) rfl rfl rfl (fun w0 => ?_)
  refine c_seq ?_; refine c_reg ?_; refine bx rfl nofun rfl (fun h1 n1 => ?_)
  have s1 : h1.size = h.size + 1 := n1.size
  have k_1 := k0.ext n1.ext
  have b2_1 := n1.at_
  refine asg rfl rfl ?_; refine o_nil ?_; refine x_seq ?_; refine c_seq ?_; refine c_reg ?_
  refine fa rfl rfl (ld rfl (cell b2_1 rfl) rfl (eqi rfl rfl rfl (mv rfl rfl (gqt rfl rfl rfl (fun e => ld rfl (n1.ext.cell hb (fun e => e)) rfl) (gqt rfl rfl rfl (fun e => ldn rfl rfl (row_blk n1.at_) rfl) ?_)))))
  refine getr rfl rfl rfl (fun e kk => clE ((fielded_fn (TypesAt.keep ht k_1.k k_1.n) (TyV.keep hx0 k_1.k k_1.n) hbt hxt)) (a2 (cg rfl e) (cg rfl e)) rfl kk) (fun h2 x2 => ?_)
  have s2 : h1.size ≤ h2.size := x2.size
  have k_2 := k_1.ext x2
  have b2_2 := x2.get b2_1
  refine gqt rfl rfl rfl (fun e => nt (cg rfl e) rfl) (pka rfl rfl rfl rfl (asg rfl rfl ?_))
  refine o_nil ?_; refine x_seq ?_; refine c_ret ?_; refine ret1 (.inr rfl) rfl rfl ?_
  exact ⟨vtb Iff.rfl, n1.ext.trans x2⟩
end

/-! What a good table of types is, and what follows of its nodes. Plain; no condition but what each theorem says. -/
section
open Go Go.Eng

def NodeP (t : List Ty) (j : Nat) (y : Ty) : Prop := ((j : Int) ≤ 6 ∧ BareP y j) ∨ ((j : Int) > 6 ∧ FormedP t y)
def NodesP (t : List Ty) : Prop := ∀ j y, t[j]? = some y → NodeP t j y
def recK (x : Ty) : Value := .agg #[str x.mod, i64 x.desc]
def isRec (x : Ty) : Bool := decide (x.form = 9 ∧ 0 ≤ x.desc)
def recs (l : List Ty) : List Value := (l.filter isRec).map recK
def TGood (t : List Ty) : Prop :=
  (7 ≤ t.length ∧ t.length ≤ 256) ∧ NodesP t ∧ (∀ a, a < t.length → Ends (edges t) a) ∧ (recs t).Nodup ∧ ∀ x ∈ t, x.form = 9 → FieldP t x
theorem formOf_in {t : List Ty} {n : Int} (h : formOf t n ≠ -1) : 0 ≤ n ∧ n < t.length := by
  unfold formOf at h
  split at h
  · exact absurd rfl h
  · omega
theorem part_in {t : List Ty} {n : Int} (h : PartF (formOf t n)) : 0 ≤ n ∧ n < t.length := formOf_in (by unfold PartF at h; omega)
theorem NodesP.valid {t : List Ty} (_h7 : 7 ≤ t.length) (h : NodesP t) : Valid t (edges t) := by
  intro a ha e he
  have hx := List.getElem?_eq_getElem ha
  rw [edges, hx] at he
  simp only at he
  have hn := h a _ hx
  generalize t[a] = x at *
  rcases hn with ⟨h6, hb⟩ | ⟨h6, hk, -⟩
  · have hf : x.form = a := hb.1.1.1.1.1.1.1.1.1
    rw [if_neg (by omega), if_neg (by omega)] at he; cases he
  · rcases hk with ⟨hf, k, -⟩ | ⟨hf, k, -⟩ | ⟨hf, k, -⟩ | ⟨hf, -⟩ | ⟨hf, -⟩
    · rw [if_pos (.inl hf), List.mem_singleton] at he; subst he; exact part_in k.2.2
    · rw [if_pos (.inr hf), List.mem_singleton] at he; subst he
      rcases k with k | k
      · exact part_in k
      · exact formOf_in (by omega)
    · rw [if_neg (by omega), if_pos hf] at he
      rcases List.mem_cons.1 he with rfl | he
      · rcases k.1 with k | k
        · omega
        · exact formOf_in (by omega)
      · obtain ⟨f, hf1, rfl⟩ := List.mem_map.1 he
        exact part_in (k.2.2.2.2 f hf1).2
    · rw [if_neg (by omega), if_neg (by omega)] at he; cases he
    · rw [if_neg (by omega), if_neg (by omega)] at he; cases he
theorem NodesP.base {t : List Ty} (h7 : 7 ≤ t.length) (h : NodesP t) : ∀ y ∈ t, 0 ≤ y.base ∧ y.base < t.length := by
  intro y hy
  obtain ⟨a, ha⟩ := List.mem_iff_getElem?.1 hy
  rcases h a y ha with ⟨h6, hb⟩ | ⟨h6, hk, -⟩
  · have hf : y.base = 0 := hb.1.1.1.1.2
    omega
  · rcases hk with ⟨hf, -, k, -⟩ | ⟨hf, -, -, k, -⟩ | ⟨hf, k, -⟩ | ⟨hf, -, -, k, -⟩ | ⟨hf, -, -, -, k, -⟩
    · omega
    · omega
    · rcases k.1 with k | k
      · omega
      · exact formOf_in (by omega)
    · omega
    · omega
theorem NodesP.few {t : List Ty} (h : NodesP t) : ∀ y ∈ t, y.form = 9 → y.fields.length ≤ 64 := by
  intro y hy hf
  obtain ⟨a, ha⟩ := List.mem_iff_getElem?.1 hy
  rcases h a y ha with ⟨h6, hb⟩ | ⟨h6, hk, -⟩
  · have hf : y.form = a := hb.1.1.1.1.1.1.1.1.1
    omega
  · rcases hk with ⟨hf, -⟩ | ⟨hf, -⟩ | ⟨hf, k, -⟩ | ⟨hf, -⟩ | ⟨hf, -⟩
    · omega
    · omega
    · exact k.2.1
    · omega
    · omega
theorem recs_take {t : List Ty} {i : Nat} {x : Ty} (hx : t[i]? = some x) : recs (t.take (i + 1)) = recs (t.take i) ++ (if x.form = 9 ∧ 0 ≤ x.desc then [recK x] else []) := by
  unfold recs
  rw [List.take_add_one, hx, List.filter_append, List.map_append]
  congr 1
  simp only [Option.toList]
  by_cases h : x.form = 9 ∧ 0 ≤ x.desc
  · rw [if_pos h, List.filter_cons_of_pos (by simpa [isRec] using h)]; rfl
  · rw [if_neg h, List.filter_cons_of_neg (by simpa [isRec] using h)]; rfl
theorem recs_split (t : List Ty) (i : Nat) : recs t = recs (t.take i) ++ recs (t.drop i) := by
  unfold recs; rw [← List.map_append, ← List.filter_append, List.take_append_drop]
end
end Go.Proofs.YtgnkfegkdjfnjaaGreat
