/- Cells set in a slice of its own; the trimmer's block. Plain, over the heap. What visiting keeps. Plain, over the heap. The walk of what visits types. The walk of what visits types. No condition but what each theorem says. -/
import Derived.Test.YtgnkfegkdjfnjaaGreatIgi
namespace Go.Proofs.YtgnkfegkdjfnjaaGreat
/-! Cells set in a slice of its own; the trimmer's block. Plain, over the heap. No condition but what each theorem says. -/
section
open Go Go.Eng

theorem _root_.Go.Eng.Owns.set1 {h h' : Heap} {E sz g n cap : Nat} {xs : List Value} {cur : Array Value} (o : Owns h E sz (.slice (some ⟨g, 0, none⟩) n cap) n xs) (hg : h[g]? = some (.cells cur E (0, 0))) {i : Nat} {val : Value} (_hi : i < n * sz)
    (u : h'[g]? = some (.cells (cur.setIfInBounds i val) E (0, 0))) : Owns h' E sz (.slice (some ⟨g, 0, none⟩) n cap) n (xs.set i val) := by
  refine ⟨by simpa using o.1, .inr ?_⟩
  rcases o.2 with ⟨he, _⟩ | ⟨g', cap', cur', he, hg', h1, h2, h3, h4⟩
  · cases he
  · cases he
    rw [hg] at hg'; cases hg'
    exact ⟨g, cap, _, rfl, u, h1, h2, by simpa using h3, by rw [Array.toList_setIfInBounds, List.take_set, h4]⟩
theorem _root_.Go.Eng.Owns.setN {h h' : Heap} {E sz g n cap : Nat} {xs vs : List Value} {cur : Array Value} (o : Owns h E sz (.slice (some ⟨g, 0, none⟩) n cap) n xs) (hg : h[g]? = some (.cells cur E (0, 0))) {i : Nat} (hi : i + vs.length ≤ n * sz)
    (u : h'[g]? = some (.cells (cur.toList.take i ++ vs ++ cur.toList.drop (i + vs.length)).toArray E (0, 0))) : Owns h' E sz (.slice (some ⟨g, 0, none⟩) n cap) n (xs.take i ++ vs ++ xs.drop (i + vs.length)) := by
  have hx := o.1
  refine ⟨by simp; omega, .inr ?_⟩
  rcases o.2 with ⟨he, _⟩ | ⟨g', cap', cur', he, hg', h1, h2, h3, h4⟩
  · cases he
  · cases he
    rw [hg] at hg'; cases hg'
    have hm : n * sz ≤ cap * sz := Nat.mul_le_mul_right _ h1
    have hcl : cur.toList.length = cap * sz := by simpa using h3
    refine ⟨g, cap, _, rfl, u, h1, h2, by simp; omega, ?_⟩
    have e1 : xs.take i = cur.toList.take i := by rw [← h4, List.take_take, Nat.min_eq_left (by omega)]
    have e2 : xs.drop (i + vs.length) = (cur.toList.drop (i + vs.length)).take (n * sz - (i + vs.length)) := by rw [← h4, List.drop_take]
    rw [e1, e2]
    simp only
    rw [List.take_append, List.take_of_length_le (by simp; omega)]
    congr 1
    simp only [List.length_append, List.length_take]
    rw [Nat.min_eq_left (by omega)]
theorem flat_set1 {sz : Nat} : ∀ (css : List (List Value)) (i c : Nat) (cs : List Value) (val : Value), (∀ d ∈ css, d.length = sz) → css[i]? = some cs → c < sz → css.flatten.set (i * sz + c) val = (css.set i (cs.set c val)).flatten
  | [], _, _, _, _, _, h, _ => by simp at h
  | d :: css, 0, c, cs, val, hl, h, hc => by
    have hd := hl d (List.mem_cons_self ..)
    simp at h; subst h
    simp only [List.flatten_cons, Nat.zero_mul, Nat.zero_add, List.set_cons_zero]
    rw [List.set_append_left _ _ (by omega)]
  | d :: css, i + 1, c, cs, val, hl, h, hc => by
    have hd := hl d (List.mem_cons_self ..)
    simp only [List.getElem?_cons_succ] at h
    have ih := flat_set1 css i c cs val (fun e he => hl e (List.mem_cons_of_mem _ he)) h hc
    simp only [List.flatten_cons, List.set_cons_succ]
    rw [List.set_append_right _ _ (by rw [hd, Nat.add_mul]; omega), ← ih]
    congr 2
    rw [hd, Nat.add_mul]; omega
theorem flat_setN {sz : Nat} : ∀ (css : List (List Value)) (i : Nat) (vs : List Value), (∀ d ∈ css, d.length = sz) → i < css.length → vs.length = sz → css.flatten.take (i * sz) ++ vs ++ css.flatten.drop (i * sz + vs.length) = (css.set i vs).flatten
  | [], _, _, _, h, _ => by simp at h
  | d :: css, 0, vs, hl, h, hv => by
    have hd := hl d (List.mem_cons_self ..)
    simp only [List.flatten_cons, Nat.zero_mul, Nat.zero_add, List.set_cons_zero, List.take_zero, List.nil_append]
    rw [hv, ← hd, List.drop_left]
  | d :: css, i + 1, vs, hl, h, hv => by
    have hd := hl d (List.mem_cons_self ..)
    have ih := flat_setN css i vs (fun e he => hl e (List.mem_cons_of_mem _ he)) (by simpa using h) hv
    simp only [List.flatten_cons, List.set_cons_succ]
    rw [← ih, List.take_append, List.drop_append, List.take_of_length_le (by rw [hd, Nat.add_mul]; omega), List.drop_of_length_le (by rw [hd, Nat.add_mul]; omega)]
    simp only [List.append_assoc, List.nil_append]
    congr 3
    · rw [hd, Nat.add_mul]; omega
    · congr 1; rw [hd, Nat.add_mul]; omega
theorem getq2 {α : Type} {l : List α} {i : Nat} (h : i < l.length) : l[i]? = some (l[i]'h) := List.getElem?_eq_getElem h
theorem _root_.Go.Eng.OwnS.set1 {α : Type} {h h' : Heap} {E sz g n cap : Nat} {R R' : α → List Value → Prop} {xs : List α} {cur : Array Value} (a : OwnS h E sz R (.slice (some ⟨g, 0, none⟩) n cap) xs) (hn : n = xs.length) (hg : h[g]? = some (.cells cur E (0, 0))) {i c : Nat} {val : Value} (hi : i < xs.length) (hc : c < sz)
    (u : h'[g]? = some (.cells (cur.setIfInBounds (i * sz + c) val) E (0, 0))) (x' : α) (hR : ∀ x cs, xs[i]? = some x → R x cs → R' x' (cs.set c val)) (hR' : ∀ x cs, R x cs → R' x cs) : OwnS h' E sz R' (.slice (some ⟨g, 0, none⟩) n cap) (xs.set i x') := by
  subst hn
  obtain ⟨css, o, h1, h2, h3⟩ := a
  have hcs : css[i]? = some (css[i]'(by omega)) := getq2 _
  have hx : xs[i]? = some (xs[i]'hi) := getq2 hi
  have o' := o.set1 hg (i := i * sz + c) (val := val) (by have : (i + 1) * sz ≤ xs.length * sz := Nat.mul_le_mul_right _ hi; rw [Nat.add_mul] at this; omega) u
  rw [flat_set1 css i c _ val h2 hcs hc] at o'
  refine ⟨css.set i ((css[i]'(by omega)).set c val), by simpa using o', by simp [h1], fun d hd => ?_, fun j y ds hy hd => ?_⟩
  · rcases List.mem_or_eq_of_mem_set hd with e | e
    · exact h2 d e
    · rw [e, List.length_set]; exact h2 _ (List.getElem_mem _)
  · by_cases e : i = j
    · subst e
      rw [List.getElem?_set_self hi] at hy
      rw [List.getElem?_set_self (by omega)] at hd
      cases hy; cases hd
      exact hR _ _ hx (h3 i _ _ hx hcs)
    · rw [List.getElem?_set_ne e] at hy hd
      exact hR' _ _ (h3 j y ds hy hd)
theorem _root_.Go.Eng.OwnS.setN {α : Type} {h h' : Heap} {E sz g n cap : Nat} {R R' : α → List Value → Prop} {xs : List α} {cur : Array Value} (a : OwnS h E sz R (.slice (some ⟨g, 0, none⟩) n cap) xs) (hn : n = xs.length) (hg : h[g]? = some (.cells cur E (0, 0))) {i : Nat} {vs : List Value} (hi : i < xs.length) (hv : vs.length = sz)
    (u : h'[g]? = some (.cells (cur.toList.take (i * sz) ++ vs ++ cur.toList.drop (i * sz + vs.length)).toArray E (0, 0))) (x' : α) (hR : R' x' vs) (hR' : ∀ x cs, R x cs → R' x cs) : OwnS h' E sz R' (.slice (some ⟨g, 0, none⟩) n cap) (xs.set i x') := by
  subst hn
  obtain ⟨css, o, h1, h2, h3⟩ := a
  have o' := o.setN hg (i := i * sz) (vs := vs) (by have : (i + 1) * sz ≤ xs.length * sz := Nat.mul_le_mul_right _ hi; rw [Nat.add_mul] at this; omega) u
  rw [flat_setN css i vs h2 (by omega) hv] at o'
  refine ⟨css.set i vs, by simpa using o', by simp [h1], fun d hd => ?_, fun j y ds hy hd => ?_⟩
  · rcases List.mem_or_eq_of_mem_set hd with e | e
    · exact h2 d e
    · rw [e]; exact hv
  · by_cases e : i = j
    · subst e
      rw [List.getElem?_set_self hi] at hy
      rw [List.getElem?_set_self (by omega)] at hd
      cases hy; cases hd
      exact hR
    · rw [List.getElem?_set_ne e] at hy hd
      exact hR' _ _ (h3 j y ds hy hd)
/-- the block of a slice that is not empty -/
theorem _root_.Go.Eng.OwnS.blk {α : Type} {h : Heap} {E sz : Nat} {R : α → List Value → Prop} {v : Value} {xs : List α} (a : OwnS h E sz R v xs) (hn : 0 < xs.length) : ∃ g cap cur, v = .slice (some ⟨g, 0, none⟩) xs.length cap ∧ h[g]? = some (.cells cur E (0, 0)) ∧ xs.length * sz ≤ cur.size ∧
    ∀ (i : Nat) x, xs[i]? = some x → ∃ cs, cs.length = sz ∧ Go.Eng.rowAt h g (i * sz) cs ∧ R x cs := by
  obtain ⟨css, o, h1, h2, h3⟩ := a
  have hr := o
  rcases o.2 with ⟨_, h0⟩ | ⟨g, cap, cur, rfl, hg, e1, e2, e3, e4⟩
  · omega
  · refine ⟨g, cap, cur, rfl, hg, by rw [e3]; exact Nat.mul_le_mul_right _ e1, fun i x hx => ?_⟩
    have hil := (List.getElem?_eq_some_iff.1 hx).1
    have hc : css[i]? = some (css[i]'(by omega)) := getq2 _
    have hrow := flat_row css 0 i _ h2 hr.row.2 hc
    rw [Nat.zero_add] at hrow
    exact ⟨_, h2 _ (List.getElem_mem _), hrow, h3 i x _ hx hc⟩

/-! ### the trimmer -/
def trimCells (vold : Value) (P : Nat → Nat) (vo : Value) (nm : Bytes) (d : Nat) : List Value := vold :: ((List.range 256).map (fun i => i64 (P i : Int)) ++ [vo, str nm, i64 (d : Int)])
theorem trim_len (vold : Value) (P : Nat → Nat) (vo : Value) (nm : Bytes) (d : Nat) : (trimCells vold P vo nm d).length = 260 := by simp [trimCells]
theorem trim_size (vold : Value) (P : Nat → Nat) (vo : Value) (nm : Bytes) (d : Nat) : (trimCells vold P vo nm d).toArray.size = 260 := by rw [List.size_toArray, trim_len]
theorem trim_ones {vold vo : Value} (h1 : vold.oneCell' = true) (h2 : vo.oneCell' = true) (P : Nat → Nat) (nm : Bytes) (d : Nat) : ∀ u ∈ trimCells vold P vo nm d, u.oneCell' = true := by
  intro u hu
  simp only [trimCells, List.mem_cons, List.mem_append, List.mem_map, List.not_mem_nil, or_false] at hu
  rcases hu with rfl | ⟨_, _, rfl⟩ | rfl | rfl | rfl <;> first | assumption | rfl
section
variable {h h' : Heap} {m : Nat} {vold vo : Value} {P : Nat → Nat} {nm : Bytes} {d : Nat}
theorem trim_hi (vold : Value) (P : Nat → Nat) (vo : Value) (nm : Bytes) (d : Nat) (j : Nat) (_ : j < 3) : (trimCells vold P vo nm d)[257 + j]? = [vo, str nm, i64 (d : Int)][j]? := by
  unfold trimCells
  rw [show 257 + j = (256 + j) + 1 by omega, List.getElem?_cons_succ, List.getElem?_append_right (by simp), show 256 + j - ((List.range 256).map (fun i => i64 (P i : Int))).length = j by simp]
theorem trim_set (v : Value) (j : Nat) (_ : j < 3) : (trimCells vold P vo nm d).set (257 + j) v = vold :: ((List.range 256).map (fun i => i64 (P i : Int)) ++ [vo, str nm, i64 (d : Int)].set j v) := by
  unfold trimCells
  rw [show 257 + j = (256 + j) + 1 by omega, List.set_cons_succ, List.set_append_right _ _ (by simp), show 256 + j - ((List.range 256).map (fun i => i64 (P i : Int))).length = j by simp]
end
end

/-! What visiting keeps. Plain, over the heap. No condition but what each theorem says. -/
section
open Go Go.Eng

theorem turnTy_congr {name : Bytes} {P P' : Nat → Nat} {d : Nat} {x : Ty} (h : ∀ r ∈ refsTy x, turned P r = turned P' r) : turnTy name P d x = turnTy name P' d x := by
  unfold turnTy
  have hf : x.fields.map (fun f => { f with type := turned P f.type }) = x.fields.map (fun f => { f with type := turned P' f.type }) :=
    List.map_congr_left fun f hf => by rw [h f.type (mem_refs.2 (.inr (.inr (.inl ⟨f, hf, rfl⟩))))]
  have hp : x.params.map (fun p => { p with type := turned P p.type }) = x.params.map (fun p => { p with type := turned P' p.type }) :=
    List.map_congr_left fun p hp => by rw [h p.type (mem_refs.2 (.inr (.inr (.inr (.inl ⟨p, hp, rfl⟩)))))]
  rw [h x.elem (mem_refs.2 (.inl rfl)), h x.base (mem_refs.2 (.inr (.inl rfl))), h x.res (mem_refs.2 (.inr (.inr (.inr (.inr rfl))))), hf, hp]
theorem refs_tyAt (t : List Ty) (b : Nat) (P P' : Nat → Nat) (h : ∀ r ∈ refsAt t b, turned P r = turned P' r) : ∀ r ∈ refsTy (tyAt t b), turned P r = turned P' r := by
  unfold refsAt at h
  unfold tyAt
  split at h
  · rename_i x hx; rw [hx]; exact h
  · rename_i hx; rw [hx]
    intro r hr
    simp [refsTy] at hr; subst hr; rfl
theorem outs_congr {t : List Ty} {name : Bytes} {P P' : Nat → Nat} : ∀ (O : List Nat) (d : Nat), (∀ b ∈ O, ∀ r ∈ refsAt t b, turned P r = turned P' r) → outs t name P d O = outs t name P' d O
  | [], _, _ => rfl
  | a :: O, d, h => by
    rw [outs, outs, outs_congr O _ (fun b hb => h b (List.mem_cons_of_mem _ hb)), turnTy_congr (refs_tyAt t a P P' (h a (List.mem_cons_self ..)))]
theorem turned_keep {t : List Ty} {s s' : VS} (h : VOk t s s') {r : Int} (hp : Placed s r) : turned s'.place r = turned s.place r := by
  unfold turned
  split
  · rfl
  · rcases hp with hp | hp
    · omega
    · rw [h.keep _ hp]
theorem owns_append (t : List Ty) (name : Bytes) (O O' : List Nat) : owns t name (O ++ O') = owns t name O + owns t name O' := List.countP_append
theorem owns_one (t : List Ty) (name : Bytes) (a : Nat) : owns t name [a] = if (tyAt t a).form = 9 ∧ (tyAt t a).mod = name then 1 else 0 := by
  unfold owns; rw [List.countP_cons, List.countP_nil, Nat.zero_add]
  by_cases e : (tyAt t a).form = 9 ∧ (tyAt t a).mod = name
  · rw [if_pos e, if_pos (decide_eq_true e)]
  · rw [if_neg e, if_neg (by simpa using e)]

structure VCtx (t : List Ty) (N : Nat) (h0 : Heap) (m : Nat) (vold : Value) : Prop where
  old : TypesAt N h0 vold t
  len : t.length ≤ 256
  size : ∀ x ∈ t, x.fields.length ≤ 64 ∧ x.params.length ≤ 64
  refs : RefsIn t
  m : N ≤ m
section
variable {t : List Ty} {name : Bytes} {N : Nat} {h0 : Heap} {m : Nat} {vold : Value} {B : Nat → Prop} {s1 s : VS} {L : List Ty} {hS g g' : Heap} {voS vo : Value}
end
section
variable (t : List Ty) (name : Bytes) (N : Nat) (h0 : Heap) (m : Nat) (vold : Value)
end
end

/-! The walk of what visits types. No condition but what each theorem says. -/
section
open Go Go.Eng

/-- the first i of a list turned -/
def tk {α : Type} (g : α → α) (i : Nat) (l : List α) : List α := (l.take i).map g ++ l.drop i
theorem tk_zero {α : Type} (g : α → α) (l : List α) : tk g 0 l = l := by simp [tk]
theorem tk_all {α : Type} (g : α → α) (l : List α) : tk g l.length l = l.map g := by simp [tk]
theorem tk_len {α : Type} (g : α → α) (i : Nat) (l : List α) : (tk g i l).length = l.length := by simp [tk]; omega
theorem tk_at {α : Type} (g : α → α) {i : Nat} {l : List α} {x : α} (h : l[i]? = some x) : (tk g i l)[i]? = some x := by
  have := (List.getElem?_eq_some_iff.1 h).1
  unfold tk
  rw [List.getElem?_append_right (by simp; omega)]
  simp only [List.length_map, List.length_take]
  rw [Nat.min_eq_left (by omega), Nat.sub_self, List.getElem?_drop, Nat.add_zero]; exact h
theorem tk_step {α : Type} (g : α → α) {i : Nat} {l : List α} {x : α} (h : l[i]? = some x) : (tk g i l).set i (g x) = tk g (i + 1) l := by
  have hl := (List.getElem?_eq_some_iff.1 h).1
  have e := List.drop_eq_getElem_cons hl
  rw [(List.getElem?_eq_some_iff.1 h).2] at e
  have ht : l.take (i + 1) = l.take i ++ [x] := by rw [List.take_add_one, h]; rfl
  have hn : ((l.take i).map g).length = i := by simp; omega
  unfold tk
  rw [ht, List.map_append, e, List.set_append_right _ _ (by omega), hn, Nat.sub_self, List.append_assoc]
  rfl
theorem tk_congr {α : Type} {g g' : α → α} {i : Nat} {l : List α} (h : ∀ x ∈ l.take i, g x = g' x) : tk g i l = tk g' i l := by
  unfold tk; rw [List.map_congr_left h]
theorem _root_.Go.Eng.OwnS.form {α : Type} {h : Heap} {E sz : Nat} {R : α → List Value → Prop} {v : Value} {xs : List α} (a : OwnS h E sz R v xs) : ∃ b c, v = .slice b xs.length c := by
  obtain ⟨css, o, _⟩ := a
  exact o.form
theorem _root_.Go.Eng.OwnS.sliceB {α : Type} {h : Heap} {E sz : Nat} {R : α → List Value → Prop} {v : Value} {xs : List α} {B : Nat → Prop} (a : OwnS h E sz R v xs) (hl : xs.length ≤ maxLen) (hB : ∀ b, ownB v b → B b) : SliceB B h sz R v xs := by
  obtain ⟨css, o, h1, h2, h3⟩ := a
  exact (own_slice rfl hl o h1 h2 h3).mono (fun b _ e => hB b e)
theorem SliceB.nil {α : Type} (B : Nat → Prop) (h : Heap) (sz : Nat) (R : α → List Value → Prop) : SliceB B h sz R (.slice none 0 0) [] := ⟨Nat.zero_le _, none, 0, rfl, fun i x hx => by simp at hx⟩
def tfld (P : Nat → Nat) (f : Fld) : Fld := { f with type := turned P f.type }
def tpar (P : Nat → Nat) (p : Par) : Par := { p with type := turned P p.type }
end

/-! The walk of what visits types. No condition but what each theorem says. -/
section
open Go Go.Eng

theorem vorder_le {t : List Ty} {s : VS} (h : VInv t s) : s.order.length ≤ t.length := by
  have hs : s.order ⊆ List.range t.length := fun a ha => List.mem_range.2 (h.range a ha).2
  have := h.nodup.length_le_of_subset hs
  simpa using this
theorem turned_in {t : List Ty} {s : VS} (h : VInv t s) (hl : t.length ≤ 256) {r : Int} (hr : 0 ≤ r) : in64 (turned s.place r) := by
  have ho := vorder_le h
  unfold turned in64
  split
  · omega
  · by_cases hp : r.toNat ∈ s.order
    · obtain ⟨j, hj⟩ := List.mem_iff_getElem?.1 hp
      have h2 := h.at_ j _ hj
      have h3 := (List.getElem?_eq_some_iff.1 hj).1
      omega
    · have := h.none _ hp; omega
theorem owns_le (t : List Ty) (name : Bytes) (O : List Nat) : owns t name O ≤ O.length := List.countP_le_length
theorem ref_e {x : Ty} : x.elem ∈ refsTy x := mem_refs.2 (.inl rfl)
theorem ref_b {x : Ty} : x.base ∈ refsTy x := mem_refs.2 (.inr (.inl rfl))
theorem ref_f {x : Ty} {f : Fld} (h : f ∈ x.fields) : f.type ∈ refsTy x := mem_refs.2 (.inr (.inr (.inl ⟨f, h, rfl⟩)))
theorem ref_p {x : Ty} {p : Par} (h : p ∈ x.params) : p.type ∈ refsTy x := mem_refs.2 (.inr (.inr (.inr (.inl ⟨p, h, rfl⟩))))
theorem ref_r {x : Ty} : x.res ∈ refsTy x := mem_refs.2 (.inr (.inr (.inr (.inr rfl))))
theorem in0 : in64 0 := by unfold in64; omega
def sfs (t : List Ty) (k : Nat) (l : List Int) (i : Nat) (s : VS) : VS := vfold (visitF t k) (l.take i) s
theorem sfs_succ {t : List Ty} {k : Nat} {l : List Int} {i : Nat} {r : Int} (h : l[i]? = some r) (s : VS) : sfs t k l (i + 1) s = visitF t k r (sfs t k l i s) := by
  unfold sfs
  rw [show l.take (i + 1) = l.take i ++ [r] by rw [List.take_add_one, h]; rfl, vfold_snoc]
theorem sfs_ok {t : List Ty} (hr : RefsIn t) {k : Nat} {l : List Int} (i : Nat) {s : VS} (hI : VInv t s) (hu : unp t s < k) (hl : ∀ r ∈ l, 0 ≤ r ∧ r < t.length) : VOk t s (sfs t k l i s) ∧ ∀ r ∈ l.take i, Placed (sfs t k l i s) r :=
  vfold_ok (visitF_ok hr k) (l.take i) s hI hu (fun r hr => hl r (List.mem_of_mem_take hr))
theorem refs_fold (v : Int → VS → VS) (x : Ty) (s : VS) : vfold v (refsTy x) s = v x.res (vfold v (x.params.map (·.type)) (vfold v (x.fields.map (·.type)) (v x.base (v x.elem s)))) := by
  unfold refsTy; rw [vfold, vfold, vfold_append, vfold_append]; rfl
theorem tfld_eq {P P' : Nat → Nat} {f : Fld} (h : turned P f.type = turned P' f.type) : tfld P f = tfld P' f := by unfold tfld; rw [h]
theorem tpar_eq {P P' : Nat → Nat} {f : Par} (h : turned P f.type = turned P' f.type) : tpar P f = tpar P' f := by unfold tpar; rw [h]
end
end Go.Proofs.YtgnkfegkdjfnjaaGreat
