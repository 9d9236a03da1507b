/- Cells set in a slice of its own; the trimmer's block. Plain, over the heap. What visiting keeps. Plain, over the heap. The walk of what visits types. The walk of what visits types. No condition but what each theorem says. -/
import Derived.Test.YtgnkfegkdjfnjaaIgi
namespace Go.Proofs.Ytgnkfegkdjfnjaa
/-! Cells set in a slice of its own; the trimmer's block. Plain, over the heap. No condition but what each theorem says. -/
section
open Go Go.Eng

theorem _root_.Go.Eng.Owns.set1 {h h' : Heap} {E sz g n cap : Nat} {xs : List Value} {cur : Array Value} (o : Owns h E sz (.slice (some ⟨g, 0, none⟩) n cap) n xs) (hg : h[g]? = some (.cells cur E (0, 0))) {i : Nat} {val : Value} (_hi : i < n * sz)
    (u : h'[g]? = some (.cells (cur.setIfInBounds i val) E (0, 0))) : Owns h' E sz (.slice (some ⟨g, 0, none⟩) n cap) n (xs.set i val) := by
  refine ⟨by simpa using o.1, .inr ?_⟩
  rcases o.2 with ⟨he, _⟩ | ⟨g', cap', cur', he, hg', h1, h2, h3, h4⟩
  · cases he
  · cases he
    rw [hg] at hg'; cases hg'
    exact ⟨g, cap, _, rfl, u, h1, h2, by simpa using h3, by rw [Array.toList_setIfInBounds, List.take_set, h4]⟩
theorem _root_.Go.Eng.Owns.setN {h h' : Heap} {E sz g n cap : Nat} {xs vs : List Value} {cur : Array Value} (o : Owns h E sz (.slice (some ⟨g, 0, none⟩) n cap) n xs) (hg : h[g]? = some (.cells cur E (0, 0))) {i : Nat} (hi : i + vs.length ≤ n * sz)
    (u : h'[g]? = some (.cells (cur.toList.take i ++ vs ++ cur.toList.drop (i + vs.length)).toArray E (0, 0))) : Owns h' E sz (.slice (some ⟨g, 0, none⟩) n cap) n (xs.take i ++ vs ++ xs.drop (i + vs.length)) := by
  have hx := o.1
  refine ⟨by simp; omega, .inr ?_⟩
  rcases o.2 with ⟨he, _⟩ | ⟨g', cap', cur', he, hg', h1, h2, h3, h4⟩
  · cases he
  · cases he
    rw [hg] at hg'; cases hg'
    have hm : n * sz ≤ cap * sz := Nat.mul_le_mul_right _ h1
    have hcl : cur.toList.length = cap * sz := by simpa using h3
    refine ⟨g, cap, _, rfl, u, h1, h2, by simp; omega, ?_⟩
    have e1 : xs.take i = cur.toList.take i := by rw [← h4, List.take_take, Nat.min_eq_left (by omega)]
    have e2 : xs.drop (i + vs.length) = (cur.toList.drop (i + vs.length)).take (n * sz - (i + vs.length)) := by rw [← h4, List.drop_take]
    rw [e1, e2]
    simp only
    rw [List.take_append, List.take_of_length_le (by simp; omega)]
    congr 1
    simp only [List.length_append, List.length_take]
    rw [Nat.min_eq_left (by omega)]
theorem flat_set1 {sz : Nat} : ∀ (css : List (List Value)) (i c : Nat) (cs : List Value) (val : Value), (∀ d ∈ css, d.length = sz) → css[i]? = some cs → c < sz → css.flatten.set (i * sz + c) val = (css.set i (cs.set c val)).flatten
  | [], _, _, _, _, _, h, _ => by simp at h
  | d :: css, 0, c, cs, val, hl, h, hc => by
    have hd := hl d (List.mem_cons_self ..)
    simp at h; subst h
    simp only [List.flatten_cons, Nat.zero_mul, Nat.zero_add, List.set_cons_zero]
    rw [List.set_append_left _ _ (by omega)]
  | d :: css, i + 1, c, cs, val, hl, h, hc => by
    have hd := hl d (List.mem_cons_self ..)
    simp only [List.getElem?_cons_succ] at h
    have ih := flat_set1 css i c cs val (fun e he => hl e (List.mem_cons_of_mem _ he)) h hc
    simp only [List.flatten_cons, List.set_cons_succ]
    rw [List.set_append_right _ _ (by rw [hd, Nat.add_mul]; omega), ← ih]
    congr 2
    rw [hd, Nat.add_mul]; omega
theorem flat_setN {sz : Nat} : ∀ (css : List (List Value)) (i : Nat) (vs : List Value), (∀ d ∈ css, d.length = sz) → i < css.length → vs.length = sz → css.flatten.take (i * sz) ++ vs ++ css.flatten.drop (i * sz + vs.length) = (css.set i vs).flatten
  | [], _, _, _, h, _ => by simp at h
  | d :: css, 0, vs, hl, h, hv => by
    have hd := hl d (List.mem_cons_self ..)
    simp only [List.flatten_cons, Nat.zero_mul, Nat.zero_add, List.set_cons_zero, List.take_zero, List.nil_append]
    rw [hv, ← hd, List.drop_left]
  | d :: css, i + 1, vs, hl, h, hv => by
    have hd := hl d (List.mem_cons_self ..)
    have ih := flat_setN css i vs (fun e he => hl e (List.mem_cons_of_mem _ he)) (by simpa using h) hv
    simp only [List.flatten_cons, List.set_cons_succ]
    rw [← ih, List.take_append, List.drop_append, List.take_of_length_le (by rw [hd, Nat.add_mul]; omega), List.drop_of_length_le (by rw [hd, Nat.add_mul]; omega)]
    simp only [List.append_assoc, List.nil_append]
    congr 3
    · rw [hd, Nat.add_mul]; omega
    · congr 1; rw [hd, Nat.add_mul]; omega
theorem getq2 {α : Type} {l : List α} {i : Nat} (h : i < l.length) : l[i]? = some (l[i]'h) := List.getElem?_eq_getElem h
theorem _root_.Go.Eng.OwnS.set1 {α : Type} {h h' : Heap} {E sz g n cap : Nat} {R R' : α → List Value → Prop} {xs : List α} {cur : Array Value} (a : OwnS h E sz R (.slice (some ⟨g, 0, none⟩) n cap) xs) (hn : n = xs.length) (hg : h[g]? = some (.cells cur E (0, 0))) {i c : Nat} {val : Value} (hi : i < xs.length) (hc : c < sz)
    (u : h'[g]? = some (.cells (cur.setIfInBounds (i * sz + c) val) E (0, 0))) (x' : α) (hR : ∀ x cs, xs[i]? = some x → R x cs → R' x' (cs.set c val)) (hR' : ∀ x cs, R x cs → R' x cs) : OwnS h' E sz R' (.slice (some ⟨g, 0, none⟩) n cap) (xs.set i x') := by
  subst hn
  obtain ⟨css, o, h1, h2, h3⟩ := a
  have hcs : css[i]? = some (css[i]'(by omega)) := getq2 _
  have hx : xs[i]? = some (xs[i]'hi) := getq2 hi
  have o' := o.set1 hg (i := i * sz + c) (val := val) (by have : (i + 1) * sz ≤ xs.length * sz := Nat.mul_le_mul_right _ hi; rw [Nat.add_mul] at this; omega) u
  rw [flat_set1 css i c _ val h2 hcs hc] at o'
  refine ⟨css.set i ((css[i]'(by omega)).set c val), by simpa using o', by simp [h1], fun d hd => ?_, fun j y ds hy hd => ?_⟩
  · rcases List.mem_or_eq_of_mem_set hd with e | e
    · exact h2 d e
    · rw [e, List.length_set]; exact h2 _ (List.getElem_mem _)
  · by_cases e : i = j
    · subst e
      rw [List.getElem?_set_self hi] at hy
      rw [List.getElem?_set_self (by omega)] at hd
      cases hy; cases hd
      exact hR _ _ hx (h3 i _ _ hx hcs)
    · rw [List.getElem?_set_ne e] at hy hd
      exact hR' _ _ (h3 j y ds hy hd)
theorem _root_.Go.Eng.OwnS.setN {α : Type} {h h' : Heap} {E sz g n cap : Nat} {R R' : α → List Value → Prop} {xs : List α} {cur : Array Value} (a : OwnS h E sz R (.slice (some ⟨g, 0, none⟩) n cap) xs) (hn : n = xs.length) (hg : h[g]? = some (.cells cur E (0, 0))) {i : Nat} {vs : List Value} (hi : i < xs.length) (hv : vs.length = sz)
    (u : h'[g]? = some (.cells (cur.toList.take (i * sz) ++ vs ++ cur.toList.drop (i * sz + vs.length)).toArray E (0, 0))) (x' : α) (hR : R' x' vs) (hR' : ∀ x cs, R x cs → R' x cs) : OwnS h' E sz R' (.slice (some ⟨g, 0, none⟩) n cap) (xs.set i x') := by
  subst hn
  obtain ⟨css, o, h1, h2, h3⟩ := a
  have o' := o.setN hg (i := i * sz) (vs := vs) (by have : (i + 1) * sz ≤ xs.length * sz := Nat.mul_le_mul_right _ hi; rw [Nat.add_mul] at this; omega) u
  rw [flat_setN css i vs h2 (by omega) hv] at o'
  refine ⟨css.set i vs, by simpa using o', by simp [h1], fun d hd => ?_, fun j y ds hy hd => ?_⟩
  · rcases List.mem_or_eq_of_mem_set hd with e | e
    · exact h2 d e
    · rw [e]; exact hv
  · by_cases e : i = j
    · subst e
      rw [List.getElem?_set_self hi] at hy
      rw [List.getElem?_set_self (by omega)] at hd
      cases hy; cases hd
      exact hR
    · rw [List.getElem?_set_ne e] at hy hd
      exact hR' _ _ (h3 j y ds hy hd)
/-- the block of a slice that is not empty -/
theorem _root_.Go.Eng.OwnS.blk {α : Type} {h : Heap} {E sz : Nat} {R : α → List Value → Prop} {v : Value} {xs : List α} (a : OwnS h E sz R v xs) (hn : 0 < xs.length) : ∃ g cap cur, v = .slice (some ⟨g, 0, none⟩) xs.length cap ∧ h[g]? = some (.cells cur E (0, 0)) ∧ xs.length * sz ≤ cur.size ∧
    ∀ (i : Nat) x, xs[i]? = some x → ∃ cs, cs.length = sz ∧ Go.Eng.rowAt h g (i * sz) cs ∧ R x cs := by
  obtain ⟨css, o, h1, h2, h3⟩ := a
  have hr := o
  rcases o.2 with ⟨_, h0⟩ | ⟨g, cap, cur, rfl, hg, e1, e2, e3, e4⟩
  · omega
  · refine ⟨g, cap, cur, rfl, hg, by rw [e3]; exact Nat.mul_le_mul_right _ e1, fun i x hx => ?_⟩
    have hil := (List.getElem?_eq_some_iff.1 hx).1
    have hc : css[i]? = some (css[i]'(by omega)) := getq2 _
    have hrow := flat_row css 0 i _ h2 hr.row.2 hc
    rw [Nat.zero_add] at hrow
    exact ⟨_, h2 _ (List.getElem_mem _), hrow, h3 i x _ hx hc⟩

/-! ### the trimmer -/
def trimCells (vold : Value) (P : Nat → Nat) (vo : Value) (nm : Bytes) (d : Nat) : List Value := vold :: ((List.range 256).map (fun i => i64 (P i : Int)) ++ [vo, str nm, i64 (d : Int)])
structure XAt (h : Heap) (m : Nat) (vold : Value) (P : Nat → Nat) (vo : Value) (nm : Bytes) (d : Nat) : Prop where
  at_ : h[m]? = some (.cells (trimCells vold P vo nm d).toArray 74 (0, 0))
theorem trim_len (vold : Value) (P : Nat → Nat) (vo : Value) (nm : Bytes) (d : Nat) : (trimCells vold P vo nm d).length = 260 := by simp [trimCells]
theorem trim_size (vold : Value) (P : Nat → Nat) (vo : Value) (nm : Bytes) (d : Nat) : (trimCells vold P vo nm d).toArray.size = 260 := by rw [List.size_toArray, trim_len]
theorem trim_ones {vold vo : Value} (h1 : vold.oneCell' = true) (h2 : vo.oneCell' = true) (P : Nat → Nat) (nm : Bytes) (d : Nat) : ∀ u ∈ trimCells vold P vo nm d, u.oneCell' = true := by
  intro u hu
  simp only [trimCells, List.mem_cons, List.mem_append, List.mem_map, List.not_mem_nil, or_false] at hu
  rcases hu with rfl | ⟨_, _, rfl⟩ | rfl | rfl | rfl <;> first | assumption | rfl
section
variable {h h' : Heap} {m : Nat} {vold vo : Value} {P : Nat → Nat} {nm : Bytes} {d : Nat}
theorem XAt.mod {S : Nat → Prop} (a : XAt h m vold P vo nm d) (x : Go.Eng.Mod S h h') (hm : ¬ S m) : XAt h' m vold P vo nm d := ⟨x.get a.at_ hm⟩
theorem XAt.lt (a : XAt h m vold P vo nm d) : m < h.size := lt_of_get a.at_
theorem XAt.old (a : XAt h m vold P vo nm d) : cellAt h m (0 + 0) = some vold := cell a.at_ rfl
theorem trim_hi (vold : Value) (P : Nat → Nat) (vo : Value) (nm : Bytes) (d : Nat) (j : Nat) (_ : j < 3) : (trimCells vold P vo nm d)[257 + j]? = [vo, str nm, i64 (d : Int)][j]? := by
  unfold trimCells
  rw [show 257 + j = (256 + j) + 1 by omega, List.getElem?_cons_succ, List.getElem?_append_right (by simp), show 256 + j - ((List.range 256).map (fun i => i64 (P i : Int))).length = j by simp]
theorem XAt.out (a : XAt h m vold P vo nm d) : cellAt h m (0 + 257) = some vo := cell a.at_ (by rw [List.getElem?_toArray]; exact trim_hi vold P vo nm d 0 (by decide))
theorem XAt.name (a : XAt h m vold P vo nm d) : cellAt h m (0 + 258) = some (str nm) := cell a.at_ (by rw [List.getElem?_toArray]; exact trim_hi vold P vo nm d 1 (by decide))
theorem XAt.descs (a : XAt h m vold P vo nm d) : cellAt h m (0 + 259) = some (i64 (d : Int)) := cell a.at_ (by rw [List.getElem?_toArray]; exact trim_hi vold P vo nm d 2 (by decide))
theorem XAt.place (a : XAt h m vold P vo nm d) {i : Int} (hi : 0 ≤ i ∧ i < 256) : cellAt h m (0 + 1 + i.toNat * 1) = some (i64 (P i.toNat : Int)) := by
  refine cell a.at_ ?_
  rw [List.getElem?_toArray]
  unfold trimCells
  rw [show 0 + 1 + i.toNat * 1 = i.toNat + 1 by omega, List.getElem?_cons_succ, List.getElem?_append_left (by simp; omega), List.getElem?_map, List.getElem?_range (by omega)]
  rfl
theorem XAt.setPlace (_a : XAt h m vold P vo nm d) {i : Int} (hi : 0 ≤ i ∧ i < 256) {n : Nat} (u : Upd h m (.cells ((trimCells vold P vo nm d).toArray.setIfInBounds (0 + 1 + i.toNat * 1) (i64 (n : Int))) 74 (0, 0)) h') : XAt h' m vold (putP P i.toNat n) vo nm d := by
  refine ⟨u.at_.trans (congrArg (fun c => some (Obj.cells c 74 (0, 0))) (Array.ext' ?_))⟩
  rw [Array.toList_setIfInBounds]
  show (trimCells vold P vo nm d).set _ _ = trimCells vold (putP P i.toNat n) vo nm d
  unfold trimCells
  rw [show 0 + 1 + i.toNat * 1 = i.toNat + 1 by omega, List.set_cons_succ, List.set_append_left _ _ (by simp; omega)]
  congr 2
  apply List.ext_getElem?
  intro j
  by_cases hj : j < 256
  · rw [List.getElem?_map, List.getElem?_range hj]
    by_cases e : i.toNat = j
    · subst e
      rw [List.getElem?_set_self (by simp; omega)]
      simp [putP]
    · rw [List.getElem?_set_ne e, List.getElem?_map, List.getElem?_range hj]
      simp [putP_ne _ _ (Ne.symm e)]
  · rw [List.getElem?_eq_none (by simp; omega), List.getElem?_eq_none (by simp; omega)]
theorem trim_set (v : Value) (j : Nat) (_ : j < 3) : (trimCells vold P vo nm d).set (257 + j) v = vold :: ((List.range 256).map (fun i => i64 (P i : Int)) ++ [vo, str nm, i64 (d : Int)].set j v) := by
  unfold trimCells
  rw [show 257 + j = (256 + j) + 1 by omega, List.set_cons_succ, List.set_append_right _ _ (by simp), show 256 + j - ((List.range 256).map (fun i => i64 (P i : Int))).length = j by simp]
theorem XAt.setOut (_a : XAt h m vold P vo nm d) {v : Value} (u : Upd h m (.cells ((trimCells vold P vo nm d).toArray.setIfInBounds (0 + 257) v) 74 (0, 0)) h') : XAt h' m vold P v nm d := by
  refine ⟨u.at_.trans (congrArg (fun c => some (Obj.cells c 74 (0, 0))) (Array.ext' ?_))⟩
  rw [Array.toList_setIfInBounds]
  exact trim_set v 0 (by decide)
theorem XAt.setDescs (_a : XAt h m vold P vo nm d) {n : Nat} {z : Int} (hz : z = (n : Int)) (u : Upd h m (.cells ((trimCells vold P vo nm d).toArray.setIfInBounds (0 + 259) (i64 z)) 74 (0, 0)) h') : XAt h' m vold P vo nm n := by
  subst hz
  refine ⟨u.at_.trans (congrArg (fun c => some (Obj.cells c 74 (0, 0))) (Array.ext' ?_))⟩
  rw [Array.toList_setIfInBounds]
  exact trim_set _ 2 (by decide)
end
end

/-! What visiting keeps. Plain, over the heap. No condition but what each theorem says. -/
section
open Go Go.Eng

theorem turnTy_congr {name : Bytes} {P P' : Nat → Nat} {d : Nat} {x : Ty} (h : ∀ r ∈ refsTy x, turned P r = turned P' r) : turnTy name P d x = turnTy name P' d x := by
  unfold turnTy
  have hf : x.fields.map (fun f => { f with type := turned P f.type }) = x.fields.map (fun f => { f with type := turned P' f.type }) :=
    List.map_congr_left fun f hf => by rw [h f.type (mem_refs.2 (.inr (.inr (.inl ⟨f, hf, rfl⟩))))]
  have hp : x.params.map (fun p => { p with type := turned P p.type }) = x.params.map (fun p => { p with type := turned P' p.type }) :=
    List.map_congr_left fun p hp => by rw [h p.type (mem_refs.2 (.inr (.inr (.inr (.inl ⟨p, hp, rfl⟩)))))]
  rw [h x.elem (mem_refs.2 (.inl rfl)), h x.base (mem_refs.2 (.inr (.inl rfl))), h x.res (mem_refs.2 (.inr (.inr (.inr (.inr rfl))))), hf, hp]
theorem refs_tyAt (t : List Ty) (b : Nat) (P P' : Nat → Nat) (h : ∀ r ∈ refsAt t b, turned P r = turned P' r) : ∀ r ∈ refsTy (tyAt t b), turned P r = turned P' r := by
  unfold refsAt at h
  unfold tyAt
  split at h
  · rename_i x hx; rw [hx]; exact h
  · rename_i hx; rw [hx]
    intro r hr
    simp [refsTy] at hr; subst hr; rfl
theorem outs_congr {t : List Ty} {name : Bytes} {P P' : Nat → Nat} : ∀ (O : List Nat) (d : Nat), (∀ b ∈ O, ∀ r ∈ refsAt t b, turned P r = turned P' r) → outs t name P d O = outs t name P' d O
  | [], _, _ => rfl
  | a :: O, d, h => by
    rw [outs, outs, outs_congr O _ (fun b hb => h b (List.mem_cons_of_mem _ hb)), turnTy_congr (refs_tyAt t a P P' (h a (List.mem_cons_self ..)))]
theorem turned_keep {t : List Ty} {s s' : VS} (h : VOk t s s') {r : Int} (hp : Placed s r) : turned s'.place r = turned s.place r := by
  unfold turned
  split
  · rfl
  · rcases hp with hp | hp
    · omega
    · rw [h.keep _ hp]
theorem owns_append (t : List Ty) (name : Bytes) (O O' : List Nat) : owns t name (O ++ O') = owns t name O + owns t name O' := List.countP_append
theorem owns_one (t : List Ty) (name : Bytes) (a : Nat) : owns t name [a] = if (tyAt t a).form = 9 ∧ (tyAt t a).mod = name then 1 else 0 := by
  unfold owns; rw [List.countP_cons, List.countP_nil, Nat.zero_add]
  by_cases e : (tyAt t a).form = 9 ∧ (tyAt t a).mod = name
  · rw [if_pos e, if_pos (decide_eq_true e)]
  · rw [if_neg e, if_neg (by simpa using e)]

structure VCtx (t : List Ty) (N : Nat) (h0 : Heap) (m : Nat) (vold : Value) : Prop where
  old : TypesAt N h0 vold t
  len : t.length ≤ 256
  size : ∀ x ∈ t, x.fields.length ≤ 64 ∧ x.params.length ≤ 64
  refs : RefsIn t
  m : N ≤ m
/-- what holds on the way from s1 (new table L, at hS, in voS) to s -/
structure BI (t : List Ty) (name : Bytes) (N : Nat) (h0 : Heap) (m : Nat) (vold : Value) (B : Nat → Prop) (s1 : VS) (L : List Ty) (hS : Heap) (voS : Value) (s : VS) (g : Heap) (vo : Value) : Prop where
  k : At N h0 g
  x : XAt g m vold s.place vo name (owns t name s.order)
  ok : VOk t s1 s
  own : ∃ new, s.order = s1.order ++ new ∧ (∀ b ∈ new, ∀ r ∈ refsAt t b, Placed s r) ∧ TysOwn B g vo (L ++ outs t name s.place (owns t name s1.order) new)
  mod : Go.Eng.Mod (fun b => b = m ∨ ownB voS b) hS g
  low : ∀ b, ownB vo b → ownB voS b ∨ hS.size ≤ b
section
variable {t : List Ty} {name : Bytes} {N : Nat} {h0 : Heap} {m : Nat} {vold : Value} {B : Nat → Prop} {s1 s : VS} {L : List Ty} {hS g g' : Heap} {voS vo : Value}
theorem BI.inB (a : BI t name N h0 m vold B s1 L hS voS s g vo) : ∀ b, ownB vo b → B b := by
  obtain ⟨_, _, _, o⟩ := a.own; exact o.low
theorem BI.olt (a : BI t name N h0 m vold B s1 L hS voS s g vo) : ∀ b, ownB vo b → b < g.size := by
  obtain ⟨_, _, _, o⟩ := a.own; exact o.lt
theorem BI.move {S : Nat → Prop} (a : BI t name N h0 m vold B s1 L hS voS s g vo) (x : Go.Eng.Mod S g g') (hN : N ≤ hS.size) (hm : m < hS.size) (hS' : ∀ b, S b → hS.size ≤ b ∧ ¬ B b) : BI t name N h0 m vold B s1 L hS voS s g' vo := by
  obtain ⟨new, e1, e2, o⟩ := a.own
  refine ⟨a.k.mod x (fun b hb => by have := (hS' b hb).1; omega), a.x.mod x (fun hb => by have := (hS' m hb).1; omega), a.ok, ⟨new, e1, e2, o.mod x (fun b hB _ hb => (hS' b hb).2 hB)⟩, a.mod.andMod x (fun b hb => .inr (hS' b hb).1), a.low⟩
theorem BI.narrow {B' : Nat → Prop} (a : BI t name N h0 m vold B s1 L hS voS s g vo) (h : ∀ b, b < g.size → B b → B' b) : BI t name N h0 m vold B' s1 L hS voS s g vo := by
  obtain ⟨new, e1, e2, o⟩ := a.own
  exact ⟨a.k, a.x, a.ok, ⟨new, e1, e2, o.mono h⟩, a.mod, a.low⟩
end
section
variable (t : List Ty) (name : Bytes) (N : Nat) (h0 : Heap) (m : Nat) (vold : Value)
def VisC (k : Nat) : Prop := ∀ {B : Nat → Prop} {a : Int} {s : VS} {L : List Ty} {g : Heap} {vo : Value}, At N h0 g → XAt g m vold s.place vo name (owns t name s.order) → TysOwn B g vo L → L.length = 7 + s.order.length → VInv t s → unp t s < k → 0 ≤ a ∧ a < t.length →
  (∀ b, B b → N ≤ b ∧ b ≠ m) → (∀ b, g.size ≤ b → B b) →
  Does Try.prog 42 [ptr m 0, i64 a] g (fun v g' => ∃ vo', v = i64 (turned (visitF t k a s).place a) ∧ BI t name N h0 m vold B s L g vo (visitF t k a s) g' vo')
end
theorem BI.step {t : List Ty} {name : Bytes} {N : Nat} {h0 : Heap} {m : Nat} {vold : Value} (c : VCtx t N h0 m vold) {k : Nat} (ih : VisC t name N h0 m vold k) {B : Nat → Prop} {s1 s : VS} {L : List Ty} {hS g : Heap} {voS vo : Value}
    (a : BI t name N h0 m vold B s1 L hS voS s g vo) {r : Int} (hr : 0 ≤ r ∧ r < t.length) (hL : L.length = 7 + s1.order.length) (hu : unp t s1 < k) (hB : ∀ b, B b → N ≤ b ∧ b ≠ m) (hBn : ∀ b, g.size ≤ b → B b) :
    Does Try.prog 42 [ptr m 0, i64 r] g (fun v g' => ∃ vo', v = i64 (turned (visitF t k r s).place r) ∧ BI t name N h0 m vold B s1 L hS voS (visitF t k r s) g' vo' ∧ Placed (visitF t k r s) r ∧
      VOk t s (visitF t k r s) ∧ Go.Eng.Mod (fun b => b = m ∨ ownB vo b) g g' ∧ ∀ b, ownB vo' b → ownB vo b ∨ g.size ≤ b) := by
  obtain ⟨new, e1, e2, o⟩ := a.own
  have hu' : unp t s < k := Nat.lt_of_le_of_lt a.ok.unp hu
  obtain ⟨q1, q2⟩ := visitF_ok c.refs k r s a.ok.inv hu' hr
  refine Does.mono (ih a.k a.x o (by rw [List.length_append, outs_len, hL, e1, List.length_append]; omega) a.ok.inv hu' hr hB hBn) (fun v g' w => ?_)
  obtain ⟨vo', hv, b⟩ := w
  obtain ⟨new', f1, f2, o'⟩ := b.own
  refine ⟨vo', hv, ⟨b.k, b.x, a.ok.trans q1, ⟨new ++ new', by rw [f1, e1, List.append_assoc], fun d hd r' hr' => ?_, ?_⟩, a.mod.andMod b.mod (fun d hd => ?_), fun d hd => ?_⟩, q2, q1, b.mod, b.low⟩
  · rcases List.mem_append.1 hd with hd | hd
    · exact (e2 d hd r' hr').mono q1
    · exact f2 d hd r' hr'
  · rw [outs_append, ← List.append_assoc, outs_congr new _ (P := (visitF t k r s).place) (P' := s.place) (fun d hd r' hr' => turned_keep q1 (e2 d hd r' hr')), show owns t name s1.order + owns t name new = owns t name s.order by rw [e1, owns_append]]
    exact o'
  · rcases hd with rfl | hd
    · exact .inl (.inl rfl)
    · exact (a.low d hd).imp .inr id
  · rcases b.low d hd with e | e
    · exact a.low d e
    · exact .inr (Nat.le_trans a.mod.size e)
end

/-! The walk of what visits types. No condition but what each theorem says. -/
section
open Go Go.Eng

/-- the first i of a list turned -/
def tk {α : Type} (g : α → α) (i : Nat) (l : List α) : List α := (l.take i).map g ++ l.drop i
theorem tk_zero {α : Type} (g : α → α) (l : List α) : tk g 0 l = l := by simp [tk]
theorem tk_all {α : Type} (g : α → α) (l : List α) : tk g l.length l = l.map g := by simp [tk]
theorem tk_len {α : Type} (g : α → α) (i : Nat) (l : List α) : (tk g i l).length = l.length := by simp [tk]; omega
theorem tk_at {α : Type} (g : α → α) {i : Nat} {l : List α} {x : α} (h : l[i]? = some x) : (tk g i l)[i]? = some x := by
  have := (List.getElem?_eq_some_iff.1 h).1
  unfold tk
  rw [List.getElem?_append_right (by simp; omega)]
  simp only [List.length_map, List.length_take]
  rw [Nat.min_eq_left (by omega), Nat.sub_self, List.getElem?_drop, Nat.add_zero]; exact h
theorem tk_step {α : Type} (g : α → α) {i : Nat} {l : List α} {x : α} (h : l[i]? = some x) : (tk g i l).set i (g x) = tk g (i + 1) l := by
  have hl := (List.getElem?_eq_some_iff.1 h).1
  have e := List.drop_eq_getElem_cons hl
  rw [(List.getElem?_eq_some_iff.1 h).2] at e
  have ht : l.take (i + 1) = l.take i ++ [x] := by rw [List.take_add_one, h]; rfl
  have hn : ((l.take i).map g).length = i := by simp; omega
  unfold tk
  rw [ht, List.map_append, e, List.set_append_right _ _ (by omega), hn, Nat.sub_self, List.append_assoc]
  rfl
theorem tk_congr {α : Type} {g g' : α → α} {i : Nat} {l : List α} (h : ∀ x ∈ l.take i, g x = g' x) : tk g i l = tk g' i l := by
  unfold tk; rw [List.map_congr_left h]
theorem _root_.Go.Eng.OwnS.form {α : Type} {h : Heap} {E sz : Nat} {R : α → List Value → Prop} {v : Value} {xs : List α} (a : OwnS h E sz R v xs) : ∃ b c, v = .slice b xs.length c := by
  obtain ⟨css, o, _⟩ := a
  exact o.form
theorem _root_.Go.Eng.OwnS.sliceB {α : Type} {h : Heap} {E sz : Nat} {R : α → List Value → Prop} {v : Value} {xs : List α} {B : Nat → Prop} (a : OwnS h E sz R v xs) (hl : xs.length ≤ maxLen) (hB : ∀ b, ownB v b → B b) : SliceB B h sz R v xs := by
  obtain ⟨css, o, h1, h2, h3⟩ := a
  exact (own_slice rfl hl o h1 h2 h3).mono (fun b _ e => hB b e)
theorem SliceB.nil {α : Type} (B : Nat → Prop) (h : Heap) (sz : Nat) (R : α → List Value → Prop) : SliceB B h sz R (.slice none 0 0) [] := ⟨Nat.zero_le _, none, 0, rfl, fun i x hx => by simp at hx⟩
def tfld (P : Nat → Nat) (f : Fld) : Fld := { f with type := turned P f.type }
def tpar (P : Nat → Nat) (p : Par) : Par := { p with type := turned P p.type }
theorem BI.refl {t : List Ty} {name : Bytes} {N : Nat} {h0 : Heap} {m : Nat} {vold : Value} {B : Nat → Prop} {s : VS} {L : List Ty} {h : Heap} {vo : Value} (hk : At N h0 h) (hX : XAt h m vold s.place vo name (owns t name s.order)) (hO : TysOwn B h vo L) (hI : VInv t s) : BI t name N h0 m vold B s L h vo s h vo :=
  ⟨hk, hX, .refl hI, ⟨[], by simp, by simp, by simpa [outs] using hO⟩, Go.Eng.Mod.refl _ _, fun _ e => .inl e⟩
/-- the type is turned, its placeholder filled -/
theorem BI.finish {t : List Ty} {name : Bytes} {N : Nat} {h0 : Heap} {m : Nat} {vold : Value} {B B2 : Nat → Prop} {s s' : VS} {L : List Ty} {hS g g' : Heap} {voS : Value} {b n cap : Nat} {a : Nat} {x : Ty} {cur : Array Value} {vf vp : Value}
    (i : BI t name N h0 m vold B2 (enterV s a) (L ++ [basicTy 0]) hS voS s' g (.slice (some ⟨b, 0, none⟩) n cap)) (hB2 : ∀ d, B2 d → B d) (hBm : ∀ d, B d → N ≤ d ∧ d ≠ m) (hx : t[a]? = some x) (ha : 7 ≤ a) (h0' : s.place a = 0)
    (hall : ∀ r ∈ refsAt t a, Placed s' r)
    (hb : g[b]? = some (.cells cur 49 (0, 0))) (hfit : (turnTy name s'.place (owns t name s.order) x).fits)
    (hF : SliceB (fun d => ¬ d = b ∧ B d) g 3 (fldR g) vf (turnTy name s'.place (owns t name s.order) x).fields) (hP : SliceB (fun d => ¬ d = b ∧ B d) g 2 (parR g) vp (turnTy name s'.place (owns t name s.order) x).params)
    (u : Upd g b (.cells (cur.toList.take (0 + L.length * 10) ++ tyCells (turnTy name s'.place (owns t name s.order) x) vf vp ++ cur.toList.drop (0 + L.length * 10 + 10)).toArray 49 (0, 0)) g') :
    BI t name N h0 m vold B s L hS voS s' g' (.slice (some ⟨b, 0, none⟩) n cap) := by
  have hal : a < t.length := (List.getElem?_eq_some_iff.1 hx).1
  obtain ⟨new, e1, e2, o⟩ := i.own
  have hbm : b ≠ m := (hBm b (hB2 b (o.low b (by simp [ownB, Value.ownBlock])))).2
  have hbN : N ≤ b := (hBm b (hB2 b (o.low b (by simp [ownB, Value.ownBlock])))).1
  have hown : ∀ d, ownB (.slice (some ⟨b, 0, none⟩) n cap) d → d = b := fun d e => ownB_eq e
  have hob : ownB (.slice (some ⟨b, 0, none⟩) n cap) b := by simp [ownB, Value.ownBlock]
  have hn : n = (L ++ [basicTy 0] ++ outs t name s'.place (owns t name (enterV s a).order) new).length := by
    obtain ⟨a', c', e⟩ := o.own.form
    cases e; rfl
  have hself : 0 < (enterV s a).place a := by simp [enterV, putP_at]; omega
  have hokS : VOk t s s' := by
    refine ⟨i.ok.inv, ⟨a :: new, by rw [e1]; simp [enterV], fun d hd r hr => ?_⟩, fun d hd => ?_⟩
    · rcases List.mem_cons.1 hd with rfl | hd
      · exact hall r hr
      · exact e2 d hd r hr
    · have hne : d ≠ a := fun e => by rw [e] at hd; omega
      have : (enterV s a).place d = s.place d := putP_ne _ _ hne
      rw [i.ok.keep d (by rw [this]; exact hd), this]
  rw [Nat.zero_add] at u
  refine ⟨i.k.upd u hbN, i.x.mod u.mod (fun e => hbm (by have e : m = b := e; exact e.symm)), hokS, ⟨a :: new, by rw [e1]; simp [enterV], fun d hd r hr => ?_, ?_⟩, i.mod.andMod u.mod (fun d hd => ?_), i.low⟩
  · rcases List.mem_cons.1 hd with rfl | hd
    · exact hall r hr
    · exact e2 d hd r hr
  · have key := o.own.setN hn hb (i := L.length) (vs := tyCells (turnTy name s'.place (owns t name s.order) x) vf vp) (by simp) rfl u.at_ (R' := TyB (fun d => ¬ ownB (.slice (some ⟨b, 0, none⟩) n cap) d ∧ B d) g') (turnTy name s'.place (owns t name s.order) x)
      ⟨hfit, vf, vp, rfl, hF.mod u.mod (fun d _ hd => ⟨hd.1, fun e => hd.1 (hown d e), hd.2⟩), hP.mod u.mod (fun d _ hd => ⟨hd.1, fun e => hd.1 (hown d e), hd.2⟩)⟩
      (fun y cs hy => hy.mod u.mod (fun d _ hd => ⟨fun e => hd.1 (by have e : d = b := e; rw [e]; exact hob), hd.1, hB2 d hd.2⟩))
    have e3 : (L ++ [basicTy 0] ++ outs t name s'.place (owns t name (enterV s a).order) new).set L.length (turnTy name s'.place (owns t name s.order) x) = L ++ outs t name s'.place (owns t name s.order) (a :: new) := by
      rw [List.append_assoc, List.set_append_right _ _ (Nat.le_refl _), Nat.sub_self]
      show L ++ (turnTy name s'.place (owns t name s.order) x :: _) = _
      rw [outs, tyAt_of hx]
      congr 2
      show outs t name s'.place (owns t name (s.order ++ [a])) new = _
      rw [owns_append, owns_one, tyAt_of hx]
      split <;> rfl
    rw [e3] at key
    exact ⟨key, fun d e => hB2 d (o.low d e)⟩
  · have hd : d = b := hd
    rw [hd]
    exact (i.low b hob).imp .inr id
end

/-! The walk of what visits types. No condition but what each theorem says. -/
section
open Go Go.Eng

theorem vorder_le {t : List Ty} {s : VS} (h : VInv t s) : s.order.length ≤ t.length := by
  have hs : s.order ⊆ List.range t.length := fun a ha => List.mem_range.2 (h.range a ha).2
  have := h.nodup.length_le_of_subset hs
  simpa using this
theorem turned_in {t : List Ty} {s : VS} (h : VInv t s) (hl : t.length ≤ 256) {r : Int} (hr : 0 ≤ r) : in64 (turned s.place r) := by
  have ho := vorder_le h
  unfold turned in64
  split
  · omega
  · by_cases hp : r.toNat ∈ s.order
    · obtain ⟨j, hj⟩ := List.mem_iff_getElem?.1 hp
      have h2 := h.at_ j _ hj
      have h3 := (List.getElem?_eq_some_iff.1 hj).1
      omega
    · have := h.none _ hp; omega
theorem owns_le (t : List Ty) (name : Bytes) (O : List Nat) : owns t name O ≤ O.length := List.countP_le_length
theorem ref_e {x : Ty} : x.elem ∈ refsTy x := mem_refs.2 (.inl rfl)
theorem ref_b {x : Ty} : x.base ∈ refsTy x := mem_refs.2 (.inr (.inl rfl))
theorem ref_f {x : Ty} {f : Fld} (h : f ∈ x.fields) : f.type ∈ refsTy x := mem_refs.2 (.inr (.inr (.inl ⟨f, h, rfl⟩)))
theorem ref_p {x : Ty} {p : Par} (h : p ∈ x.params) : p.type ∈ refsTy x := mem_refs.2 (.inr (.inr (.inr (.inl ⟨p, h, rfl⟩))))
theorem ref_r {x : Ty} : x.res ∈ refsTy x := mem_refs.2 (.inr (.inr (.inr (.inr rfl))))
theorem BI.slice {t : List Ty} {name : Bytes} {N : Nat} {h0 : Heap} {m : Nat} {vold : Value} {B : Nat → Prop} {s1 s : VS} {L : List Ty} {hS g : Heap} {voS vo : Value} (i : BI t name N h0 m vold B s1 L hS voS s g vo) (hL : L.length = 7 + s1.order.length) :
    ∃ b cap cur, vo = .slice (some ⟨b, 0, none⟩) (7 + s.order.length) cap ∧ g[b]? = some (.cells cur 49 (0, 0)) ∧ (7 + s.order.length) * 10 ≤ cur.size := by
  obtain ⟨new, e1, e2, o⟩ := i.own
  obtain ⟨b, cap, cur, e3, e4, e5, -⟩ := o.own.blk (by simp; omega)
  have hl : (L ++ outs t name s.place (owns t name s1.order) new).length = 7 + s.order.length := by rw [List.length_append, outs_len, hL, e1, List.length_append]; omega
  rw [hl] at e3 e5
  exact ⟨b, cap, cur, e3, e4, e5⟩
theorem in0 : in64 0 := by unfold in64; omega
def sfs (t : List Ty) (k : Nat) (l : List Int) (i : Nat) (s : VS) : VS := vfold (visitF t k) (l.take i) s
theorem sfs_succ {t : List Ty} {k : Nat} {l : List Int} {i : Nat} {r : Int} (h : l[i]? = some r) (s : VS) : sfs t k l (i + 1) s = visitF t k r (sfs t k l i s) := by
  unfold sfs
  rw [show l.take (i + 1) = l.take i ++ [r] by rw [List.take_add_one, h]; rfl, vfold_snoc]
theorem sfs_ok {t : List Ty} (hr : RefsIn t) {k : Nat} {l : List Int} (i : Nat) {s : VS} (hI : VInv t s) (hu : unp t s < k) (hl : ∀ r ∈ l, 0 ≤ r ∧ r < t.length) : VOk t s (sfs t k l i s) ∧ ∀ r ∈ l.take i, Placed (sfs t k l i s) r :=
  vfold_ok (visitF_ok hr k) (l.take i) s hI hu (fun r hr => hl r (List.mem_of_mem_take hr))
theorem refs_fold (v : Int → VS → VS) (x : Ty) (s : VS) : vfold v (refsTy x) s = v x.res (vfold v (x.params.map (·.type)) (vfold v (x.fields.map (·.type)) (v x.base (v x.elem s)))) := by
  unfold refsTy; rw [vfold, vfold, vfold_append, vfold_append]; rfl
theorem tfld_eq {P P' : Nat → Nat} {f : Fld} (h : turned P f.type = turned P' f.type) : tfld P f = tfld P' f := by unfold tfld; rw [h]
theorem tpar_eq {P P' : Nat → Nat} {f : Par} (h : turned P f.type = turned P' f.type) : tpar P f = tpar P' f := by unfold tpar; rw [h]
theorem inv_of {name : Bytes} {t : List Ty} {N : Nat} {h0 : Heap} {m : Nat} {vold : Value} {B : Nat → Prop} {s1 s s' : VS} {L : List Ty} {hS g : Heap} {voS vo v : Value} {r : Int} {g' : Heap}
    (w : ∃ vo', v = i64 (turned s'.place r) ∧ BI t name N h0 m vold B s1 L hS voS s' g' vo' ∧ Placed s' r ∧ VOk t s s' ∧ Go.Eng.Mod (fun b => b = m ∨ ownB vo b) g g' ∧ ∀ b, ownB vo' b → ownB vo b ∨ g.size ≤ b) : Go.Eng.Mod (fun b => b = m ∨ ownB vo b) g g' := by
  obtain ⟨_, _, _, _, _, w, _⟩ := w; exact w
set_option maxHeartbeats 4000000 in
theorem visit_step {t : List Ty} {name : Bytes} {N : Nat} {h0 : Heap} {m : Nat} {vold : Value} (c : VCtx t N h0 m vold) {k : Nat} (ih : VisC t name N h0 m vold k) : VisC t name N h0 m vold (k + 1) := by
  intro B a s L h vo hk hX hO hL hI hu ha hB hBn
  have hm := c.m
  have hlen := c.len
  have hol := vorder_le hI
  have hmx : maxLen = 9223372036854775807 := by decide
  have hnN := hk.n
  have hmlt := hX.lt
  have hBO := hO.low
  have hlt0 := hO.lt
  have hold := c.old
  obtain ⟨aold, cold, rfl⟩ := hold.form
  obtain ⟨av, cv, rfl⟩ := hO.own.form
  refine fn_enter (N := 148) Try.func42 (by kernel_rfl) rfl rfl rfl (fun w0 => ?_)
  refine c_seq ?_; refine c_reg ?_; refine asg rfl rfl ?_; refine o_nil ?_; refine x_seq ?_
  refine c_seq ?_; refine c_seq ?_; refine c_reg ?_; refine mv rfl rfl (lei rfl rfl rfl ?_)
  refine o_nil ?_; refine x_seq ?_; refine c_cond rfl (fun c1 => ?_) (fun c1 => ?_)
  · refine c_seq ?_; refine c_reg ?_; refine mv rfl rfl (asg rfl rfl ?_)
    refine o_nil ?_; refine x_seq ?_; refine c_ret ?_; refine x_seq_ret ?_; refine ret1 (.inr rfl) rfl rfl ?_
    refine ⟨.slice av L.length cv, ?_, ?_⟩
    · unfold turned; rw [if_pos (by simpa using c1)]
    · rw [visitF_skip (.inl (by simpa using c1))]; exact BI.refl hk hX hO hI
  · have c1 : ¬ a ≤ 6 := by simpa using c1
    refine c_skip ?_; refine x_seq ?_
    refine c_seq ?_; refine c_seq ?_; refine c_reg ?_
    refine mv rfl rfl (mv rfl rfl (nck rfl rfl (fa rfl rfl (ixa rfl rfl (by omega) rfl (ld rfl (hX.place (by omega)) rfl (gti rfl rfl rfl ?_))))))
    refine o_nil ?_; refine x_seq ?_; refine c_cond rfl (fun c2 => ?_) (fun c2 => ?_)
    · refine c_seq ?_; refine c_reg ?_
      refine mv rfl rfl (mv rfl rfl (nck rfl rfl (fa rfl rfl (ixa rfl rfl (by omega) rfl (ld rfl (hX.place (by omega)) rfl (asg rfl rfl ?_))))))
      refine o_nil ?_; refine x_seq ?_; refine c_ret ?_; refine x_seq_ret ?_; refine ret1 (.inr rfl) rfl rfl ?_
      have c2 : 0 < s.place a.toNat := by simpa using c2
      refine ⟨.slice av L.length cv, ?_, ?_⟩
      · rw [visitF_skip (.inr c2)]; unfold turned; rw [if_neg c1]
      · rw [visitF_skip (.inr c2)]; exact BI.refl hk hX hO hI
    · have c2 : ¬ 0 < s.place a.toNat := by simpa using c2
      have hgo : ¬ (a ≤ 6 ∨ 0 < s.place a.toNat) := fun e => e.elim c1 c2
      have hp0 : s.place a.toNat = 0 := by omega
      have hal : a.toNat < t.length := by omega
      have hx : t[a.toNat]? = some t[a.toNat] := List.getElem?_eq_getElem hal
      have hsz := c.size _ (List.getElem_mem hal)
      have hrefs : ∀ r ∈ refsTy t[a.toNat], 0 ≤ r ∧ r < t.length := by have := c.refs a.toNat; rwa [refsAt_of hx] at this
      have hI1 := enter_inv hI (a := a.toNat) (by omega) hp0
      have hu1 : unp t (enterV s a.toNat) < k := by have := unp_enter (t := t) (s := s) hal hp0; omega
      have hL1 : (L ++ [basicTy 0]).length = 7 + (enterV s a.toNat).order.length := by show _ = 7 + (s.order ++ [a.toNat]).length; simp only [List.length_append, List.length_cons, List.length_nil]; omega
      have hpl : (enterV s a.toNat).place = putP s.place a.toNat L.length := by rw [hL]; rfl
      refine c_skip ?_; refine x_seq ?_; refine c_seq ?_; refine c_reg ?_
      refine mv rfl rfl (nck rfl rfl (fa rfl rfl (ld rfl hX.out rfl (lnl rfl rfl (asg rfl rfl ?_)))))
      refine o_nil ?_; refine x_seq ?_; refine c_seq ?_; refine c_reg ?_
      refine mv rfl rfl (mv rfl rfl (mv rfl rfl (nck rfl rfl (fa rfl rfl (ixa rfl rfl (by omega) rfl (st rfl rfl rfl hX.at_ (by rw [trim_size, Nat.blt_eq]; omega) nofun (fun h3 u3 => ?_)))))))
      have X3 := hX.setPlace ⟨by omega, by omega⟩ u3
      have O3 := hO.mod u3.mod (fun b hb _ e => (hB b hb).2 e)
      have s3 : h3.size = h.size := u3.size
      have k_3 := hk.upd u3 (by omega)
      refine o_nil ?_; refine x_seq ?_; refine c_seq ?_; refine c_reg ?_
      refine mv rfl rfl (mv rfl rfl (nck rfl rfl (fa rfl rfl (ld rfl X3.out rfl (bld (vs := []) (v := .agg (tyCells (basicTy 0) (.slice none 0 0) (.slice none 0 0)).toArray) rfl (fun _ => by kernel_rfl) rfl ?_)))))
      refine bsl (vs := [(0, .agg (tyCells (basicTy 0) (.slice none 0 0) (.slice none 0 0)).toArray)]) (cs := (tyCells (basicTy 0) (.slice none 0 0) (.slice none 0 0)).toArray) (E := 49) rfl (fun _ => by kernel_rfl) nofun rfl (fun h4 n4 => ?_)
      have X4 := X3.mod n4.ext (fun e => e)
      have O4 := O3.mod n4.ext (fun _ _ _ e => e)
      obtain ⟨css, hOw, q1, q2, q3⟩ := O4.own
      have s4 : h4.size = h3.size + 1 := n4.size
      have k_4 := k_3.ext n4.ext
      refine app U_sl rfl rfl hOw (Src.slice (size := 10) (m := 1) rfl (row_blk n4.at_)) rfl (ones rfl) (by omega) (by omega) nofun rfl (fun v5 h5 o5 m5 f5 => ?_)
      have O5 := TysOwn.snoc q1 q2 q3 o5 m5 f5 O4.low (fun b hb => hBn b (by omega)) ⟨⟨Nat.zero_le _, Nat.zero_le _, in0, in0, in0, in0, in0, in0⟩, _, _, rfl, SliceB.nil _ _ _ _, SliceB.nil _ _ _ _⟩
      have X5 := X4.mod m5 (fun e => (hB m (hBO _ e)).2 rfl)
      obtain ⟨a5, ca5, rfl⟩ := o5.form
      have s5 : h4.size ≤ h5.size := m5.size
      have k_5 := (k_4.mod m5 (fun b e => (hB b (hBO b e)).1))
      refine nck rfl rfl (fa rfl rfl (st rfl rfl rfl X5.at_ (by rw [trim_size]; decide) nofun (fun h6 u6 => ?_)))
      have X6 := X5.setOut u6
      have O6 := O5.mod u6.mod (fun b hb _ e => (hB b hb).2 e)
      have hml6 := X6.lt
      have O6' := O6.mono (B' := fun b => B b ∧ b ≠ h6.size) (fun b hb e => ⟨e, by omega⟩)
      have kq6 : At N h0 h6 := k_5.upd u6 hm
      obtain ⟨b2, o2, cs2, ha2, hb2, hl2, hr2, hR2⟩ := SliceAt.el hold kq6 hx
      generalize t[a.toNat] = x at *
      subst ha2
      obtain ⟨hfit, vf, vp, rfl, hF, hP⟩ := hR2
      have hF0 := hF
      have hP0 := hP
      obtain ⟨af, cf, rfl⟩ := hF.form
      obtain ⟨ap, cp, rfl⟩ := hP.form
      have s6 : h6.size = h5.size := u6.size
      have k_6 := k_5.upd u6 (by omega)
      refine o_nil ?_; refine x_seq ?_; refine c_seq ?_; refine c_reg ?_
      refine mv rfl rfl (nck rfl rfl (fa rfl rfl (ld rfl X6.old rfl (mv rfl rfl (ixs rfl rfl (by omega) rfl (ldn rfl rfl hr2 rfl (alc nofun rfl (fun h7 n7 => ?_))))))))
      have s7 : h7.size = h6.size + 1 := n7.size
      have k_7 := k_6.ext n7.ext
      have b6_7 := n7.at_
      refine stw rfl rfl rfl (ones rfl) b6_7 rfl nofun (fun h8 u8 => ?_)
      have X8 := (X6.mod n7.ext (fun e => e)).mod u8.mod (fun e => by have e : m = h6.size := e; omega)
      have O8 := (O6'.mod n7.ext (fun _ _ _ e => e)).mod u8.mod (fun b hb _ e => hb.2 e)
      have hf58 : ∀ b, ownB (.slice a5 (L.length + 1) ca5) b → ownB (.slice av L.length cv) b ∨ h.size ≤ b := fun b e => (f5 b e).imp id (fun e => by omega)
      have M8 : Go.Eng.Mod (fun b => b = m ∨ ownB (.slice av L.length cv) b) h h8 := (((((((Go.Eng.Mod.refl _ h).upd u3 (.inl (.inl rfl))).trans (n4.ext.mod _)).andMod m5 (fun b e => .inl (.inr e))).upd u6 (.inl (.inl rfl))).trans (n7.ext.mod _)).upd u8 (.inr (by omega)))
      have hq8 : h6.size < h8.size := lt_of_get u8.at_
      have s8 : h8.size = h7.size := u8.size
      have k_8 := k_7.upd u8 (by omega)
      have b6_8 := u8.at_
      refine o_nil ?_; refine x_seq ?_
      refine c_cut (α := Heap) (fun _ => [(0, ptr m 0), (5, i64 (L.length : Nat)), (6, ptr h6.size 0)]) (fun y => y)
        (fun y => BI t name N h0 m (.slice (some ⟨b2, o2, none⟩) t.length cold) (fun b => B b ∧ b ≠ h6.size) (enterV s a.toNat) (L ++ [basicTy 0]) h (.slice av L.length cv) (enterV s a.toNat) y (.slice a5 (L.length + 1) ca5) ∧
          y[h6.size]? = some (.cells (tyCells { x with desc := if x.form = 9 ∧ x.mod = name then (owns t name s.order : Int) else x.desc } (.slice af x.fields.length cf) (.slice ap x.params.length cp)).toArray 49 (0, 0))) ?_ ?_
      · refine c_seq ?_
        refine c_dreg (· = h8) [0, 1, 2, 3, 4, 5, 6, 7, 8, 9, 10, 11] rfl rfl (by kernel_rfl) ?_
        refine fa rfl rfl (ldI rfl (fun _ hI => by subst hI; exact cell b6_8 rfl) rfl (eqi rfl rfl rfl (mv rfl rfl (gqt rfl rfl rfl (fun e => fa rfl rfl) (gqt rfl rfl rfl (fun e => ldI (cg rfl e) (fun _ hI => by subst hI; exact cell b6_8 rfl) rfl) ?_)))))
        refine gqt rfl rfl rfl (fun e => mv rfl rfl) (gqt rfl rfl rfl (fun e => nck (cg rfl e) rfl) (gqt rfl rfl rfl (fun e => fa (cg rfl e) rfl) (gqt rfl rfl rfl (fun e => ldI (cg rfl e) (fun _ hI => by subst hI; exact (X8.name)) rfl) ?_)))
        refine gqt rfl rfl rfl (fun e => eqs (cg rfl e) (cg rfl e) rfl) (pka rfl rfl rfl rfl ?_)
        refine o_nil ?_; refine x_seq ?_; refine c_cond rfl (fun c9 => ?_) (fun c9 => ?_)
        · refine c_seq ?_; refine c_reg ?_
          refine mv rfl rfl (nck rfl rfl (fa rfl rfl (ld rfl X8.descs rfl (fa rfl rfl (st rfl rfl rfl b6_8 rfl nofun (fun h10 u10 => ?_))))))
          have X10 := X8.mod u10.mod (fun e => by have e : m = h6.size := e; omega)
          have hown := owns_le t name s.order
          have s10 : h10.size = h8.size := u10.size
          have k_10 := k_8.upd u10 (by omega)
          have b6_10 := u10.at_
          refine o_nil ?_; refine x_seq ?_; refine c_reg ?_
          refine mv rfl rfl (nck rfl rfl (fa rfl rfl (ld rfl X10.descs rfl (add rfl rfl (by omega) rfl (nck rfl rfl (fa rfl rfl (st rfl rfl rfl X10.at_ (by rw [trim_size]; decide) nofun (fun h11 u11 => ?_))))))))
          have s11 : h11.size = h10.size := u11.size
          have k_11 := k_10.upd u11 (by omega)
          have b6_11 := u11.ne b6_10 (by omega)
          refine o_nil ?_
          have c9 : x.form = 9 ∧ x.mod = name := by simpa using c9
          have X11 := X10.setDescs (n := owns t name s.order + 1) (by omega) u11
          have O11 := (O8.mod u10.mod (fun b hb _ e => hb.2 e)).mod u11.mod (fun b hb _ e => (hB b hb.1).2 e)
          exact x_cut h11 ⟨⟨k_11, by rw [show owns t name (enterV s a.toNat).order = owns t name s.order + 1 by show owns t name (s.order ++ [a.toNat]) = _; rw [owns_append, owns_one, tyAt_of hx, if_pos c9]]; rw [hpl]; exact X11, .refl hI1, ⟨[], by simp, by simp, by simpa [outs] using O11⟩, (M8.upd u10 (.inr (by omega))).upd u11 (.inl (.inl rfl)), hf58⟩, by rw [if_pos c9]; exact b6_11⟩ ⟨rfl, rfl, rfl, trivial⟩ rfl
        · refine c_skip ?_
          have c9 : ¬ (x.form = 9 ∧ x.mod = name) := by simpa using c9
          exact x_cut h8 ⟨⟨k_8, by rw [show owns t name (enterV s a.toNat).order = owns t name s.order by show owns t name (s.order ++ [a.toNat]) = _; rw [owns_append, owns_one, tyAt_of hx, if_neg c9, Nat.add_zero]]; rw [hpl]; exact X8, .refl hI1, ⟨[], by simp, by simp, by simpa [outs] using O8⟩, M8, hf58⟩, by rw [if_neg c9]; exact b6_8⟩ ⟨rfl, rfl, rfl, trivial⟩ rfl
      · intro y hy
        obtain ⟨I0, hq⟩ := hy
        have I0k := I0.k
        have hqy := lt_of_get hq
        have hB1 : ∀ b, (B b ∧ b ≠ h6.size) → N ≤ b ∧ b ≠ m := fun b e => hB b e.1
        generalize hD : (if x.form = 9 ∧ x.mod = name then (owns t name s.order : Int) else x.desc) = D at *
        change SC _ _ _ _ y
        refine c_seq ?_; refine c_reg ?_
        refine mv rfl rfl (fa rfl rfl (ld rfl (cell hq rfl) rfl (cl (vs := [ptr m 0, i64 x.elem]) rfl ((BI.step c ih I0 (hrefs _ ref_e) hL1 hu1 hB1 (fun b hb => ⟨hBn b (by omega), by omega⟩))) rfl (fun v12 h12 r12 => ?_))))
        obtain ⟨vo12, rfl, I12, P12, K12, M12, F12⟩ := r12
        have z12 := M12.size
        have nq12 : ¬ (h6.size = m ∨ ownB (.slice a5 (L.length + 1) ca5) h6.size) := fun e => e.elim (by omega) (fun e => (I0.inB _ e).2 rfl)
        have k_12 := (I12.k)
        have hq_12 := (M12.get hq nq12)
        refine fa rfl rfl (st rfl rfl rfl hq_12 rfl nofun (fun h13 u13 => ?_))
        have I13 := I12.move u13.mod hnN (by omega) (fun b e => by have e : b = h6.size := e; subst e; exact ⟨by omega, fun e => e.2 rfl⟩)
        have s13 : h13.size = h12.size := u13.size
        have k_13 := k_12.upd u13 (by omega)
        have hq_13 := u13.at_
        refine o_nil ?_; refine x_seq ?_; refine c_seq ?_; refine c_reg ?_
        refine mv rfl rfl (fa rfl rfl (ld rfl (cell hq_13 rfl) rfl (cl (vs := [ptr m 0, i64 x.base]) rfl ((BI.step c ih I13 (hrefs _ ref_b) hL1 hu1 hB1 (fun b hb => ⟨hBn b (by omega), by omega⟩))) rfl (fun v14 h14 r14 => ?_))))
        obtain ⟨vo14, rfl, I14, P14, K14, M14, F14⟩ := r14
        have z14 := M14.size
        have nq14 : ¬ (h6.size = m ∨ ownB vo12 h6.size) := fun e => e.elim (by omega) (fun e => (I13.inB _ e).2 rfl)
        have k_14 := (I14.k)
        have hq_14 := (M14.get hq_13 nq14)
        refine fa rfl rfl (st rfl rfl rfl hq_14 rfl nofun (fun h15 u15 => ?_))
        have I15 := I14.move u15.mod hnN (by omega) (fun b e => by have e : b = h6.size := e; subst e; exact ⟨by omega, fun e => e.2 rfl⟩)
        have s15 : h15.size = h14.size := u15.size
        have k_15 := k_14.upd u15 (by omega)
        have hq_15 := u15.at_
        refine o_nil ?_; refine x_seq ?_; refine c_seq ?_; refine c_reg ?_
        refine fa rfl rfl (ld rfl (cell hq_15 rfl) rfl (cl (vs := [.slice af x.fields.length cf]) rfl ((cloneF_fn hF0 k_15 (by omega))) rfl (fun v16 h16 r16 => ?_)))
        obtain ⟨o16, q16, x16⟩ := r16
        obtain ⟨a16, c16, rfl⟩ := o16.form
        have z16 := x16.size
        have I16 := (I15.narrow (B' := fun b => (B b ∧ b ≠ h6.size) ∧ ¬ ownB (.slice a16 x.fields.length c16) b) (fun b hb e => ⟨e, fun e' => by have := q16 b e'; omega⟩)).move x16 hnN (by omega) (fun b e => e.elim)
        have k_16 := (k_15.ext x16)
        have hq_16 := (x16.get hq_15)
        refine fa rfl rfl (st rfl rfl rfl hq_16 rfl nofun (fun h17 u17 => ?_))
        have I17 := I16.move u17.mod hnN (by omega) (fun b e => by have e : b = h6.size := e; subst e; exact ⟨by omega, fun e => e.1.2 rfl⟩)
        have O17 := OwnS.mono o16 u17.mod (fun k e e' => by have := q16 k e; have e' : k = h6.size := e'; omega) (fun _ _ r => r)
        generalize hs2 : visitF t k x.elem (enterV s a.toNat) = s2 at *
        generalize hs3 : visitF t k x.base s2 = s3 at *
        have s17 : h17.size = h16.size := u17.size
        have k_17 := k_16.upd u17 (by omega)
        have hq_17 := u17.at_
        refine o_nil ?_; refine x_seq ?_
        refine c_seq ?_; refine c_seq ?_; refine c_reg ?_; refine fa rfl rfl (ld rfl (cell hq_17 rfl) rfl (lnl rfl rfl (mv rfl rfl ?_)))
        refine o_nil ?_; refine x_seq ?_; refine c_blk ?_
        refine c_loop (α := Nat × Heap × Value) (fun z => [(0, ptr m 0), (5, i64 (L.length : Nat)), (6, ptr h6.size 0), (93, i64 (x.fields.length : Nat)), (94, i64 (z.1 : Nat))]) (fun z => z.2.1)
          (fun z => z.1 ≤ x.fields.length ∧ BI t name N h0 m (.slice (some ⟨b2, o2, none⟩) t.length cold) (fun b => (B b ∧ b ≠ h6.size) ∧ ¬ ownB (.slice a16 x.fields.length c16) b) (enterV s a.toNat) (L ++ [basicTy 0]) h (.slice av L.length cv) (sfs t k (x.fields.map (·.type)) z.1 s3) z.2.1 z.2.2 ∧
            z.2.1[h6.size]? = some (.cells (tyCells { x with desc := D, elem := turned s2.place x.elem, base := turned s3.place x.base } (.slice a16 x.fields.length c16) (.slice ap x.params.length cp)).toArray 49 (0, 0)) ∧
            h17.size ≤ z.2.1.size ∧ OwnS z.2.1 83 3 (fldR z.2.1) (.slice a16 x.fields.length c16) (tk (tfld (sfs t k (x.fields.map (·.type)) z.1 s3).place) z.1 x.fields)) (fun z => x.fields.length - z.1) (0, h17, vo14) ⟨Nat.zero_le _, I17, hq_17, Nat.le_refl _, by rw [tk_zero]; exact O17⟩ ⟨rfl, rfl, rfl, rfl, rfl, trivial⟩ rfl (fun z hz => ?_)
        obtain ⟨i, g, vg⟩ := z
        obtain ⟨hi, I1, hq1, I1gs, O1⟩ := hz
        simp only at hi I1 hq1 I1gs O1
        have hk1 := I1.k
        have hqg := lt_of_get hq1
        change SC _ _ _ _ g
        refine c_seq ?_; refine c_reg ?_; refine lti rfl rfl rfl ?_; refine o_nil ?_; refine x_seq ?_
        refine c_seq ?_; refine c_cond rfl (fun c18 => ?_) (fun c18 => ?_)
        · have hlt : i < x.fields.length := by have := c18; simp only at this; omega
          obtain ⟨f, hfx⟩ : ∃ f, x.fields[i]? = some f := ⟨_, List.getElem?_eq_getElem hlt⟩
          have hfm : f ∈ x.fields := List.mem_of_getElem? hfx
          obtain ⟨bf, capf, curf, ef, hgf, hcf, hrow⟩ := O1.blk (by rw [tk_len]; omega)
          rw [tk_len] at ef hcf
          cases ef
          obtain ⟨cs, hcl, hr, hR⟩ := hrow i f (tk_at _ hfx)
          obtain ⟨rfl, hfn, hft⟩ := hR
          have hr : Go.Eng.rowAt g bf (0 + ((i : Nat) : Int).toNat * 3) [str f.name, .bool f.exp, i64 f.type] := by rw [Nat.zero_add]; exact hr
          have hbf := q16 bf (by simp [ownB, Value.ownBlock])
          have hgfl := lt_of_get hgf
          have nf1 : ¬ (bf = m ∨ ownB vg bf) := fun e => e.elim (fun e => by omega) (fun e => (I1.inB _ e).2 (by simp [ownB, Value.ownBlock]))
          have nq1 : ¬ (h6.size = m ∨ ownB vg h6.size) := fun e => e.elim (by omega) (fun e => (I1.inB _ e).1.2 rfl)
          refine c_skip ?_; refine x_seq ?_
          refine c_seq ?_; refine c_blk ?_; refine c_seq ?_; refine c_reg ?_; refine mv rfl rfl (asg rfl rfl ?_)
          refine o_nil ?_; refine x_seq ?_
          refine c_treg (Mod (fun k => k = m ∨ ownB vg k) g) (some 11) [11, 10, 9, 8, 7, 6, 5, 4, 3, 2, 1, 0] (.leaf [0, 1, 2, 3, 4, 5, 6, 7, 8, 9, 10] [11, 12, 13]) rfl (Mod.refl _ _) (by kernel_rfl) ?_
          have c0_2 : Mod (fun k => k = m ∨ ownB vg k) g g := Mod.refl _ _
          refine t_leaf ?_
          refine fa rfl rfl (ldI rfl (fun _ hI => cell (hI.get hq1 (by first | exact id | (intro e; have e : _ = _ := e; omega) | assumption)) rfl) rfl (mv rfl rfl (mv rfl rfl ?_)))
          refine fa rfl rfl (ldI rfl (fun _ hI => cell (hI.get hq1 (by first | exact id | (intro e; have e : _ = _ := e; omega) | assumption)) rfl) rfl (mv rfl rfl (ixs rfl rfl (by omega) rfl ?_)))
          refine fa rfl rfl (ldI rfl (fun _ hI => Mod.cell hI (hr 2 _ rfl) (by first | exact id | (intro e; have e : _ = _ := e; omega) | assumption)) rfl (clI (vs := [ptr m 0, i64 f.type]) rfl ((BI.step c ih I1 (hrefs _ (ref_f hfm)) hL1 hu1 (fun b e => hB b e.1.1) (fun b hb => ⟨⟨hBn b (by omega), by omega⟩, fun e => by have := ownB_eq e; omega⟩))) (fun _ _ w => inv_of w) rfl (fun v19 h19 r19 => ?_)))
          obtain ⟨vo19, rfl, I19, P19, K19, M19, F19⟩ := r19
          have z19 := M19.size
          have c_19 := M19
          have k_19 := (I19.k)
          have hq1_19 := (M19.get hq1 nq1)
          refine o_nil ?_; refine x_tail ?_
          refine ixs rfl rfl (by omega) rfl (fa rfl rfl (st rfl rfl rfl (M19.get hgf nf1) (by rw [Nat.blt_eq]; omega) nofun (fun h20 u20 => ?_)))
          have I20 := I19.move u20.mod hnN (by omega) (fun b e => by have e : b = bf := e; subst e; exact ⟨by omega, fun e => e.2 (by simp [ownB, Value.ownBlock])⟩)
          have O19 := OwnS.mono O1 M19 (fun k e => by have := ownB_eq e; subst this; exact nf1) (fun _ _ r => r)
          have hok := sfs_ok c.refs (l := x.fields.map (·.type)) i I17.ok.inv (Nat.lt_of_le_of_lt I17.ok.unp hu1) (fun r hr => by obtain ⟨f', hf', rfl⟩ := List.mem_map.1 hr; exact hrefs _ (ref_f hf'))
          have O20 := OwnS.set1 O19 (by rw [tk_len]) (M19.get hgf nf1) (i := i) (c := 2) (by rw [tk_len]; exact hlt) (by decide) (by rw [show i * 3 + 2 = 0 + ((i : Nat) : Int).toNat * 3 + 2 by omega]; exact u20.at_) (tfld (visitF t k f.type (sfs t k (x.fields.map (·.type)) i s3)).place f) (fun y cs hy hcs => by
            rw [tk_at _ hfx] at hy; cases hy
            obtain ⟨rfl, h1, h2⟩ := hcs
            exact ⟨rfl, h1, turned_in I19.ok.inv hlen (hrefs _ (ref_f hfm)).1⟩) (fun _ _ r => r)
          rw [tk_congr (g' := tfld (visitF t k f.type (sfs t k (x.fields.map (·.type)) i s3)).place) (fun y hy => tfld_eq (turned_keep K19 (hok.2 _ (by rw [← List.map_take]; exact List.mem_map_of_mem hy))).symm), tk_step _ hfx] at O20
          have s20 : h20.size = h19.size := u20.size
          have k_20 := k_19.upd u20 (by omega)
          have hq1_20 := u20.ne hq1_19 (by omega)
          refine o_nil ?_; refine x_blk ?_; refine x_seq ?_; refine c_reg ?_; refine add rfl rfl (by omega) rfl (mv rfl rfl ?_)
          refine o_nil ?_
          have hsu : sfs t k (x.fields.map (·.type)) (i + 1) s3 = visitF t k f.type (sfs t k (x.fields.map (·.type)) i s3) := sfs_succ (by rw [List.getElem?_map, hfx]; rfl) s3
          exact x_loop (i + 1, h20, vo19) ⟨hlt, by simp only; rw [hsu]; exact I20, hq1_20, by simp only; omega, by simp only; rw [hsu]; exact O20⟩ (by simp only; omega) ⟨rfl, rfl, rfl, rfl, rfl, trivial⟩ rfl
        · have hin : i = x.fields.length := by have := c18; simp only at this; omega
          subst hin
          have hok1 := sfs_ok c.refs (l := x.fields.map (·.type)) x.fields.length I17.ok.inv (Nat.lt_of_le_of_lt I17.ok.unp hu1) (fun r hr => by obtain ⟨f', hf', rfl⟩ := List.mem_map.1 hr; exact hrefs _ (ref_f hf'))
          rw [tk_all] at O1
          generalize hs4 : sfs t k (x.fields.map (·.type)) x.fields.length s3 = s4 at *
          have hlt16g : ∀ b, ownB (.slice a16 x.fields.length c16) b → b < g.size := by obtain ⟨_, o⟩ := O1.own; exact o.lt
          refine c_exit ?_; refine x_seq_exit ?_; refine x_loop_exit ?_; refine x_blk_hit ?_; refine x_seq ?_; refine c_seq ?_; refine c_reg ?_
          refine fa rfl rfl (ld rfl (cell hq1 rfl) rfl (cl (vs := [.slice ap x.params.length cp]) rfl ((cloneP_fn hP0 hk1 (by omega))) rfl (fun v21 h21 r21 => ?_)))
          obtain ⟨o21, q21, x21⟩ := r21
          obtain ⟨a21, c21, rfl⟩ := o21.form
          have z21 := x21.size
          have I21 := (I1.narrow (B' := fun b => ((B b ∧ b ≠ h6.size) ∧ ¬ ownB (.slice a16 x.fields.length c16) b) ∧ ¬ ownB (.slice a21 x.params.length c21) b) (fun b hb e => ⟨e, fun e' => by have := q21 b e'; omega⟩)).move x21 hnN (by omega) (fun b e => e.elim)
          have O21 := OwnS.mono O1 x21 (fun _ _ e => e) (fun _ _ r => r)
          have k_21 := (hk1.ext x21)
          have hq1_21 := (x21.get hq1)
          refine fa rfl rfl (st rfl rfl rfl hq1_21 rfl nofun (fun h22 u22 => ?_))
          have I22 := I21.move u22.mod hnN (by omega) (fun b e => by have e : b = h6.size := e; subst e; exact ⟨by omega, fun e => e.1.1.2 rfl⟩)
          have O22 := OwnS.mono O21 u22.mod (fun k e e' => by have := q16 k e; have e' : k = h6.size := e'; omega) (fun _ _ r => r)
          have P22 := OwnS.mono o21 u22.mod (fun k e e' => by have := q21 k e; have e' : k = h6.size := e'; omega) (fun _ _ r => r)
          have s22 : h22.size = h21.size := u22.size
          have k_22 := k_21.upd u22 (by omega)
          have hq1_22 := u22.at_
          refine o_nil ?_; refine x_seq ?_
          refine c_seq ?_; refine c_seq ?_; refine c_reg ?_; refine fa rfl rfl (ld rfl (cell hq1_22 rfl) rfl (lnl rfl rfl (mv rfl rfl ?_)))
          refine o_nil ?_; refine x_seq ?_; refine c_blk ?_
          refine c_loop (α := Nat × Heap × Value) (fun z => [(0, ptr m 0), (5, i64 (L.length : Nat)), (6, ptr h6.size 0), (117, i64 (x.params.length : Nat)), (118, i64 (z.1 : Nat))]) (fun z => z.2.1)
            (fun z => z.1 ≤ x.params.length ∧ BI t name N h0 m (.slice (some ⟨b2, o2, none⟩) t.length cold) (fun b => ((B b ∧ b ≠ h6.size) ∧ ¬ ownB (.slice a16 x.fields.length c16) b) ∧ ¬ ownB (.slice a21 x.params.length c21) b) (enterV s a.toNat) (L ++ [basicTy 0]) h (.slice av L.length cv) (sfs t k (x.params.map (·.type)) z.1 s4) z.2.1 z.2.2 ∧
              z.2.1[h6.size]? = some (.cells (tyCells { x with desc := D, elem := turned s2.place x.elem, base := turned s3.place x.base } (.slice a16 x.fields.length c16) (.slice a21 x.params.length c21)).toArray 49 (0, 0)) ∧
              OwnS z.2.1 83 3 (fldR z.2.1) (.slice a16 x.fields.length c16) (x.fields.map (tfld s4.place)) ∧ h22.size ≤ z.2.1.size ∧
              OwnS z.2.1 85 2 (parR z.2.1) (.slice a21 x.params.length c21) (tk (tpar (sfs t k (x.params.map (·.type)) z.1 s4).place) z.1 x.params)) (fun z => x.params.length - z.1) (0, h22, vg) ⟨Nat.zero_le _, I22, hq1_22, O22, Nat.le_refl _, by rw [tk_zero]; exact P22⟩ ⟨rfl, rfl, rfl, rfl, rfl, trivial⟩ rfl (fun z hz => ?_)
          obtain ⟨i, g2, vg2⟩ := z
          obtain ⟨hi, I2, hq2, O2, I2gs, Q2⟩ := hz
          simp only at hi I2 hq2 O2 I2gs Q2
          have hk2 := I2.k
          have hqg2 := lt_of_get hq2
          change SC _ _ _ _ g2
          refine c_seq ?_; refine c_reg ?_; refine lti rfl rfl rfl ?_; refine o_nil ?_; refine x_seq ?_
          refine c_seq ?_; refine c_cond rfl (fun c23 => ?_) (fun c23 => ?_)
          · have hlt : i < x.params.length := by have := c23; simp only at this; omega
            obtain ⟨f, hfx⟩ : ∃ f, x.params[i]? = some f := ⟨_, List.getElem?_eq_getElem hlt⟩
            have hfm : f ∈ x.params := List.mem_of_getElem? hfx
            obtain ⟨bf, capf, curf, ef, hgf, hcf, hrow⟩ := Q2.blk (by rw [tk_len]; omega)
            rw [tk_len] at ef hcf
            cases ef
            obtain ⟨cs, hcl, hr, hR⟩ := hrow i f (tk_at _ hfx)
            obtain ⟨rfl, hft⟩ := hR
            have hr : Go.Eng.rowAt g2 bf (0 + ((i : Nat) : Int).toNat * 2) [.bool f.byVar, i64 f.type] := by rw [Nat.zero_add]; exact hr
            have hbf := q21 bf (by simp [ownB, Value.ownBlock])
            have hgfl := lt_of_get hgf
            have nf1 : ¬ (bf = m ∨ ownB vg2 bf) := fun e => e.elim (fun e => by omega) (fun e => (I2.inB _ e).2 (by simp [ownB, Value.ownBlock]))
            have nq1 : ¬ (h6.size = m ∨ ownB vg2 h6.size) := fun e => e.elim (by omega) (fun e => (I2.inB _ e).1.1.2 rfl)
            have hlt16 : ∀ b, ownB (.slice a16 x.fields.length c16) b → b < g2.size := by obtain ⟨_, o⟩ := O2.own; exact o.lt
            refine c_skip ?_; refine x_seq ?_
            refine c_seq ?_; refine c_blk ?_; refine c_seq ?_; refine c_reg ?_; refine mv rfl rfl (asg rfl rfl ?_)
            refine o_nil ?_; refine x_seq ?_
            refine c_treg (Mod (fun k => k = m ∨ ownB vg2 k) g2) (some 11) [11, 10, 9, 8, 7, 6, 5, 4, 3, 2, 1, 0] (.leaf [0, 1, 2, 3, 4, 5, 6, 7, 8, 9, 10] [11, 12, 13]) rfl (Mod.refl _ _) (by kernel_rfl) ?_
            have c0_3 : Mod (fun k => k = m ∨ ownB vg2 k) g2 g2 := Mod.refl _ _
            refine t_leaf ?_
            refine fa rfl rfl (ldI rfl (fun _ hI => cell (hI.get hq2 (by first | exact id | (intro e; have e : _ = _ := e; omega) | assumption)) rfl) rfl (mv rfl rfl (mv rfl rfl ?_)))
            refine fa rfl rfl (ldI rfl (fun _ hI => cell (hI.get hq2 (by first | exact id | (intro e; have e : _ = _ := e; omega) | assumption)) rfl) rfl (mv rfl rfl (ixs rfl rfl (by omega) rfl ?_)))
            refine fa rfl rfl (ldI rfl (fun _ hI => Mod.cell hI (hr 1 _ rfl) (by first | exact id | (intro e; have e : _ = _ := e; omega) | assumption)) rfl (clI (vs := [ptr m 0, i64 f.type]) rfl ((BI.step c ih I2 (hrefs _ (ref_p hfm)) hL1 hu1 (fun b e => hB b e.1.1.1) (fun b hb => ⟨⟨⟨hBn b (by omega), by omega⟩, fun e => by have := hlt16 b e; omega⟩, fun e => by have := ownB_eq e; omega⟩))) (fun _ _ w => inv_of w) rfl (fun v24 h24 r24 => ?_)))
            obtain ⟨vo24, rfl, I24, P24, K24, M24, F24⟩ := r24
            have z24 := M24.size
            have c_24 := M24
            have k_24 := (I24.k)
            have hq2_24 := (M24.get hq2 nq1)
            refine o_nil ?_; refine x_tail ?_
            refine ixs rfl rfl (by omega) rfl (fa rfl rfl (st rfl rfl rfl (M24.get hgf nf1) (by rw [Nat.blt_eq]; omega) nofun (fun h25 u25 => ?_)))
            have I25 := I24.move u25.mod hnN (by omega) (fun b e => by have e : b = bf := e; subst e; exact ⟨by omega, fun e => e.2 (by simp [ownB, Value.ownBlock])⟩)
            have O24 := OwnS.mono Q2 M24 (fun k e => by have := ownB_eq e; subst this; exact nf1) (fun _ _ r => r)
            have n16 : ∀ k, ownB (.slice a16 x.fields.length c16) k → ¬ (k = m ∨ ownB vg2 k) ∧ k ≠ bf := fun k e => ⟨fun e' => e'.elim (fun e' => by have := q16 k e; omega) (fun e' => (I2.inB _ e').1.2 e), fun e' => by have hx1 := hlt16g k e; omega⟩
            have O25 := OwnS.mono (OwnS.mono O2 M24 (fun k e => (n16 k e).1) (fun _ _ r => r)) u25.mod (fun k e e' => (n16 k e).2 e') (fun _ _ r => r)
            have hok := sfs_ok c.refs (l := x.params.map (·.type)) i I22.ok.inv (Nat.lt_of_le_of_lt I22.ok.unp hu1) (fun r hr => by obtain ⟨f', hf', rfl⟩ := List.mem_map.1 hr; exact hrefs _ (ref_p hf'))
            have Q25 := OwnS.set1 O24 (by rw [tk_len]) (M24.get hgf nf1) (i := i) (c := 1) (by rw [tk_len]; exact hlt) (by decide) (by rw [show i * 2 + 1 = 0 + ((i : Nat) : Int).toNat * 2 + 1 by omega]; exact u25.at_) (tpar (visitF t k f.type (sfs t k (x.params.map (·.type)) i s4)).place f) (fun y cs hy hcs => by
              rw [tk_at _ hfx] at hy; cases hy
              obtain ⟨rfl, h2⟩ := hcs
              exact ⟨rfl, turned_in I24.ok.inv hlen (hrefs _ (ref_p hfm)).1⟩) (fun _ _ r => r)
            rw [tk_congr (g' := tpar (visitF t k f.type (sfs t k (x.params.map (·.type)) i s4)).place) (fun y hy => tpar_eq (turned_keep K24 (hok.2 _ (by rw [← List.map_take]; exact List.mem_map_of_mem hy))).symm), tk_step _ hfx] at Q25
            have s25 : h25.size = h24.size := u25.size
            have k_25 := k_24.upd u25 (by omega)
            have hq2_25 := u25.ne hq2_24 (by omega)
            refine o_nil ?_; refine x_blk ?_; refine x_seq ?_; refine c_reg ?_; refine add rfl rfl (by omega) rfl (mv rfl rfl ?_)
            refine o_nil ?_
            have hsu : sfs t k (x.params.map (·.type)) (i + 1) s4 = visitF t k f.type (sfs t k (x.params.map (·.type)) i s4) := sfs_succ (by rw [List.getElem?_map, hfx]; rfl) s4
            exact x_loop (i + 1, h25, vo24) ⟨hlt, by simp only; rw [hsu]; exact I25, hq2_25, O25, by simp only; omega, by simp only; rw [hsu]; exact Q25⟩ (by simp only; omega) ⟨rfl, rfl, rfl, rfl, rfl, trivial⟩ rfl
          · have hin : i = x.params.length := by have := c23; simp only at this; omega
            subst hin
            have hok2 := sfs_ok c.refs (l := x.params.map (·.type)) x.params.length I22.ok.inv (Nat.lt_of_le_of_lt I22.ok.unp hu1) (fun r hr => by obtain ⟨f', hf', rfl⟩ := List.mem_map.1 hr; exact hrefs _ (ref_p hf'))
            rw [tk_all] at Q2
            generalize hs5 : sfs t k (x.params.map (·.type)) x.params.length s4 = s5 at *
            have hlt16 : ∀ b, ownB (.slice a16 x.fields.length c16) b → b < g2.size := by obtain ⟨_, o⟩ := O2.own; exact o.lt
            have hlt21 : ∀ b, ownB (.slice a21 x.params.length c21) b → b < g2.size := by obtain ⟨_, o⟩ := Q2.own; exact o.lt
            have nq1 : ¬ (h6.size = m ∨ ownB vg2 h6.size) := fun e => e.elim (by omega) (fun e => (I2.inB _ e).1.1.2 rfl)
            refine c_exit ?_; refine x_seq_exit ?_; refine x_loop_exit ?_; refine x_blk_hit ?_; refine x_seq ?_; refine c_seq ?_; refine c_reg ?_
            refine mv rfl rfl (fa rfl rfl (ld rfl (cell hq2 rfl) rfl (cl (vs := [ptr m 0, i64 x.res]) rfl ((BI.step c ih I2 (hrefs _ ref_r) hL1 hu1 (fun b e => hB b e.1.1.1) (fun b hb => ⟨⟨⟨hBn b (by omega), by omega⟩, fun e => by have := hlt16 b e; omega⟩, fun e => by have := hlt21 b e; omega⟩))) rfl (fun v26 h26 r26 => ?_))))
            obtain ⟨vo26, rfl, I26, P26, K26, M26, F26⟩ := r26
            have z26 := M26.size
            have O26 := OwnS.mono O2 M26 (fun k e e' => e'.elim (fun e' => by have := q16 k e; omega) (fun e' => (I2.inB _ e').1.2 e)) (fun _ _ r => r)
            have Q26 := OwnS.mono Q2 M26 (fun k e e' => e'.elim (fun e' => by have := q21 k e; omega) (fun e' => (I2.inB _ e').2 e)) (fun _ _ r => r)
            have k_26 := (I26.k)
            have hq2_26 := (M26.get hq2 nq1)
            refine fa rfl rfl (st rfl rfl rfl hq2_26 rfl nofun (fun h27 u27 => ?_))
            have I27 := I26.move u27.mod hnN (by omega) (fun b e => by have e : b = h6.size := e; subst e; exact ⟨by omega, fun e => e.1.1.2 rfl⟩)
            have O27 := OwnS.mono O26 u27.mod (fun k e e' => by have := q16 k e; have e' : k = h6.size := e'; omega) (fun _ _ r => r)
            have Q27 := OwnS.mono Q26 u27.mod (fun k e e' => by have := q21 k e; have e' : k = h6.size := e'; omega) (fun _ _ r => r)
            obtain ⟨bo, capo, curo, eo, hgo', hco⟩ := I27.slice hL1
            subst eo
            generalize hs6 : visitF t k x.res s5 = s6 at *
            have hl6 : L.length < 7 + s6.order.length := by
              obtain ⟨new, e1, -⟩ := I27.ok.ext
              rw [e1, hL]; show _ < 7 + ((s.order ++ [a.toNat]) ++ new).length
              simp only [List.length_append, List.length_cons, List.length_nil]; omega
            have hboB := I27.inB bo (by simp [ownB, Value.ownBlock])
            have hboN := (hB bo hboB.1.1.1).1
            have hboq := hboB.1.1.2
            have s27 : h27.size = h26.size := u27.size
            have k_27 := k_26.upd u27 (by omega)
            have hq2_27 := u27.at_
            refine o_nil ?_; refine x_seq ?_; refine c_seq ?_
            refine c_treg (Mod (fun k => False) h27) (some 6) [6, 5, 4, 3, 2, 1, 0] (.leaf [0, 1, 2, 3, 4, 5] [6, 7]) rfl (Mod.refl _ _) (by kernel_rfl) ?_
            have c0_4 : Mod (fun k => False) h27 h27 := Mod.refl _ _
            refine t_leaf ?_
            refine mv rfl rfl (nck rfl rfl (fa rfl rfl (ldI rfl (fun _ hI => Mod.cell hI (I27.x.out) (by first | exact id | (intro e; have e : _ = _ := e; omega) | assumption)) rfl ?_)))
            refine mv rfl rfl (ldnI rfl rfl (fun _ hI => row_blk (hI.get hq2_27 (by first | exact id | (intro e; have e : _ = _ := e; omega) | assumption))) rfl ?_)
            refine o_nil ?_; refine x_tail ?_
            refine ixs rfl rfl (by omega) rfl (stn rfl rfl rfl (ones rfl) hgo' (by show 0 + ((L.length : Nat) : Int).toNat * 10 + 10 ≤ curo.size; omega) nofun (fun h28 u28 => ?_))
            have s28 : h28.size = h27.size := u28.size
            have k_28 := k_27.upd u28 (by omega)
            have hq2_28 := u28.ne hq2_27 (by omega)
            refine o_nil ?_; refine x_seq ?_; refine c_seq ?_; refine c_reg ?_; refine mv rfl rfl (asg rfl rfl ?_)
            refine o_nil ?_; refine x_seq ?_; refine c_ret ?_; refine ret1 (.inr rfl) rfl rfl ?_
            have hs : visitF t (k + 1) a s = s6 := by
             rw [visitF_go hgo, refsAt_of hx, refs_fold, hs2, hs3]
             have e4 : vfold (visitF t k) (x.fields.map (·.type)) s3 = s4 := by rw [← hs4]; unfold sfs; rw [List.take_of_length_le (by simp)]
             have e5 : vfold (visitF t k) (x.params.map (·.type)) s4 = s5 := by rw [← hs5]; unfold sfs; rw [List.take_of_length_le (by simp)]
             rw [e4, e5, hs6]
            have K36 : VOk t s4 s6 := hok2.1.trans K26
            have K26' : VOk t s3 s6 := hok1.1.trans K36
            have K16 : VOk t s2 s6 := K14.trans K26'
            have pF : ∀ f ∈ x.fields, Placed s4 f.type := fun f hf => hok1.2 _ (by rw [List.take_of_length_le (by simp)]; exact List.mem_map_of_mem hf)
            have pP : ∀ f ∈ x.params, Placed s5 f.type := fun f hf => hok2.2 _ (by rw [List.take_of_length_le (by simp)]; exact List.mem_map_of_mem hf)
            have hal : ∀ r ∈ refsAt t a.toNat, Placed s6 r := fun r hr => by
              rw [refsAt_of hx, mem_refs] at hr
              rcases hr with rfl | rfl | ⟨f, hf, rfl⟩ | ⟨f, hf, rfl⟩ | rfl
              · exact P12.mono K16
              · exact P14.mono K26'
              · exact (pF f hf).mono K36
              · exact (pP f hf).mono K26
              · exact P26
            have eF : x.fields.map (tfld s4.place) = (turnTy name s6.place (owns t name s.order) x).fields := List.map_congr_left fun f hf => tfld_eq (turned_keep K36 (pF f hf)).symm
            have eP : x.params.map (tpar s5.place) = (turnTy name s6.place (owns t name s.order) x).params := List.map_congr_left fun f hf => tpar_eq (turned_keep K26 (pP f hf)).symm
            have hself : 0 < (enterV s a.toNat).place a.toNat := by simp [enterV, putP_at]; omega
            have hap : s6.place a.toNat = L.length := by rw [I27.ok.keep _ hself, hpl, putP_at]
            rw [eF] at O27
            rw [eP] at Q27
            refine ⟨.slice (some ⟨bo, 0, none⟩) (7 + s6.order.length) capo, ?_, ?_⟩
            · rw [hs]; unfold turned; rw [if_neg c1, hap]
            · rw [hs]
              refine I27.finish (a := a.toNat) (x := x) (B := B) (vf := .slice a16 x.fields.length c16) (vp := .slice a21 x.params.length c21) (fun d hd => hd.1.1.1) hB hx (by omega) hp0 hal hgo' ⟨hfit.1, hfit.2.1, hfit.2.2.1, hfit.2.2.2.1, turned_in I27.ok.inv hlen (hrefs _ ref_e).1, turned_in I27.ok.inv hlen (hrefs _ ref_b).1, turned_in I27.ok.inv hlen (hrefs _ ref_r).1, ?_⟩ ?_ ?_ ?_
              · show in64 (if x.form = 9 ∧ x.mod = name then (owns t name s.order : Int) else x.desc)
                have := owns_le t name s.order
                split
                · unfold in64; omega
                · exact hfit.2.2.2.2.2.2.2
              · exact O27.sliceB (by show (x.fields.map _).length ≤ _; rw [List.length_map]; omega) (fun b e => ⟨fun e' => by subst e'; exact (I27.inB b (by simp [ownB, Value.ownBlock])).1.2 e, hBn b (by have := q16 b e; omega)⟩)
              · exact Q27.sliceB (by show (x.params.map _).length ≤ _; rw [List.length_map]; omega) (fun b e => ⟨fun e' => by subst e'; exact (I27.inB b (by simp [ownB, Value.ownBlock])).2 e, hBn b (by have := q21 b e; omega)⟩)
              · have ec : tyCells (turnTy name s6.place (owns t name s.order) x) (.slice a16 x.fields.length c16) (.slice a21 x.params.length c21) = tyCells { x with desc := D, elem := turned s2.place x.elem, base := turned s3.place x.base, res := turned s6.place x.res } (.slice a16 x.fields.length c16) (.slice a21 x.params.length c21) := by
                  rw [← turned_keep K16 P12, ← turned_keep K26' P14, ← hD]; rfl
                rw [ec]; exact u28
theorem visit_fn {t : List Ty} {name : Bytes} {N : Nat} {h0 : Heap} {m : Nat} {vold : Value} (c : VCtx t N h0 m vold) : ∀ k, VisC t name N h0 m vold k
  | 0 => fun _ _ _ _ _ hu _ _ _ => absurd hu (Nat.not_lt_zero _)
  | k + 1 => visit_step c (visit_fn c k)
end
end Go.Proofs.Ytgnkfegkdjfnjaa
