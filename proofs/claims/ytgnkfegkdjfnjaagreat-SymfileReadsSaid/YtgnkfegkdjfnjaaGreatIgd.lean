/- Visiting the types that are needed: plain. What is trimmed is an interface again, if its own records are not too many. Plain. What is trimmed is trimmed to itself; a type more is gone. Plain. No condition but what each theorem says. -/
import Derived.Test.YtgnkfegkdjfnjaaGreatIgc
namespace Go.Proofs.YtgnkfegkdjfnjaaGreat
/-! Visiting the types that are needed: plain. No condition but what each theorem says. -/
section
open Go Go.Eng

/-- which place each type has got (0: none), and the types in their order -/
structure VS where
  place : Nat → Nat
  order : List Nat
def putP (P : Nat → Nat) (a n : Nat) : Nat → Nat := fun b => if b = a then n else P b
theorem putP_at (P : Nat → Nat) (a n : Nat) : putP P a n a = n := if_pos rfl
theorem putP_ne (P : Nat → Nat) {a b : Nat} (n : Nat) (h : b ≠ a) : putP P a n b = P b := if_neg h
def refsTy (x : Ty) : List Int := x.elem :: x.base :: (x.fields.map (·.type) ++ (x.params.map (·.type) ++ [x.res]))
def refsAt (t : List Ty) (a : Nat) : List Int := match t[a]? with
  | some x => refsTy x
  | none => []
def vfold (v : Int → VS → VS) : List Int → VS → VS
  | [], s => s
  | r :: l, s => vfold v l (v r s)
theorem vfold_append (v : Int → VS → VS) : ∀ (l m : List Int) (s : VS), vfold v (l ++ m) s = vfold v m (vfold v l s)
  | [], _, _ => rfl
  | _ :: l, m, _ => vfold_append v l m _
theorem vfold_snoc (v : Int → VS → VS) (l : List Int) (r : Int) (s : VS) : vfold v (l ++ [r]) s = v r (vfold v l s) := vfold_append v l [r] s
def enterV (s : VS) (a : Nat) : VS := ⟨putP s.place a (7 + s.order.length), s.order ++ [a]⟩
def visitF (t : List Ty) : Nat → Int → VS → VS
  | 0, _, s => s
  | k + 1, a, s => if a ≤ 6 ∨ 0 < s.place a.toNat then s else vfold (visitF t k) (refsAt t a.toNat) (enterV s a.toNat)
theorem visitF_skip {t : List Ty} {k : Nat} {a : Int} {s : VS} (h : a ≤ 6 ∨ 0 < s.place a.toNat) : visitF t (k + 1) a s = s := by rw [visitF, if_pos h]
theorem visitF_go {t : List Ty} {k : Nat} {a : Int} {s : VS} (h : ¬ (a ≤ 6 ∨ 0 < s.place a.toNat)) : visitF t (k + 1) a s = vfold (visitF t k) (refsAt t a.toNat) (enterV s a.toNat) := by rw [visitF, if_neg h]
/-- how many have no place yet -/
def unp (t : List Ty) (s : VS) : Nat := (List.range t.length).countP (fun a => decide (s.place a = 0))
theorem unp_le (t : List Ty) (s : VS) : unp t s ≤ t.length := by have := List.countP_le_length (p := fun a => decide (s.place a = 0)) (l := List.range t.length); simpa [unp] using this
theorem countP_lt {p q : Nat → Bool} {a : Nat} : ∀ {l : List Nat}, a ∈ l → (∀ x ∈ l, p x = true → q x = true) → p a = false → q a = true → l.countP p < l.countP q
  | [], h, _, _, _ => by simp at h
  | x :: l, h, hpq, hp, hq => by
    have hle : l.countP p ≤ l.countP q := List.countP_mono_left fun y hy => hpq y (List.mem_cons_of_mem _ hy)
    rw [List.countP_cons, List.countP_cons]
    rcases List.mem_cons.1 h with rfl | h
    · rw [hp, hq]; simp; omega
    · have := countP_lt h (fun y hy => hpq y (List.mem_cons_of_mem _ hy)) hp hq
      have hx := hpq x (List.mem_cons_self ..)
      cases h1 : p x
      · split <;> split <;> simp_all <;> omega
      · rw [hx h1]; simp; omega
theorem unp_enter {t : List Ty} {s : VS} {a : Nat} (ha : a < t.length) (h0 : s.place a = 0) : unp t (enterV s a) < unp t s := by
  refine countP_lt (a := a) (by simpa using ha) (fun x _ hx => ?_) (by simp [enterV, putP_at]) (by simp [h0])
  have hx : putP s.place a (7 + s.order.length) x = 0 := of_decide_eq_true hx
  refine decide_eq_true ?_
  by_cases e : x = a
  · rw [e]; exact h0
  · rwa [putP_ne _ _ e] at hx
structure VInv (t : List Ty) (s : VS) : Prop where
  nodup : s.order.Nodup
  none : ∀ a, a ∉ s.order → s.place a = 0
  at_ : ∀ j a, s.order[j]? = some a → s.place a = 7 + j
  range : ∀ a ∈ s.order, 7 ≤ a ∧ a < t.length
theorem VInv.mem {t : List Ty} {s : VS} (h : VInv t s) {a : Nat} : 0 < s.place a ↔ a ∈ s.order := by
  constructor
  · intro hp; exact Classical.byContradiction fun hn => by have := h.none a hn; omega
  · intro hm
    obtain ⟨j, hj⟩ := List.mem_iff_getElem?.1 hm
    have := h.at_ j a hj; omega
def Placed (s : VS) (r : Int) : Prop := r ≤ 6 ∨ 0 < s.place r.toNat
structure VOk (t : List Ty) (s s' : VS) : Prop where
  inv : VInv t s'
  ext : ∃ new, s'.order = s.order ++ new ∧ ∀ b ∈ new, ∀ r ∈ refsAt t b, Placed s' r
  keep : ∀ b, 0 < s.place b → s'.place b = s.place b
theorem VOk.refl {t : List Ty} {s : VS} (h : VInv t s) : VOk t s s := ⟨h, ⟨[], by simp, by simp⟩, fun _ _ => rfl⟩
theorem Placed.mono {t : List Ty} {s s' : VS} (h : VOk t s s') {r : Int} (hp : Placed s r) : Placed s' r := by
  rcases hp with hp | hp
  · exact .inl hp
  · exact .inr (by rw [h.keep _ hp]; exact hp)
theorem VOk.trans {t : List Ty} {a b c : VS} (x : VOk t a b) (y : VOk t b c) : VOk t a c := by
  obtain ⟨n1, e1, h1⟩ := x.ext
  obtain ⟨n2, e2, h2⟩ := y.ext
  refine ⟨y.inv, ⟨n1 ++ n2, by rw [e2, e1, List.append_assoc], fun d hd r hr => ?_⟩, fun d hd => ?_⟩
  · rcases List.mem_append.1 hd with hd | hd
    · exact (h1 d hd r hr).mono y
    · exact h2 d hd r hr
  · rw [y.keep d (by rw [x.keep d hd]; exact hd), x.keep d hd]
theorem VOk.unp {t : List Ty} {a b : VS} (x : VOk t a b) : unp t b ≤ unp t a := by
  refine List.countP_mono_left fun d _ hd => ?_
  simp only [decide_eq_true_eq] at hd ⊢
  rcases Nat.eq_zero_or_pos (a.place d) with e | e
  · exact e
  · rw [x.keep d e] at hd; omega
def RefsIn (t : List Ty) : Prop := ∀ a, ∀ r ∈ refsAt t a, 0 ≤ r ∧ r < t.length
theorem enter_inv {t : List Ty} {s : VS} (h : VInv t s) {a : Nat} (ha : 7 ≤ a ∧ a < t.length) (h0 : s.place a = 0) : VInv t (enterV s a) := by
  have hn : a ∉ s.order := fun e => by have := h.mem.2 e; omega
  refine ⟨?_, fun b hb => ?_, fun j b hj => ?_, fun b hb => ?_⟩
  · refine List.nodup_append.2 ⟨h.nodup, by simp, fun x hx y hy e => ?_⟩
    rw [List.mem_singleton] at hy; subst hy; subst e; exact hn hx
  · simp only [enterV, List.mem_append, List.mem_singleton, not_or] at hb ⊢
    rw [putP_ne _ _ hb.2]; exact h.none b hb.1
  · simp only [enterV] at hj ⊢
    by_cases hl : j < s.order.length
    · rw [List.getElem?_append_left hl] at hj
      have hm := List.mem_of_getElem? hj
      rw [putP_ne _ _ (fun e => by rw [e] at hm; exact hn hm)]; exact h.at_ j b hj
    · rw [List.getElem?_append_right (by omega)] at hj
      cases hk : j - s.order.length with
      | zero => rw [hk] at hj; simp at hj; subst hj; rw [putP_at]; omega
      | succ n => rw [hk] at hj; simp at hj
  · simp only [enterV, List.mem_append, List.mem_singleton] at hb
    rcases hb with hb | rfl
    · exact h.range b hb
    · exact ha
theorem vfold_ok {t : List Ty} {v : Int → VS → VS} {k : Nat} (hv : ∀ (a : Int) s, VInv t s → unp t s < k → 0 ≤ a ∧ a < t.length → VOk t s (v a s) ∧ Placed (v a s) a) :
    ∀ (l : List Int) (s : VS), VInv t s → unp t s < k → (∀ r ∈ l, 0 ≤ r ∧ r < t.length) → VOk t s (vfold v l s) ∧ ∀ r ∈ l, Placed (vfold v l s) r
  | [], s, hI, _, _ => ⟨.refl hI, by simp⟩
  | r :: l, s, hI, hu, hl => by
    obtain ⟨h1, h2⟩ := hv r s hI hu (hl r (List.mem_cons_self ..))
    obtain ⟨h3, h4⟩ := vfold_ok hv l (v r s) h1.inv (Nat.lt_of_le_of_lt h1.unp hu) (fun x hx => hl x (List.mem_cons_of_mem _ hx))
    refine ⟨h1.trans h3, fun x hx => ?_⟩
    rcases List.mem_cons.1 hx with rfl | hx
    · exact h2.mono h3
    · exact h4 x hx
theorem visitF_ok {t : List Ty} (hr : RefsIn t) : ∀ (k : Nat) (a : Int) (s : VS), VInv t s → unp t s < k → 0 ≤ a ∧ a < t.length → VOk t s (visitF t k a s) ∧ Placed (visitF t k a s) a
  | 0, _, _, _, h, _ => absurd h (Nat.not_lt_zero _)
  | k + 1, a, s, hI, hu, ha => by
    by_cases c : a ≤ 6 ∨ 0 < s.place a.toNat
    · rw [visitF_skip c]; exact ⟨.refl hI, c⟩
    · rw [visitF_go c]
      have h0 : s.place a.toNat = 0 := by omega
      have hI2 := enter_inv hI (a := a.toNat) (by omega) h0
      have hu2 := unp_enter (t := t) (s := s) (a := a.toNat) (by omega) h0
      obtain ⟨h1, h2⟩ := vfold_ok (visitF_ok hr k) (refsAt t a.toNat) (enterV s a.toNat) hI2 (by omega) (hr _)
      have hself : 0 < (enterV s a.toNat).place a.toNat := by simp [enterV, putP_at]; omega
      obtain ⟨new, e1, e2⟩ := h1.ext
      refine ⟨⟨h1.inv, ⟨a.toNat :: new, by rw [e1]; simp [enterV], fun b hb r hr => ?_⟩, fun b hb => ?_⟩, .inr (by rw [h1.keep _ hself]; exact hself)⟩
      · rcases List.mem_cons.1 hb with rfl | hb
        · exact h2 r hr
        · exact e2 b hb r hr
      · have hne : b ≠ a.toNat := fun e => by rw [e] at hb; omega
        have : (enterV s a.toNat).place b = s.place b := putP_ne _ _ hne
        rw [h1.keep b (by rw [this]; exact hb), this]
/-- more fuel changes nothing -/
theorem vfold_more {t : List Ty} {v v' : Int → VS → VS} {k : Nat} (hv : ∀ (a : Int) s, VInv t s → unp t s < k → 0 ≤ a ∧ a < t.length → v a s = v' a s ∧ VOk t s (v a s)) :
    ∀ (l : List Int) (s : VS), VInv t s → unp t s < k → (∀ r ∈ l, 0 ≤ r ∧ r < t.length) → vfold v l s = vfold v' l s
  | [], _, _, _, _ => rfl
  | r :: l, s, hI, hu, hl => by
    obtain ⟨h1, h2⟩ := hv r s hI hu (hl r (List.mem_cons_self ..))
    have := vfold_more hv l (v r s) h2.inv (Nat.lt_of_le_of_lt h2.unp hu) (fun x hx => hl x (List.mem_cons_of_mem _ hx))
    show vfold v l (v r s) = vfold v' l (v' r s)
    rw [this, h1]
theorem visitF_more {t : List Ty} (hr : RefsIn t) : ∀ (k k' : Nat) (a : Int) (s : VS), VInv t s → unp t s < k → unp t s < k' → 0 ≤ a ∧ a < t.length → visitF t k a s = visitF t k' a s
  | 0, _, _, _, _, h, _, _ => absurd h (Nat.not_lt_zero _)
  | _ + 1, 0, _, _, _, _, h, _ => absurd h (Nat.not_lt_zero _)
  | k + 1, k' + 1, a, s, hI, hu, hu', ha => by
    by_cases c : a ≤ 6 ∨ 0 < s.place a.toNat
    · rw [visitF_skip c, visitF_skip c]
    · rw [visitF_go c, visitF_go c]
      have h0 : s.place a.toNat = 0 := by omega
      have hI2 := enter_inv hI (a := a.toNat) (by omega) h0
      have hu2 := unp_enter (t := t) (s := s) (a := a.toNat) (by omega) h0
      refine vfold_more (k := min k k') (fun b s' h1 h2 h3 => ⟨visitF_more hr k k' b s' h1 (by omega) (by omega) h3, (visitF_ok hr k b s' h1 (by omega) h3).1⟩) _ _ hI2 (by omega) (hr _)

/-! ### what an interface is -/
def formAt (t : List Ty) (n : Int) : Int := ((t[n.toNat]?).map (·.form)).getD 0
def ClsP (t : List Ty) (o : Ob) : Prop :=
  (o.cls = 1 ∧ ConstP o.val ∧ o.type = o.val.form ∧ o.n = 0) ∨
  (o.cls = 2 ∧ o.n = 0 ∧ formAt t o.type ≠ 8 ∧ ((1 ≤ o.type ∧ o.type ≤ 4) ∨ o.type > 6)) ∨
  (o.cls = 3 ∧ (formAt t o.type ≠ 0 ∧ formAt t o.type ≠ 5 ∧ formAt t o.type ≠ 6 ∧ formAt t o.type ≠ 8) ∧ 0 ≤ o.n ∧ o.n < 64) ∨
  (o.cls = 4 ∧ formAt t o.type = 11 ∧ 1 ≤ o.n ∧ o.n < 64)
def ObjP (t : List Ty) (o : Ob) : Prop := WordP o.name ∧ (0 ≤ o.type ∧ o.type < t.length) ∧ (o.cls = 1 ∨ (o.val.form = 0 ∧ o.val.n = 0 ∧ o.val.text = [])) ∧ ClsP t o
def modOk (f : Face) (m : Bytes) : Prop := m = f.name ∨ m ∈ f.uses.map (·.name)
def tkey (x : Ty) : Value := .agg #[str x.mod, str x.name, .bool (decide (x.form = 9))]
def isNamed (x : Ty) : Bool := decide (x.name ≠ [])
def tkeys (l : List Ty) : List Value := (l.filter isNamed).map tkey
def UsesP (f : Face) : Prop := (f.name :: f.uses.map (·.name)).Nodup ∧ ∀ u ∈ f.uses, WordP u.name
def TypesP (f : Face) : Prop := (∀ x ∈ f.types, x.mod = [] ∨ modOk f x.mod) ∧ (tkeys f.types).Nodup
def ObjsP (f : Face) : Prop := (f.objs.map (·.name)).Nodup ∧ ∀ o ∈ f.objs, ObjP f.types o
/-- records of other modules have numbers -/
def ImpP (f : Face) : Prop := ∀ x ∈ f.types, x.form = 9 → x.mod ≠ f.name → 0 ≤ x.desc
def ShapedP (f : Face) : Prop := (WordP f.name ∧ f.uses.length ≤ 16 ∧ f.objs.length ≤ 64 ∧ TGood f.types) ∧ UsesP f ∧ TypesP f ∧ ObjsP f
/-- records have numbers, the module's own one behind the other -/
def numP (m : Bytes) : Int → List Ty → Prop
  | _, [] => True
  | n, x :: l => if x.form = 9 then (0 ≤ x.desc ∧ (x.mod = m → x.desc = n)) ∧ numP m (if x.mod = m then n + 1 else n) l else numP m n l
def FGood (f : Face) : Prop := ShapedP f ∧ numP f.name 0 f.types

/-! ### the interface with the needed types alone -/
def turned (P : Nat → Nat) (r : Int) : Int := if r ≤ 6 then r else P r.toNat
def turnTy (name : Bytes) (P : Nat → Nat) (d : Nat) (x : Ty) : Ty :=
  { x with elem := turned P x.elem, base := turned P x.base, fields := x.fields.map (fun f => { f with type := turned P f.type }), params := x.params.map (fun p => { p with type := turned P p.type }), res := turned P x.res,
           desc := if x.form = 9 ∧ x.mod = name then d else x.desc }
def tyAt (t : List Ty) (a : Nat) : Ty := t[a]?.getD ⟨0, [], [], 0, 0, 0, [], [], 0, 0⟩
def outs (t : List Ty) (name : Bytes) (P : Nat → Nat) : Nat → List Nat → List Ty
  | _, [] => []
  | d, a :: O => turnTy name P d (tyAt t a) :: outs t name P (if (tyAt t a).form = 9 ∧ (tyAt t a).mod = name then d + 1 else d) O
def owns (t : List Ty) (name : Bytes) (O : List Nat) : Nat := O.countP (fun a => decide ((tyAt t a).form = 9 ∧ (tyAt t a).mod = name))
theorem outs_append (t : List Ty) (name : Bytes) (P : Nat → Nat) : ∀ (O O' : List Nat) (d : Nat), outs t name P d (O ++ O') = outs t name P d O ++ outs t name P (d + owns t name O) O'
  | [], _, _ => by simp [outs, owns]
  | a :: O, O', d => by
    have ih := outs_append t name P O O'
    simp only [List.cons_append, outs, ih]
    congr 2
    unfold owns
    rw [List.countP_cons]
    split <;> simp [*] <;> congr 1 <;> omega
theorem outs_len (t : List Ty) (name : Bytes) (P : Nat → Nat) : ∀ (O : List Nat) (d : Nat), (outs t name P d O).length = O.length
  | [], _ => rfl
  | a :: O, d => by simp [outs, outs_len t name P O]
theorem split_at {α : Type} {O : List α} {j : Nat} {a : α} (h : O[j]? = some a) : O = O.take j ++ a :: O.drop (j + 1) := by
  have hj := (List.getElem?_eq_some_iff.1 h).1
  have := List.drop_eq_getElem_cons hj
  rw [(List.getElem?_eq_some_iff.1 h).2] at this
  rw [← this, List.take_append_drop]
theorem outs_at (t : List Ty) (name : Bytes) (P : Nat → Nat) {O : List Nat} {j a : Nat} (h : O[j]? = some a) (d : Nat) : (outs t name P d O)[j]? = some (turnTy name P (d + owns t name (O.take j)) (tyAt t a)) := by
  have hj := (List.getElem?_eq_some_iff.1 h).1
  have e := split_at h
  have hl : (outs t name P d (O.take j)).length = j := by rw [outs_len, List.length_take]; omega
  rw [show outs t name P d O = outs t name P d (O.take j ++ a :: O.drop (j + 1)) from congrArg _ e, outs_append, List.getElem?_append_right (by omega), hl, Nat.sub_self]
  rfl
def basicTy (n : Int) : Ty := ⟨n, [], [], 0, 0, 0, [], [], 0, 0⟩
def basic : List Ty := [basicTy 0, basicTy 1, basicTy 2, basicTy 3, basicTy 4, basicTy 5, basicTy 6]
def VS.none : VS := ⟨fun _ => 0, []⟩
/-- the needed types -/
def needed (f : Face) : VS := vfold (visitF f.types (f.types.length + 1)) (f.objs.map (·.type)) VS.none
def turnOb (P : Nat → Nat) (o : Ob) : Ob := { o with type := turned P o.type }
def trimF (f : Face) : Face := { f with types := basic ++ outs f.types f.name (needed f).place 0 (needed f).order, objs := f.objs.map (turnOb (needed f).place) }
theorem none_inv (t : List Ty) : VInv t VS.none := ⟨.nil, fun _ _ => rfl, fun j a h => by simp [VS.none] at h, fun a h => by simp [VS.none] at h⟩
end

/-! What is trimmed is an interface again, if its own records are not too many. Plain. No condition but what each theorem says. -/
section
open Go Go.Eng

theorem mem_refs {x : Ty} {r : Int} : r ∈ refsTy x ↔ r = x.elem ∨ r = x.base ∨ (∃ f ∈ x.fields, f.type = r) ∨ (∃ p ∈ x.params, p.type = r) ∨ r = x.res := by
  simp [refsTy]
theorem refsAt_of {t : List Ty} {a : Nat} {x : Ty} (h : t[a]? = some x) : refsAt t a = refsTy x := by simp [refsAt, h]
theorem tyAt_of {t : List Ty} {a : Nat} {x : Ty} (h : t[a]? = some x) : tyAt t a = x := by simp [tyAt, h]
theorem formOf_at {t : List Ty} {n : Int} {x : Ty} (h0 : 0 ≤ n) (h : t[n.toNat]? = some x) : formOf t n = x.form := by
  have := (List.getElem?_eq_some_iff.1 h).1
  rw [formOf, if_neg (by omega), h]; rfl
theorem formAt_eq {t : List Ty} {n : Int} (h : 0 ≤ n ∧ n < t.length) : formAt t n = formOf t n := by
  rw [formOf, if_neg (by omega)]; rfl
theorem part_ne {n : Int} (h : PartF n) : n ≠ -1 := by unfold PartF at h; omega
theorem plain_ne {n : Int} (h : PlainF n) : n ≠ -1 := by unfold PlainF at h; omega
theorem node_refs {t : List Ty} {j : Nat} {x : Ty} (h : NodeP t j x) : ∀ r ∈ refsTy x, r = 0 ∨ formOf t r ≠ -1 := by
  intro r hr
  rw [mem_refs] at hr
  rcases h with ⟨-, hb⟩ | ⟨-, hk, -⟩
  · obtain ⟨⟨⟨⟨⟨⟨-, he⟩, hba⟩, hre⟩, -⟩, hf⟩, hp⟩ := hb
    have hf : x.fields = [] := List.length_eq_zero_iff.1 (by omega)
    have hp : x.params = [] := List.length_eq_zero_iff.1 (by omega)
    rw [he, hba, hre, hf, hp] at hr
    simp at hr; exact .inl hr
  · rcases hk with ⟨-, k, b1, b2, -, b3, b4⟩ | ⟨-, k, -, b1, b2, -, b3, b4⟩ | ⟨-, k, -, b1, b2, b3⟩ | ⟨-, k, -, b1, b2, -, b3, b4⟩ | ⟨-, k, -, b1, b2, -, b3⟩
    · rw [b1, b2, b3, b4] at hr; simp at hr
      rcases hr with rfl | hr
      · exact .inr (part_ne k.2.2)
      · exact .inl hr
    · rw [b1, b2, b3, b4] at hr; simp at hr
      rcases hr with rfl | hr
      · rcases k with k | k
        · exact .inr (part_ne k)
        · exact .inr (by omega)
      · exact .inl hr
    · rw [b1, b2, b3] at hr; simp at hr
      rcases hr with hr | rfl | ⟨f, hf, rfl⟩ | hr
      · exact .inl hr
      · rcases k.1 with k | k
        · exact .inl k
        · exact .inr (by omega)
      · exact .inr (part_ne (k.2.2.2.2 f hf).2)
      · exact .inl hr
    · rw [b1, b2, b3, b4] at hr; simp at hr
      rcases hr with rfl | hr
      · exact .inr (by omega)
      · exact .inl hr
    · rw [b1, b2, b3] at hr; simp at hr
      rcases hr with hr | ⟨p, hp, rfl⟩ | rfl
      · exact .inl hr
      · rcases k.2.2 p hp with k | k
        · exact .inr (part_ne k)
        · exact .inr (by omega)
      · rcases k.2.1 with k | k
        · exact .inl k
        · exact .inr (plain_ne k)
theorem NodesP.refs {t : List Ty} (h7 : 7 ≤ t.length) (h : NodesP t) : RefsIn t := by
  intro a r hr
  unfold refsAt at hr
  split at hr
  · rename_i x hx
    rcases node_refs (h a x hx) r hr with e | e
    · omega
    · exact formOf_in e
  · cases hr

theorem filt_nodup {α β : Type} {p : α → Bool} {g : α → β} {l : List α} : ((l.filter p).map g).Nodup ↔ ∀ (i j : Nat) x y, i < j → l[i]? = some x → l[j]? = some y → p x = true → p y = true → g x ≠ g y := by
  rw [List.Nodup, List.pairwise_map, List.pairwise_filter, List.pairwise_iff_getElem]
  constructor
  · intro h i j x y hij hx hy
    obtain ⟨hi, rfl⟩ := List.getElem?_eq_some_iff.1 hx
    obtain ⟨hj, rfl⟩ := List.getElem?_eq_some_iff.1 hy
    exact h i j hi hj hij
  · intro h i j hi hj hij
    exact h i j _ _ hij (List.getElem?_eq_getElem hi) (List.getElem?_eq_getElem hj)
theorem filt_ne {α β : Type} {p : α → Bool} {g : α → β} {l : List α} (h : ((l.filter p).map g).Nodup) {i j : Nat} {x y : α} (hij : i ≠ j) (hx : l[i]? = some x) (hy : l[j]? = some y) (px : p x = true) (py : p y = true) : g x ≠ g y := by
  rcases Nat.lt_or_gt_of_ne hij with e | e
  · exact filt_nodup.1 h i j x y e hx hy px py
  · exact fun he => filt_nodup.1 h j i y x e hy hx py px he.symm
theorem recK_eq {x y : Ty} : recK x = recK y ↔ x.mod = y.mod ∧ x.desc = y.desc := by
  unfold recK
  constructor
  · intro h
    injection h with h
    have h := congrArg Array.toList h
    simp only [List.cons.injEq, and_true] at h
    refine ⟨str_inj h.1, ?_⟩
    have h2 := h.2
    injection h2
  · intro ⟨h1, h2⟩; rw [h1, h2]
theorem tkey_eq {x y : Ty} : tkey x = tkey y ↔ x.mod = y.mod ∧ x.name = y.name ∧ (x.form = 9 ↔ y.form = 9) := by
  unfold tkey
  constructor
  · intro h
    injection h with h
    have h := congrArg Array.toList h
    simp only [List.cons.injEq, and_true] at h
    refine ⟨str_inj h.1, str_inj h.2.1, ?_⟩
    have h2 := h.2.2
    injection h2 with h2
    exact decide_eq_decide.1 h2
  · intro ⟨h1, h2, h3⟩
    rw [h1, h2, decide_eq_decide.2 h3]

/-- needed types of a table: all that they name is among them -/
structure Trims (t : List Ty) (S : VS) : Prop where
  len : 7 ≤ t.length
  nodes : NodesP t
  inv : VInv t S
  closed : ∀ a ∈ S.order, ∀ r ∈ refsAt t a, Placed S r
def newT (t : List Ty) (name : Bytes) (S : VS) : List Ty := basic ++ outs t name S.place 0 S.order
theorem newT_len (t : List Ty) (name : Bytes) (S : VS) : (newT t name S).length = 7 + S.order.length := by
  simp [newT, outs_len, basic]; omega
theorem basic_at {j : Nat} (h : j ≤ 6) : basic[j]? = some (basicTy j) := by
  match j, h with
  | 0, _ => rfl
  | 1, _ => rfl
  | 2, _ => rfl
  | 3, _ => rfl
  | 4, _ => rfl
  | 5, _ => rfl
  | 6, _ => rfl
theorem new_lo (t : List Ty) (name : Bytes) (S : VS) {j : Nat} (h : j ≤ 6) : (newT t name S)[j]? = some (basicTy j) := by
  unfold newT
  rw [List.getElem?_append_left (by simp [basic]; omega)]; exact basic_at h
theorem new_hi (t : List Ty) (name : Bytes) (S : VS) {j a : Nat} (h : S.order[j]? = some a) : (newT t name S)[7 + j]? = some (turnTy name S.place (owns t name (S.order.take j)) (tyAt t a)) := by
  unfold newT
  rw [List.getElem?_append_right (by simp [basic]), show 7 + j - basic.length = j by simp [basic], outs_at t name S.place h, Nat.zero_add]
theorem new_cases {t : List Ty} {name : Bytes} {S : VS} (hT : Trims t S) {i : Nat} {x' : Ty} (h : (newT t name S)[i]? = some x') :
    (i ≤ 6 ∧ x' = basicTy i) ∨ ∃ j a x, i = 7 + j ∧ S.order[j]? = some a ∧ t[a]? = some x ∧ x' = turnTy name S.place (owns t name (S.order.take j)) x := by
  by_cases hi : i ≤ 6
  · rw [new_lo t name S hi] at h; cases h; exact .inl ⟨hi, rfl⟩
  · have hl := (List.getElem?_eq_some_iff.1 h).1
    rw [newT_len] at hl
    have hj : i - 7 < S.order.length := by omega
    have ho := List.getElem?_eq_getElem hj
    have hr := hT.inv.range _ (List.getElem_mem hj)
    have hx : t[S.order[i - 7]]? = some (t[S.order[i - 7]]'hr.2) := List.getElem?_eq_getElem hr.2
    have := new_hi t name S ho
    rw [show 7 + (i - 7) = i by omega, h, tyAt_of hx] at this
    exact .inr ⟨i - 7, _, _, by omega, ho, hx, by simpa using this⟩
theorem bare_at {t : List Ty} {S : VS} (hT : Trims t S) {j : Nat} {x : Ty} (hj : j ≤ 6) (h : t[j]? = some x) : BareP x j := by
  rcases hT.nodes j x h with ⟨-, hb⟩ | ⟨e, -⟩
  · exact hb
  · omega
theorem kind_at {t : List Ty} {S : VS} (hT : Trims t S) {j : Nat} {x : Ty} (hj : 7 ≤ j) (h : t[j]? = some x) : FormedP t x := by
  rcases hT.nodes j x h with ⟨e, -⟩ | ⟨-, hb⟩
  · omega
  · exact hb
theorem place_at {t : List Ty} {S : VS} (hT : Trims t S) {r : Int} (hr : ¬ r ≤ 6) (hp : Placed S r) : ∃ j : Nat, S.order[j]? = some r.toNat ∧ S.place r.toNat = 7 + j := by
  have hm := hT.inv.mem.1 (hp.resolve_left hr)
  obtain ⟨j, hj⟩ := List.mem_iff_getElem?.1 hm
  exact ⟨j, hj, hT.inv.at_ j _ hj⟩
theorem turned_zero {t : List Ty} {S : VS} (hT : Trims t S) {r : Int} (hp : Placed S r) : turned S.place r = 0 ↔ r = 0 := by
  unfold turned
  split
  · exact Iff.rfl
  · rename_i hr
    obtain ⟨j, -, h⟩ := place_at hT hr hp
    rw [h]; omega
theorem turned_lt {t : List Ty} {name : Bytes} {S : VS} (hT : Trims t S) {r : Int} (h0 : 0 ≤ r) (hp : Placed S r) : 0 ≤ turned S.place r ∧ turned S.place r < (newT t name S).length := by
  rw [newT_len]
  unfold turned
  split
  · omega
  · rename_i hr
    obtain ⟨j, hj, h⟩ := place_at hT hr hp
    have := (List.getElem?_eq_some_iff.1 hj).1
    rw [h]; omega
theorem new_at {t : List Ty} {name : Bytes} {S : VS} (hT : Trims t S) {r : Int} (h0 : 0 ≤ r ∧ r < t.length) (hp : Placed S r) : ∃ x x', t[r.toNat]? = some x ∧ (newT t name S)[(turned S.place r).toNat]? = some x' ∧
    ((r ≤ 6 ∧ BareP x r ∧ x' = basicTy r) ∨ (¬ r ≤ 6 ∧ r.toNat ∈ S.order ∧ ∃ d, x' = turnTy name S.place d x)) := by
  have hx : t[r.toNat]? = some (t[r.toNat]'(by omega)) := List.getElem?_eq_getElem _
  by_cases hr : r ≤ 6
  · refine ⟨_, basicTy r, hx, ?_, .inl ⟨hr, ?_, rfl⟩⟩
    · have := new_lo t name S (j := r.toNat) (by omega)
      rw [turned, if_pos hr, this, Int.toNat_of_nonneg h0.1]
    · have := bare_at hT (by omega) hx
      rwa [Int.toNat_of_nonneg h0.1] at this
  · obtain ⟨j, hj, h⟩ := place_at hT hr hp
    refine ⟨_, turnTy name S.place (owns t name (S.order.take j)) (t[r.toNat]'(by omega)), hx, ?_, .inr ⟨hr, List.mem_of_getElem? hj, _, rfl⟩⟩
    have := new_hi t name S hj
    rw [tyAt_of hx] at this
    rw [turned, if_neg hr, h, Int.toNat_natCast]; exact this
theorem bare_form {x : Ty} {n : Int} (h : BareP x n) : x.form = n := h.1.1.1.1.1.1.1.1.1
theorem new_form {t : List Ty} {name : Bytes} {S : VS} (hT : Trims t S) {r : Int} (h0 : 0 ≤ r ∧ r < t.length) (hp : Placed S r) : formOf (newT t name S) (turned S.place r) = formOf t r := by
  obtain ⟨x, x', h1, h2, h3⟩ := new_at (name := name) hT h0 hp
  rw [formOf_at h0.1 h1, formOf_at (turned_lt (name := name) hT h0.1 hp).1 h2]
  rcases h3 with ⟨-, hb, rfl⟩ | ⟨-, -, d, rfl⟩
  · exact (bare_form hb).symm
  · rfl
theorem kind_new {t : List Ty} {name : Bytes} {S : VS} (hT : Trims t S) {x : Ty} (hk : KindP t x) (hr : ∀ r ∈ refsTy x, (0 ≤ r ∧ r < t.length) ∧ Placed S r) {d : Nat} (hd : x.form = 9 → x.mod = name → d < 64) :
    KindP (newT t name S) (turnTy name S.place d x) := by
  have hE := hr x.elem (mem_refs.2 (.inl rfl))
  have hB := hr x.base (mem_refs.2 (.inr (.inl rfl)))
  have hR := hr x.res (mem_refs.2 (.inr (.inr (.inr (.inr rfl)))))
  have hF := fun f hf => hr (Fld.type f) (mem_refs.2 (.inr (.inr (.inl ⟨f, hf, rfl⟩))))
  have hP := fun p hp => hr (Par.type p) (mem_refs.2 (.inr (.inr (.inr (.inl ⟨p, hp, rfl⟩)))))
  have zE := turned_zero hT hE.2
  have zB := turned_zero hT hB.2
  have zR := turned_zero hT hR.2
  have fE := new_form (name := name) hT hE.1 hE.2
  have fB := new_form (name := name) hT hB.1 hB.2
  have fR := new_form (name := name) hT hR.1 hR.2
  unfold KindP at hk ⊢
  simp only [turnTy, fE, fB, fR, zE, zB, zR, List.map_eq_nil_iff, List.length_map]
  rcases hk with ⟨h9, k⟩ | ⟨h9, k⟩ | ⟨h9, k⟩ | ⟨h9, k⟩ | ⟨h9, k⟩
  · exact .inl ⟨h9, by rw [if_neg (by omega)]; exact k⟩
  · exact .inr (.inl ⟨h9, by rw [if_neg (by omega)]; exact k⟩)
  · obtain ⟨⟨k1, k2, k3, k4, k5⟩, k6⟩ := k
    refine .inr (.inr (.inl ⟨h9, ⟨k1, k2, ?_, ?_, ?_⟩, k6⟩))
    · split <;> omega
    · split
      · rename_i c; have := hd c.1 c.2; omega
      · exact k4
    · intro f hf
      obtain ⟨g, hg, rfl⟩ := List.mem_map.1 hf
      have := k5 g hg
      exact ⟨this.1, by simp only; rw [new_form (name := name) hT (hF g hg).1 (hF g hg).2]; exact this.2⟩
  · exact .inr (.inr (.inr (.inl ⟨h9, by rw [if_neg (by omega)]; exact k⟩)))
  · obtain ⟨⟨k1, k2, k3⟩, k6⟩ := k
    refine .inr (.inr (.inr (.inr ⟨h9, ⟨k1, k2, ?_⟩, by rw [if_neg (by omega)]; exact k6⟩)))
    intro f hf
    obtain ⟨g, hg, rfl⟩ := List.mem_map.1 hf
    have := k3 g hg
    unfold ParOk at this ⊢
    simp only
    rw [new_form (name := name) hT (hP g hg).1 (hP g hg).2]; exact this
theorem order_refs {t : List Ty} {S : VS} (hT : Trims t S) {a : Nat} {x : Ty} (ha : a ∈ S.order) (hx : t[a]? = some x) : ∀ r ∈ refsTy x, (0 ≤ r ∧ r < t.length) ∧ Placed S r := by
  intro r hr
  have hr' : r ∈ refsAt t a := by rw [refsAt_of hx]; exact hr
  exact ⟨hT.nodes.refs hT.len a r hr', hT.closed a ha r hr'⟩
theorem nodes_new {t : List Ty} {name : Bytes} {S : VS} (hT : Trims t S) (h64 : owns t name S.order ≤ 64) : NodesP (newT t name S) := by
  intro i x' hi
  rcases new_cases hT hi with ⟨hi6, rfl⟩ | ⟨j, a, x, rfl, hj, hx, rfl⟩
  · exact .inl ⟨by omega, by simp [BareP, basicTy]⟩
  · refine .inr ⟨by omega, ?_⟩
    have ha := List.mem_of_getElem? hj
    have hf := kind_at hT (hT.inv.range a ha).1 hx
    refine ⟨kind_new hT hf.1 (order_refs hT ha hx) (fun h9 hm => ?_), hf.2⟩
    have e := split_at hj
    have h2 : owns t name S.order = owns t name (S.order.take j ++ a :: S.order.drop (j + 1)) := congrArg _ e
    unfold owns at h2 h64 ⊢
    rw [List.countP_append, List.countP_cons, if_pos (by rw [tyAt_of hx]; simp [h9, hm])] at h2
    omega
theorem edges_of {t : List Ty} {a : Nat} {x : Ty} (h : t[a]? = some x) : edges t a = if x.form = 7 ∨ x.form = 8 then [x.elem] else if x.form = 9 then x.base :: x.fields.map (·.type) else [] := by rw [edges, h]
theorem edges_refs {t : List Ty} {a : Nat} {e : Int} (h : e ∈ edges t a) : e ∈ refsAt t a := by
  unfold edges at h
  split at h
  · rename_i x hx
    rw [refsAt_of hx, mem_refs]
    split at h
    · simp at h; exact .inl h
    · split at h
      · simp at h
        rcases h with h | ⟨f, hf, h⟩
        · exact .inr (.inl h)
        · exact .inr (.inr (.inl ⟨f, hf, h⟩))
      · cases h
  · cases h
theorem edges_new {t : List Ty} {name : Bytes} {S : VS} (hT : Trims t S) {r : Int} (h0 : 0 ≤ r ∧ r < t.length) (hp : Placed S r) : edges (newT t name S) (turned S.place r).toNat = (edges t r.toNat).map (turned S.place) := by
  obtain ⟨x, x', h1, h2, h3⟩ := new_at (name := name) hT h0 hp
  rw [edges_of h1, edges_of h2]
  rcases h3 with ⟨hr, hb, rfl⟩ | ⟨-, -, d, rfl⟩
  · rw [bare_form hb]
    show (if r = 7 ∨ r = 8 then _ else if r = 9 then _ else _) = _
    rw [if_neg (by omega), if_neg (by omega), if_neg (by omega), if_neg (by omega)]; rfl
  · show (if x.form = 7 ∨ x.form = 8 then [turned S.place x.elem] else if x.form = 9 then turned S.place x.base :: (x.fields.map (fun f : Fld => { f with type := turned S.place f.type })).map (·.type) else []) = _
    by_cases c1 : x.form = 7 ∨ x.form = 8
    · rw [if_pos c1, if_pos c1]; rfl
    · rw [if_neg c1, if_neg c1]
      by_cases c2 : x.form = 9
      · rw [if_pos c2, if_pos c2]; simp
      · rw [if_neg c2, if_neg c2]; rfl
theorem lo_edges {t : List Ty} {S : VS} (hT : Trims t S) {r : Nat} (hr : r ≤ 6) : edges t r = [] := by
  have hl := hT.len
  have hx : t[r]? = some (t[r]'(by omega)) := List.getElem?_eq_getElem _
  have hb := bare_form (bare_at hT hr hx)
  rw [edges_of hx, if_neg (by omega), if_neg (by omega)]
theorem ends_new {t : List Ty} {name : Bytes} {S : VS} (hT : Trims t S) {a : Nat} (h : Ends (edges t) a) : a < t.length → Placed S a → Ends (edges (newT t name S)) (turned S.place a).toNat := by
  induction h with
  | @mk a _ ih =>
    intro hl hp
    refine .mk fun e he => ?_
    rw [edges_new hT ⟨by omega, by omega⟩ hp, Int.toNat_natCast] at he
    obtain ⟨e0, he0, rfl⟩ := List.mem_map.1 he
    have hin := hT.nodes.refs hT.len a e0 (edges_refs he0)
    have hpl : Placed S e0 := by
      by_cases h6 : a ≤ 6
      · rw [lo_edges hT h6] at he0; cases he0
      · refine hT.closed a ?_ e0 (edges_refs he0)
        have := hT.inv.mem.1 (hp.resolve_left (by omega))
        simpa using this
    have e2 : ((e0.toNat : Nat) : Int) = e0 := Int.toNat_of_nonneg hin.1
    have := ih e0 he0 (by omega) (by rw [e2]; exact hpl)
    rwa [e2] at this
theorem owns_take_lt {t : List Ty} {name : Bytes} {O : List Nat} {i j a : Nat} (hij : i < j) (h : O[i]? = some a) (ho : (tyAt t a).form = 9 ∧ (tyAt t a).mod = name) : owns t name (O.take i) < owns t name (O.take j) := by
  have h1 : O.take (i + 1) = O.take i ++ [a] := by rw [List.take_add_one, h]; rfl
  have h2 : owns t name (O.take (i + 1)) = owns t name (O.take i) + 1 := by
    unfold owns; rw [h1, List.countP_append, List.countP_cons, if_pos (by simpa using ho)]; rfl
  have h3 : O.take j = O.take (i + 1) ++ (O.take j).drop (i + 1) := by
    conv => lhs; rw [← List.take_append_drop (i + 1) (O.take j)]
    rw [List.take_take, Nat.min_eq_left (by omega)]
  have h4 : owns t name (O.take (i + 1)) ≤ owns t name (O.take j) := by
    rw [h3]; unfold owns; rw [List.countP_append]; omega
  omega
theorem order_ne {t : List Ty} {S : VS} (hT : Trims t S) {i j a b : Nat} (hij : i ≠ j) (hi : S.order[i]? = some a) (hj : S.order[j]? = some b) : a ≠ b := by
  intro e; subst e
  exact hij ((List.getElem?_inj (List.getElem?_eq_some_iff.1 hi).1 hT.inv.nodup).1 (hi.trans hj.symm))
theorem recs_new {t : List Ty} {name : Bytes} {S : VS} (hT : Trims t S) (hn : (recs t).Nodup) : (recs (newT t name S)).Nodup := by
  refine filt_nodup.2 fun i j x' y' hij hx' hy' px py he => ?_
  have nb : ∀ n : Nat, n ≤ 6 → isRec (basicTy n) = false := fun n hn => by
    have : ¬ ((n : Int) = 9) := by omega
    simp [isRec, basicTy, this]
  rcases new_cases hT hx' with ⟨h6, rfl⟩ | ⟨i', a, x, rfl, hi, hx, rfl⟩
  · rw [nb _ h6] at px; cases px
  rcases new_cases hT hy' with ⟨h6, rfl⟩ | ⟨j', b, y, rfl, hj, hy, rfl⟩
  · rw [nb _ h6] at py; cases py
  have px := of_decide_eq_true px
  have py := of_decide_eq_true py
  rw [recK_eq] at he
  simp only [turnTy] at px py he
  by_cases hm : x.mod = name
  · have hm' : y.mod = name := he.1 ▸ hm
    rw [if_pos ⟨px.1, hm⟩, if_pos ⟨py.1, hm'⟩] at he
    have := owns_take_lt (t := t) (name := name) (O := S.order) (i := i') (j := j') (by omega) hi (by rw [tyAt_of hx]; exact ⟨px.1, hm⟩)
    omega
  · have hm' : ¬ y.mod = name := he.1 ▸ hm
    rw [if_neg (fun e => hm e.2)] at he px
    rw [if_neg (fun e => hm' e.2)] at he py
    exact filt_ne hn (order_ne hT (by omega) hi hj) hx hy (decide_eq_true px) (decide_eq_true py) (recK_eq.2 he)
theorem chain_new {t : List Ty} {name : Bytes} {S : VS} (hT : Trims t S) : ∀ (k : Nat) (a : Nat) (x : Ty) (d : Nat), a ∈ S.order → t[a]? = some x → x.form = 9 → chainN (newT t name S) k (turnTy name S.place d x) = chainN t k x
  | 0, _, _, _, _, _, _ => rfl
  | k + 1, a, x, d, ha, hx, h9 => by
    have hrf := order_refs hT ha hx
    have hB := hrf x.base (mem_refs.2 (.inr (.inl rfl)))
    have zB := turned_zero hT hB.2
    have hfn : (x.fields.map (fun f : Fld => { f with type := turned S.place f.type })).map (·.name) = x.fields.map (·.name) := by simp
    unfold chainN
    simp only [turnTy, hfn]
    by_cases hb : x.base = 0
    · rw [if_pos hb, if_pos (zB.2 hb)]
    · rw [if_neg hb, if_neg (fun e => hb (zB.1 e))]
      have hk := (kind_at hT (hT.inv.range a ha).1 hx).1
      have hb9 : formOf t x.base = 9 := by
        rcases hk with ⟨h, -⟩ | ⟨h, -⟩ | ⟨h, k, -⟩ | ⟨h, -⟩ | ⟨h, -⟩ <;> omega
      obtain ⟨y, y', h1, h2, h3⟩ := new_at (name := name) hT hB.1 hB.2
      have hy9 : y.form = 9 := by rw [← hb9, formOf_at hB.1.1 h1]
      rw [h1, h2]
      rcases h3 with ⟨h6, hbr, -⟩ | ⟨-, hm, d', rfl⟩
      · have := bare_form hbr; omega
      · simp only
        rw [chain_new hT k _ y d' hm h1 hy9]
theorem field_new {t : List Ty} {name : Bytes} {S : VS} (hT : Trims t S) (hf : ∀ x ∈ t, x.form = 9 → FieldP t x) : ∀ x ∈ newT t name S, x.form = 9 → FieldP (newT t name S) x := by
  intro x' hx' h9
  obtain ⟨i, hi⟩ := List.mem_iff_getElem?.1 hx'
  rcases new_cases hT hi with ⟨h6, rfl⟩ | ⟨j, a, x, rfl, hj, hx, rfl⟩
  · simp only [basicTy] at h9; omega
  · have h9 : x.form = 9 := h9
    unfold FieldP
    rw [chain_new hT 5 a x _ (List.mem_of_getElem? hj) hx h9]
    exact hf x (List.mem_of_getElem? hx) h9
theorem order_le {t : List Ty} {S : VS} (hT : Trims t S) : 7 + S.order.length ≤ t.length := by
  have hs : S.order ⊆ (List.range t.length).drop 7 := by
    intro a ha
    have := hT.inv.range a ha
    rw [List.mem_iff_getElem?]
    exact ⟨a - 7, by rw [List.getElem?_drop, List.getElem?_range (by omega)]; congr 1; omega⟩
  have h := hT.inv.nodup.length_le_of_subset hs
  simp at h
  have := hT.len
  omega
theorem tgood_new {t : List Ty} {name : Bytes} {S : VS} (hT : Trims t S) (hg : TGood t) (h64 : owns t name S.order ≤ 64) : TGood (newT t name S) := by
  obtain ⟨hl, -, he, hr, hf⟩ := hg
  have ho := order_le hT
  refine ⟨by rw [newT_len]; omega, nodes_new hT h64, fun i hi => ?_, recs_new hT hr, field_new hT hf⟩
  have hx : (newT t name S)[i]? = some (newT t name S)[i] := List.getElem?_eq_getElem hi
  rcases new_cases hT hx with ⟨h6, -⟩ | ⟨j, a, x, rfl, hj, hx, -⟩
  · have := ends_new (name := name) hT (he i (by omega)) (by omega) (.inl (by omega))
    rwa [turned, if_pos (by omega), Int.toNat_natCast] at this
  · have hm := List.mem_of_getElem? hj
    have hrg := hT.inv.range a hm
    have hpl := hT.inv.at_ j a hj
    have := ends_new (name := name) hT (he a hrg.2) hrg.2 (.inr (by rw [Int.toNat_natCast]; omega))
    rwa [turned, if_neg (by omega), Int.toNat_natCast, Int.toNat_natCast, hpl] at this
theorem last_of {p : Nat → Bool} : ∀ {l : List Nat}, 0 < l.countP p → ∃ (j : Nat) (a : Nat), l[j]? = some a ∧ p a = true ∧ (l.take j).countP p + 1 = l.countP p
  | [], h => by simp at h
  | x :: l, h => by
    by_cases h2 : 0 < l.countP p
    · obtain ⟨j, a, h3, h4, h5⟩ := last_of h2
      exact ⟨j + 1, a, by simpa using h3, h4, by simp only [List.take_succ_cons, List.countP_cons]; omega⟩
    · rw [List.countP_cons] at h
      have hp : p x = true := by
        cases e : p x with
        | true => rfl
        | false => rw [e] at h; exact absurd (Nat.lt_of_lt_of_le h (Nat.le_of_eq (by simp))) h2
      exact ⟨0, x, rfl, hp, by rw [List.countP_cons_of_pos hp, List.take_zero, List.countP_nil]; omega⟩
theorem owns_of_good {t : List Ty} {name : Bytes} {S : VS} (hT : Trims t S) (hn : NodesP (newT t name S)) : owns t name S.order ≤ 64 := by
  rcases Nat.eq_zero_or_pos (owns t name S.order) with e | e
  · omega
  obtain ⟨j, a, h1, h2, h3⟩ := last_of e
  have h2 := of_decide_eq_true h2
  have hm := List.mem_of_getElem? h1
  have hx : t[a]? = some (t[a]'(hT.inv.range a hm).2) := List.getElem?_eq_getElem _
  have hi := new_hi t name S h1
  rw [tyAt_of hx] at hi h2
  generalize t[a]'(hT.inv.range a hm).2 = x at *
  rcases hn _ _ hi with ⟨h6, -⟩ | ⟨-, hk, -⟩
  · omega
  · unfold KindP at hk
    simp only [turnTy] at hk
    have h9 := h2.1
    rcases hk with ⟨h, -⟩ | ⟨h, -⟩ | ⟨h, k, -⟩ | ⟨h, -⟩ | ⟨h, -⟩ <;> first | omega | skip
    have k4 := k.2.2.2.1
    rw [if_pos h2] at k4
    unfold owns at k4 ⊢
    omega
theorem num_basic (m : Bytes) (n : Int) (l : List Ty) : numP m n (basic ++ l) ↔ numP m n l := by
  simp [basic, basicTy, numP]
theorem num_outs (t : List Ty) (name : Bytes) (P : Nat → Nat) : ∀ (O : List Nat) (d : Nat), (∀ a ∈ O, (tyAt t a).form = 9 → (tyAt t a).mod ≠ name → 0 ≤ (tyAt t a).desc) → numP name d (outs t name P d O)
  | [], _, _ => trivial
  | a :: O, d, h => by
    have ih := fun e => num_outs t name P O e (fun b hb => h b (List.mem_cons_of_mem _ hb))
    have ha := h a (List.mem_cons_self ..)
    unfold outs numP
    by_cases h9 : (tyAt t a).form = 9
    · by_cases hm : (tyAt t a).mod = name
      · simp only [turnTy, h9, hm, and_self, if_true]
        refine ⟨⟨by omega, by simp⟩, ?_⟩
        have := ih (d + 1)
        rwa [Int.natCast_succ] at this
      · simp only [turnTy, h9, hm, and_false, if_false, if_true, false_implies, and_true]
        exact ⟨ha h9 hm, ih d⟩
    · simp only [turnTy, h9, false_and, if_false]
      exact ih d
theorem types_new {f : Face} {S : VS} (hT : Trims f.types S) (h : TypesP f) : (∀ x ∈ newT f.types f.name S, x.mod = [] ∨ modOk f x.mod) ∧ (tkeys (newT f.types f.name S)).Nodup := by
  constructor
  · intro x' hx'
    obtain ⟨i, hi⟩ := List.mem_iff_getElem?.1 hx'
    rcases new_cases hT hi with ⟨h6, rfl⟩ | ⟨j, a, x, rfl, hj, hx, rfl⟩
    · exact .inl rfl
    · exact h.1 x (List.mem_of_getElem? hx)
  · refine filt_nodup.2 fun i j x' y' hij hx' hy' px py he => ?_
    rcases new_cases hT hx' with ⟨h6, rfl⟩ | ⟨i', a, x, rfl, hi, hx, rfl⟩
    · simp [isNamed, basicTy] at px
    rcases new_cases hT hy' with ⟨h6, rfl⟩ | ⟨j', b, y, rfl, hj, hy, rfl⟩
    · simp [isNamed, basicTy] at py
    exact filt_ne h.2 (order_ne hT (by omega) hi hj) hx hy px py (tkey_eq.2 (tkey_eq.1 he))
theorem needed_ok {f : Face} (hs : ShapedP f) : Trims f.types (needed f) ∧ ∀ o ∈ f.objs, Placed (needed f) o.type := by
  have h7 := hs.1.2.2.2.1.1
  have hn := hs.1.2.2.2.2.1
  have hr := hn.refs h7
  obtain ⟨h1, h2⟩ := vfold_ok (k := f.types.length + 1) (fun a s h1 h2 h3 => visitF_ok hr _ a s h1 h2 h3) (f.objs.map (·.type)) VS.none (none_inv _) (by have := unp_le f.types VS.none; omega)
    (fun r hr => by obtain ⟨o, ho, rfl⟩ := List.mem_map.1 hr; exact (hs.2.2.2.2 o ho).2.1)
  obtain ⟨new, e1, e2⟩ := h1.ext
  exact ⟨⟨h7, hn, h1.inv, fun a ha => e2 a (by
    have e3 : (needed f).order = new := e1.trans (List.nil_append _)
    rw [e3] at ha; exact ha)⟩, fun o ho => h2 _ (List.mem_map.2 ⟨o, ho, rfl⟩)⟩
theorem obj_new {t : List Ty} {name : Bytes} {S : VS} (hT : Trims t S) {o : Ob} (h : ObjP t o) (hp : Placed S o.type) : ObjP (newT t name S) (turnOb S.place o) := by
  obtain ⟨h1, h2, h3, h4⟩ := h
  have hl := turned_lt (name := name) hT h2.1 hp
  have hfa : formAt (newT t name S) (turned S.place o.type) = formAt t o.type := by rw [formAt_eq hl, formAt_eq h2, new_form hT h2 hp]
  have hz : (o.type ≤ 6 → turned S.place o.type = o.type) ∧ (¬ o.type ≤ 6 → 7 ≤ turned S.place o.type) := by
    refine ⟨fun e => if_pos e, fun e => ?_⟩
    obtain ⟨j, -, hj⟩ := place_at hT e hp
    rw [turned, if_neg e, hj]; omega
  refine ⟨h1, hl, h3, ?_⟩
  unfold ClsP at h4 ⊢
  simp only [turnOb]
  rw [hfa]
  rcases h4 with ⟨c, k1, k2, k3⟩ | ⟨c, k1, k2, k3⟩ | h4 | h4
  · refine .inl ⟨c, k1, ?_, k3⟩
    have hf : o.val.form ≤ 6 := by
      rcases k1 with ⟨e, -⟩ | ⟨-, e⟩
      · omega
      · unfold NumP at e; omega
    rw [hz.1 (by omega)]; exact k2
  · refine .inr (.inl ⟨c, k1, k2, ?_⟩)
    by_cases e : o.type ≤ 6
    · rw [hz.1 e]; exact k3
    · have := hz.2 e; omega
  · exact .inr (.inr (.inl h4))
  · exact .inr (.inr (.inr h4))
theorem trimF_types (f : Face) : (trimF f).types = newT f.types f.name (needed f) := rfl
theorem trim_good {f : Face} (hs : ShapedP f) (hi : ImpP f) : FGood (trimF f) ↔ owns f.types f.name (needed f).order ≤ 64 := by
  obtain ⟨hT, hO⟩ := needed_ok hs
  constructor
  · intro hg
    exact owns_of_good hT (hg.1.1.2.2.2.2.1)
  · intro h64
    obtain ⟨⟨s1, s2, s3, s4⟩, s5, s6, s7⟩ := hs
    refine ⟨⟨⟨s1, s2, by simpa [trimF] using s3, tgood_new hT s4 h64⟩, s5, types_new hT s6, ?_, ?_⟩, ?_⟩
    · have : (f.objs.map (turnOb (needed f).place)).map (·.name) = f.objs.map (·.name) := by simp [turnOb]
      show ((f.objs.map (turnOb (needed f).place)).map (·.name)).Nodup
      rw [this]; exact s7.1
    · intro o' ho'
      obtain ⟨o, ho, rfl⟩ := List.mem_map.1 ho'
      exact obj_new hT (s7.2 o ho) (hO o ho)
    · show numP f.name 0 (basic ++ _)
      rw [num_basic]
      refine num_outs _ _ _ _ 0 (fun a ha h9 hm => ?_)
      have hx : f.types[a]? = some (f.types[a]'(hT.inv.range a ha).2) := List.getElem?_eq_getElem _
      rw [tyAt_of hx] at h9 hm ⊢
      exact hi _ (List.getElem_mem _) h9 hm
end

/-! What is trimmed is trimmed to itself; a type more is gone. Plain. No condition but what each theorem says. -/
section
open Go Go.Eng

def idS (k : Nat) : VS := ⟨fun b => if 7 ≤ b ∧ b < 7 + k then b else 0, (List.range k).map (7 + ·)⟩
theorem idS_zero : idS 0 = VS.none := by
  unfold idS VS.none
  congr 1
  funext b
  exact if_neg (by omega)
theorem idS_len (k : Nat) : (idS k).order.length = k := by simp [idS]
theorem idS_enter (k : Nat) : enterV (idS k) (7 + k) = idS (k + 1) := by
  unfold enterV
  rw [idS_len]
  unfold idS
  congr 1
  · funext b
    simp only [putP]
    split
    · rename_i e; rw [if_pos (by omega), e]
    · rename_i e
      by_cases h : 7 ≤ b ∧ b < 7 + k
      · rw [if_pos h, if_pos (by omega)]
      · rw [if_neg h, if_neg (by omega)]
  · rw [List.range_succ, List.map_append]; rfl
theorem prefix_at {t : List Ty} {S s : VS} (hS : VInv t S) (hs : VInv t s) (hp : s.order <+: S.order) {a : Nat} (h : 0 < s.place a) : S.place a = s.place a ∧ s.place a < 7 + s.order.length := by
  obtain ⟨j, hj⟩ := List.mem_iff_getElem?.1 (hs.mem.1 h)
  have hl := (List.getElem?_eq_some_iff.1 hj).1
  obtain ⟨r, hr⟩ := hp
  have hj2 : S.order[j]? = some a := by rw [← hr, List.getElem?_append_left hl]; exact hj
  rw [hs.at_ j a hj, hS.at_ j a hj2]; omega
theorem refs_new {t : List Ty} {name : Bytes} {S : VS} (hT : Trims t S) {a : Nat} (ha : a ∈ S.order) : refsAt (newT t name S) (S.place a) = (refsAt t a).map (turned S.place) := by
  have hrg := hT.inv.range a ha
  obtain ⟨j, hj⟩ := List.mem_iff_getElem?.1 ha
  have hx : t[a]? = some (t[a]'hrg.2) := List.getElem?_eq_getElem _
  have hi := new_hi t name S hj
  rw [tyAt_of hx] at hi
  rw [hT.inv.at_ j a hj, refsAt_of hi, refsAt_of hx]
  simp [refsTy, turnTy, Function.comp_def]
theorem vfold_vok {t : List Ty} {v : Int → VS → VS} {k : Nat} (hv : ∀ (a : Int) s, VInv t s → unp t s < k → 0 ≤ a ∧ a < t.length → VOk t s (v a s)) :
    ∀ (l : List Int) (s : VS), VInv t s → unp t s < k → (∀ r ∈ l, 0 ≤ r ∧ r < t.length) → VOk t s (vfold v l s)
  | [], _, hI, _, _ => .refl hI
  | r :: l, s, hI, hu, hl =>
    have h1 := hv r s hI hu (hl r (List.mem_cons_self ..))
    h1.trans (vfold_vok hv l (v r s) h1.inv (Nat.lt_of_le_of_lt h1.unp hu) (fun x hx => hl x (List.mem_cons_of_mem _ hx)))
theorem VOk.ini {t : List Ty} {s s' : VS} (h : VOk t s s') : s.order <+: s'.order := by
  obtain ⟨new, e, -⟩ := h.ext; exact ⟨new, e.symm⟩
theorem vfold_id {t : List Ty} {S : VS} {v v' : Int → VS → VS} {k : Nat}
    (hv : ∀ (a : Int) s, VInv t s → unp t s < k → 0 ≤ a ∧ a < t.length → VOk t s (v a s) ∧ ((v a s).order <+: S.order → v' (turned S.place a) (idS s.order.length) = idS (v a s).order.length)) :
    ∀ (l : List Int) (s : VS), VInv t s → unp t s < k → (∀ r ∈ l, 0 ≤ r ∧ r < t.length) → (vfold v l s).order <+: S.order → vfold v' (l.map (turned S.place)) (idS s.order.length) = idS (vfold v l s).order.length
  | [], _, _, _, _, _ => rfl
  | r :: l, s, hI, hu, hl, hp => by
    obtain ⟨h1, h2⟩ := hv r s hI hu (hl r (List.mem_cons_self ..))
    have hu2 := Nat.lt_of_le_of_lt h1.unp hu
    have hl2 : ∀ x ∈ l, 0 ≤ x ∧ x < t.length := fun x hx => hl x (List.mem_cons_of_mem _ hx)
    have h3 := vfold_vok (fun a s a1 a2 a3 => (hv a s a1 a2 a3).1) l (v r s) h1.inv hu2 hl2
    have ih := vfold_id hv l (v r s) h1.inv hu2 hl2 hp
    show vfold v' (l.map (turned S.place)) (v' (turned S.place r) (idS s.order.length)) = _
    rw [h2 (h3.ini.trans hp), ih]; rfl
theorem visit_id {t : List Ty} {name : Bytes} {S : VS} (hT : Trims t S) : ∀ (k : Nat) (a : Int) (s : VS), VInv t s → unp t s < k → 0 ≤ a ∧ a < t.length → (visitF t k a s).order <+: S.order →
    visitF (newT t name S) k (turned S.place a) (idS s.order.length) = idS (visitF t k a s).order.length
  | 0, _, _, _, h, _, _ => absurd h (Nat.not_lt_zero _)
  | k + 1, a, s, hI, hu, ha, hp => by
    have hr := hT.nodes.refs hT.len
    by_cases c : a ≤ 6 ∨ 0 < s.place a.toNat
    · have c' : turned S.place a ≤ 6 ∨ 0 < (idS s.order.length).place (turned S.place a).toNat := by
        by_cases h6 : a ≤ 6
        · exact .inl (by rw [turned, if_pos h6]; exact h6)
        · have h0 := c.resolve_left h6
          rw [visitF_skip c] at hp
          obtain ⟨e1, e2⟩ := prefix_at hT.inv hI hp h0
          obtain ⟨j, hj⟩ := List.mem_iff_getElem?.1 (hI.mem.1 h0)
          have e3 := hI.at_ j _ hj
          refine .inr ?_
          rw [turned, if_neg h6, Int.toNat_natCast, e1]
          simp only [idS]
          rw [if_pos (by omega)]; omega
      rw [visitF_skip c, visitF_skip c']
    · have h0 : s.place a.toNat = 0 := by omega
      have hI2 := enter_inv hI (a := a.toNat) (by omega) h0
      have hu2 := unp_enter (t := t) (s := s) (a := a.toNat) (by omega) h0
      rw [visitF_go c] at hp ⊢
      have hok := vfold_vok (k := k) (fun b s' h1 h2 h3 => (visitF_ok hr k b s' h1 h2 h3).1) (refsAt t a.toNat) (enterV s a.toNat) hI2 (by omega) (hr _)
      have hp2 : (enterV s a.toNat).order <+: S.order := hok.ini.trans hp
      have hpos : 0 < (enterV s a.toNat).place a.toNat := by simp [enterV, putP_at]; omega
      obtain ⟨e1, -⟩ := prefix_at hT.inv hI2 hp2 hpos
      have e1 : S.place a.toNat = 7 + s.order.length := by rw [e1]; exact putP_at _ _ _
      have hm : a.toNat ∈ S.order := hT.inv.mem.1 (by omega)
      have et : turned S.place a = ((7 + s.order.length : Nat) : Int) := by rw [turned, if_neg (by omega), e1]
      have c' : ¬ (turned S.place a ≤ 6 ∨ 0 < (idS s.order.length).place (turned S.place a).toNat) := by
        rw [et, Int.toNat_natCast]
        simp only [idS]
        rw [if_neg (by omega)]; omega
      rw [visitF_go c', et, Int.toNat_natCast, idS_enter, ← e1, refs_new hT hm]
      have := vfold_id (S := S) (k := k) (fun b s' h1 h2 h3 => ⟨(visitF_ok hr k b s' h1 h2 h3).1, visit_id (name := name) hT k b s' h1 h2 h3⟩) (refsAt t a.toNat) (enterV s a.toNat) hI2 (by omega) (hr _) hp
      rwa [show (enterV s a.toNat).order.length = s.order.length + 1 by simp [enterV]] at this
theorem turned_id {k : Nat} {r : Int} (h : 0 ≤ r ∧ r < 7 + k) : turned (idS k).place r = r := by
  unfold turned
  split
  · rfl
  · simp only [idS]; rw [if_pos (by omega)]; omega
theorem needed_again {f : Face} (hs : ShapedP f) (hg : FGood (trimF f)) : needed (trimF f) = idS (needed f).order.length := by
  obtain ⟨hT, hO⟩ := needed_ok hs
  obtain ⟨hT2, -⟩ := needed_ok hg.1
  have hr := hT.nodes.refs hT.len
  have hr2 := hT2.nodes.refs hT2.len
  have hlo : ∀ r : Int, r ∈ f.objs.map (·.type) → 0 ≤ r ∧ r < f.types.length := fun r hr => by obtain ⟨o, ho, rfl⟩ := List.mem_map.1 hr; exact (hs.2.2.2.2 o ho).2.1
  have hlo2 : ∀ r : Int, r ∈ (trimF f).objs.map (·.type) → 0 ≤ r ∧ r < (trimF f).types.length := fun r hr => by obtain ⟨o, ho, rfl⟩ := List.mem_map.1 hr; exact (hg.1.2.2.2.2 o ho).2.1
  have hu := unp_le f.types VS.none
  have hu2 := unp_le (trimF f).types VS.none
  have e1 : (trimF f).objs.map (·.type) = (f.objs.map (·.type)).map (turned (needed f).place) := by simp [trimF, turnOb]
  have e2 : needed (trimF f) = vfold (visitF (trimF f).types (f.types.length + 1)) ((trimF f).objs.map (·.type)) VS.none := by
    have hle : (trimF f).types.length ≤ f.types.length := by rw [trimF_types, newT_len]; exact order_le hT
    exact vfold_more (k := (trimF f).types.length + 1) (fun a s h1 h2 h3 => ⟨visitF_more hr2 _ _ a s h1 h2 (by omega) h3, (visitF_ok hr2 _ a s h1 h2 h3).1⟩) _ _ (none_inv _) (by omega) hlo2
  have e3 := vfold_id (t := f.types) (S := needed f) (v' := visitF (trimF f).types (f.types.length + 1)) (k := f.types.length + 1) (fun a s h1 h2 h3 => ⟨(visitF_ok hr _ a s h1 h2 h3).1, visit_id hT _ a s h1 h2 h3⟩) (f.objs.map (·.type)) VS.none (none_inv _) (by omega) hlo (List.prefix_refl _)
  rw [e2, e1]
  have e4 : idS (VS.none).order.length = VS.none := idS_zero
  rw [e4] at e3
  exact e3
theorem turnTy_id {name : Bytes} {P : Nat → Nat} {d : Nat} {x : Ty} (h : ∀ r ∈ refsTy x, turned P r = r) (hd : x.form = 9 ∧ x.mod = name → x.desc = d) : turnTy name P d x = x := by
  have hF : x.fields.map (fun f : Fld => { f with type := turned P f.type }) = x.fields := by
    conv => rhs; rw [← List.map_id x.fields]
    exact List.map_congr_left fun f hf => by rw [h f.type (mem_refs.2 (.inr (.inr (.inl ⟨f, hf, rfl⟩))))]; rfl
  have hP : x.params.map (fun p : Par => { p with type := turned P p.type }) = x.params := by
    conv => rhs; rw [← List.map_id x.params]
    exact List.map_congr_left fun p hp => by rw [h p.type (mem_refs.2 (.inr (.inr (.inr (.inl ⟨p, hp, rfl⟩)))))]; rfl
  unfold turnTy
  rw [hF, hP, h x.elem (mem_refs.2 (.inl rfl)), h x.base (mem_refs.2 (.inr (.inl rfl))), h x.res (mem_refs.2 (.inr (.inr (.inr (.inr rfl)))))]
  split
  · rename_i c; rw [← hd c]
  · rfl
theorem owns_again {t : List Ty} {name : Bytes} {S : VS} (hT : Trims t S) (j : Nat) (hj : j ≤ S.order.length) : owns (newT t name S) name ((idS S.order.length).order.take j) = owns t name (S.order.take j) := by
  induction j with
  | zero => simp [owns]
  | succ j ih =>
    have ih := ih (by omega)
    have h1 : S.order[j]? = some (S.order[j]'(by omega)) := List.getElem?_eq_getElem _
    have h2 : (idS S.order.length).order[j]? = some (7 + j) := by simp [idS, List.getElem?_range (show j < S.order.length by omega)]
    have hm := List.mem_of_getElem? h1
    have hx : t[S.order[j]'(by omega)]? = some (t[S.order[j]'(by omega)]'(hT.inv.range _ hm).2) := List.getElem?_eq_getElem _
    have hi := new_hi t name S h1
    rw [tyAt_of hx] at hi
    rw [List.take_add_one, List.take_add_one, h1, h2]
    simp only [Option.toList]
    unfold owns at ih ⊢
    rw [List.countP_append, List.countP_append, ih, List.countP_singleton, List.countP_singleton, tyAt_of hx, tyAt_of hi]
    rfl
theorem trim_again {f : Face} (hs : ShapedP f) (hg : FGood (trimF f)) : trimF (trimF f) = trimF f := by
  obtain ⟨hT, hO⟩ := needed_ok hs
  obtain ⟨hT2, hO2⟩ := needed_ok hg.1
  have hn := needed_again hs hg
  have hl : (trimF f).types.length = 7 + (needed f).order.length := by rw [trimF_types, newT_len]
  have hr2 := hT2.nodes.refs hT2.len
  have et : basic ++ outs (trimF f).types f.name (needed (trimF f)).place 0 (needed (trimF f)).order = (trimF f).types := by
    rw [hn]
    show newT (trimF f).types f.name (idS (needed f).order.length) = newT f.types f.name (needed f)
    apply List.ext_getElem?
    intro i
    by_cases h6 : i ≤ 6
    · rw [new_lo _ _ _ h6, new_lo _ _ _ h6]
    · by_cases hi : i - 7 < (needed f).order.length
      · have h1 : (needed f).order[i - 7]? = some ((needed f).order[i - 7]'hi) := List.getElem?_eq_getElem _
        have h2 : (idS (needed f).order.length).order[i - 7]? = some i := by
          simp [idS, List.getElem?_range hi]; omega
        have a1 := new_hi f.types f.name (needed f) h1
        have a2 := new_hi (trimF f).types f.name (idS (needed f).order.length) h2
        rw [show 7 + (i - 7) = i by omega] at a1 a2
        rw [a2, a1]
        have a3 : (trimF f).types[i]? = some _ := a1
        rw [tyAt_of a3]
        congr 1
        refine turnTy_id (fun r hr => turned_id ?_) (fun _ => ?_)
        · have := hr2 i r (by rw [refsAt_of a3]; exact hr)
          rw [hl] at this; omega
        · rename_i c
          have := owns_again (name := f.name) hT (i - 7) (by omega)
          rw [trimF_types, this]
          have c' := c
          simp only [turnTy] at c' ⊢
          rw [if_pos c']
      · have b1 : (newT f.types f.name (needed f))[i]? = none := by rw [List.getElem?_eq_none_iff, newT_len]; omega
        have b2 : (newT (trimF f).types f.name (idS (needed f).order.length))[i]? = none := by rw [List.getElem?_eq_none_iff, newT_len, idS_len]; omega
        rw [b1, b2]
  have eo : (trimF f).objs.map (turnOb (needed (trimF f)).place) = (trimF f).objs := by
    conv => rhs; rw [← List.map_id (trimF f).objs]
    refine List.map_congr_left fun o ho => ?_
    have := (hg.1.2.2.2.2 o ho).2.1
    rw [hl] at this
    unfold turnOb
    rw [hn, turned_id (by omega)]; rfl
  unfold trimF at et eo ⊢
  simp only at et eo ⊢
  rw [et, eo]

/-! ### a type more -/
def roomTy (n : Int) : Ty := ⟨7, [], [], n, 3, 0, [], [], 0, 0⟩
def roomF (f : Face) (n : Int) : Face := { f with types := f.types ++ [roomTy n] }
theorem formOf_more {t : List Ty} {y : Ty} {r : Int} (h : formOf t r ≠ -1) : formOf (t ++ [y]) r = formOf t r := by
  have hr := formOf_in h
  have hx : t[r.toNat]? = some (t[r.toNat]'(by omega)) := List.getElem?_eq_getElem _
  have hx2 : (t ++ [y])[r.toNat]? = some (t[r.toNat]'(by omega)) := by rw [List.getElem?_append_left (by omega)]; exact hx
  rw [formOf_at hr.1 hx, formOf_at hr.1 hx2]
theorem part_more {t : List Ty} {y : Ty} {r : Int} (h : PartF (formOf t r)) : PartF (formOf (t ++ [y]) r) := by rw [formOf_more (part_ne h)]; exact h
theorem kind_more {t : List Ty} {y x : Ty} (h : KindP t x) : KindP (t ++ [y]) x := by
  have q : ∀ {r n : Int}, formOf t r = n → n ≠ -1 → formOf (t ++ [y]) r = n := fun e hn => by rw [formOf_more (by rw [e]; exact hn), e]
  rcases h with ⟨h9, k, k2⟩ | ⟨h9, k, k2⟩ | ⟨h9, ⟨k1, k2, k3, k4, k5⟩, k6⟩ | ⟨h9, k, k2⟩ | ⟨h9, ⟨k1, k2, k3⟩, k4⟩
  · exact .inl ⟨h9, ⟨k.1, k.2.1, part_more k.2.2⟩, k2⟩
  · exact .inr (.inl ⟨h9, k.imp part_more (fun e => q e (by decide)), k2⟩)
  · exact .inr (.inr (.inl ⟨h9, ⟨k1.imp id (fun e => q e (by decide)), k2, k3, k4, fun f hf => ⟨(k5 f hf).1, part_more (k5 f hf).2⟩⟩, k6⟩))
  · exact .inr (.inr (.inr (.inl ⟨h9, q k (by decide), k2⟩)))
  · exact .inr (.inr (.inr (.inr ⟨h9, ⟨k1, k2.imp id (fun e => by rw [formOf_more (plain_ne e)]; exact e), fun p hp => (k3 p hp).imp part_more (fun e => q e (by decide))⟩, k4⟩)))
theorem node_more {t : List Ty} {y x : Ty} {j : Nat} (h : NodeP t j x) : NodeP (t ++ [y]) j x :=
  h.imp id (fun ⟨a, b, c⟩ => ⟨a, kind_more b, c⟩)
theorem edges_more {t : List Ty} {y : Ty} {a : Nat} (h : a < t.length) : edges (t ++ [y]) a = edges t a := by
  unfold edges; rw [List.getElem?_append_left h]
theorem chain_more {t : List Ty} {y : Ty} (hb : ∀ x ∈ t, 0 ≤ x.base ∧ x.base < t.length) : ∀ (k : Nat) (x : Ty), x ∈ t → chainN (t ++ [y]) k x = chainN t k x
  | 0, _, _ => rfl
  | k + 1, x, hx => by
    have h := hb x hx
    unfold chainN
    rw [List.getElem?_append_left (by omega), List.getElem?_eq_getElem (show x.base.toNat < t.length by omega)]
    simp only
    rw [chain_more hb k _ (List.getElem_mem _)]
theorem tgood_room {t : List Ty} (h : TGood t) (hl : t.length ≤ 250) {n : Int} (hn : 1 ≤ n ∧ n ≤ 4096) : TGood (t ++ [roomTy n]) := by
  obtain ⟨h7, hN, hE, hR, hF⟩ := h
  have hv := hN.valid h7.1
  have h3 : formOf t 3 = 3 := by
    have hx : t[3]? = some (t[3]'(by omega)) := List.getElem?_eq_getElem _
    rcases hN 3 _ hx with ⟨-, hb⟩ | ⟨e, -⟩
    · rw [formOf_at (by decide) hx, bare_form hb]; rfl
    · omega
  have hf3 : formOf (t ++ [roomTy n]) 3 = 3 := by rw [formOf_more (by omega), h3]
  have hlow : ∀ a, a < t.length → Ends (edges (t ++ [roomTy n])) a := fun a ha => by
    refine Ends.mono (E := edges t) (fun b e he => ?_) (hE a ha)
    rcases Nat.lt_trichotomy b t.length with e1 | e1 | e1
    · rw [edges_more e1] at he; exact .inl he
    · subst e1
      rw [edges_of (x := roomTy n) (by simp)] at he
      simp [roomTy] at he
      subst he
      refine .inr (.mk fun e he => ?_)
      rw [show (3 : Int).toNat = 3 from rfl, edges_more (by omega)] at he
      have hx : t[3]? = some (t[3]'(by omega)) := List.getElem?_eq_getElem _
      have hf : (t[3]'(by omega)).form = 3 := by rw [← h3, formOf_at (by decide) hx]
      rw [edges_of hx, if_neg (by omega), if_neg (by omega)] at he; cases he
    · have : (t ++ [roomTy n])[b]? = none := by rw [List.getElem?_eq_none_iff]; simp; omega
      rw [edges, this] at he; cases he
  refine ⟨by simp; omega, fun j y hj => ?_, fun a ha => ?_, ?_, fun x hx h9 => ?_⟩
  · by_cases hjl : j < t.length
    · rw [List.getElem?_append_left hjl] at hj; exact node_more (hN j y hj)
    · rw [List.getElem?_append_right (by omega)] at hj
      have hj0 : j - t.length = 0 := by
        cases e : j - t.length with
        | zero => rfl
        | succ m => rw [e] at hj; simp at hj
      rw [hj0] at hj; simp at hj; subst hj
      refine .inr ⟨by omega, .inl ⟨rfl, ⟨hn.1, hn.2, ?_⟩, rfl, rfl, rfl, rfl, rfl⟩, .inl ⟨⟨rfl, rfl⟩, by simp [roomTy]⟩⟩
      show PartF (formOf _ 3)
      rw [hf3]; unfold PartF; omega
  · by_cases e : a < t.length
    · exact hlow a e
    · simp at ha
      obtain rfl : a = t.length := by omega
      refine .mk fun e he => ?_
      rw [edges_of (x := roomTy n) (by simp)] at he
      simp [roomTy] at he
      subst he
      exact hlow 3 (by omega)
  · have : recs (t ++ [roomTy n]) = recs t := by simp [recs, isRec, roomTy]
    rw [this]; exact hR
  · rcases List.mem_append.1 hx with hx | hx
    · unfold FieldP; rw [chain_more (hN.base h7.1) 5 x hx]; exact hF x hx h9
    · simp at hx; subst hx; simp [roomTy] at h9
theorem num_imp : ∀ {m : Bytes} {l : List Ty} {n : Int}, numP m n l → ∀ x ∈ l, x.form = 9 → 0 ≤ x.desc
  | m, [], _, _, x, hx, _ => by simp at hx
  | m, y :: l, n, h, x, hx, h9 => by
    unfold numP at h
    rcases List.mem_cons.1 hx with rfl | hx
    · rw [if_pos h9] at h; exact h.1.1
    · split at h
      · exact num_imp h.2 x hx h9
      · exact num_imp h x hx h9
theorem FGood.imp {f : Face} (h : FGood f) : ImpP f := fun x hx h9 _ => num_imp h.2 x hx h9
theorem shaped_room {f : Face} (h : ShapedP f) (hl : f.types.length ≤ 250) {n : Int} (hn : 1 ≤ n ∧ n ≤ 4096) : ShapedP (roomF f n) := by
  obtain ⟨⟨h1, h2, h3, h4⟩, h5, h6, h7⟩ := h
  refine ⟨⟨h1, h2, h3, tgood_room h4 hl hn⟩, h5, ⟨fun x hx => ?_, ?_⟩, h7.1, fun o ho => ?_⟩
  · rcases List.mem_append.1 hx with hx | hx
    · exact h6.1 x hx
    · simp at hx; subst hx; exact .inl rfl
  · have : tkeys (roomF f n).types = tkeys f.types := by simp [tkeys, roomF, isNamed, roomTy]
    rw [this]; exact h6.2
  · obtain ⟨a, b, c, d⟩ := h7.2 o ho
    have e : formAt (roomF f n).types o.type = formAt f.types o.type := by
      unfold formAt roomF; rw [List.getElem?_append_left (by omega)]
    refine ⟨a, ⟨b.1, by simp [roomF]; omega⟩, c, ?_⟩
    unfold ClsP at d ⊢; rw [e]; exact d
theorem imp_room {f : Face} (h : ImpP f) (n : Int) : ImpP (roomF f n) := fun x hx h9 hm => by
  rcases List.mem_append.1 hx with hx | hx
  · exact h x hx h9 hm
  · simp at hx; subst hx; simp [roomTy] at h9
theorem vfold_congr {v v' : Int → VS → VS} : ∀ (l : List Int) (s : VS), (∀ r ∈ l, ∀ s, v r s = v' r s) → vfold v l s = vfold v' l s
  | [], _, _ => rfl
  | r :: l, s, h => by
    show vfold v l (v r s) = vfold v' l (v' r s)
    rw [h r (List.mem_cons_self ..)]; exact vfold_congr l _ (fun x hx => h x (List.mem_cons_of_mem _ hx))
theorem visit_room {t : List Ty} {y : Ty} (hr : RefsIn t) : ∀ (k : Nat) (a : Int) (s : VS), a < t.length → visitF (t ++ [y]) k a s = visitF t k a s
  | 0, _, _, _ => rfl
  | k + 1, a, s, ha => by
    by_cases c : a ≤ 6 ∨ 0 < s.place a.toNat
    · rw [visitF_skip c, visitF_skip c]
    · rw [visitF_go c, visitF_go c]
      have e : refsAt (t ++ [y]) a.toNat = refsAt t a.toNat := by unfold refsAt; rw [List.getElem?_append_left (by omega)]
      rw [e]
      exact vfold_congr _ _ fun r hr' s => visit_room hr k r s (hr _ r hr').2
theorem outs_room {t : List Ty} {y : Ty} (name : Bytes) (P : Nat → Nat) : ∀ (O : List Nat) (d : Nat), (∀ a ∈ O, a < t.length) → outs (t ++ [y]) name P d O = outs t name P d O
  | [], _, _ => rfl
  | a :: O, d, h => by
    have e : tyAt (t ++ [y]) a = tyAt t a := by unfold tyAt; rw [List.getElem?_append_left (h a (List.mem_cons_self ..))]
    unfold outs
    rw [e, outs_room name P O _ (fun b hb => h b (List.mem_cons_of_mem _ hb))]
theorem needed_room {f : Face} (hs : ShapedP f) (n : Int) : needed (roomF f n) = needed f := by
  have h7 := hs.1.2.2.2.1.1
  have hr := hs.1.2.2.2.2.1.refs h7
  have hu := unp_le f.types VS.none
  have hlo : ∀ r : Int, r ∈ f.objs.map (·.type) → 0 ≤ r ∧ r < f.types.length := fun r hr => by obtain ⟨o, ho, rfl⟩ := List.mem_map.1 hr; exact (hs.2.2.2.2 o ho).2.1
  have e1 : needed (roomF f n) = vfold (visitF f.types ((roomF f n).types.length + 1)) (f.objs.map (·.type)) VS.none :=
    vfold_congr _ _ fun r hr' s => visit_room hr _ r s (hlo r hr').2
  rw [e1]
  exact vfold_more (k := f.types.length + 1) (fun a s h1 h2 h3 => ⟨visitF_more hr _ _ a s h1 (by simp [roomF]; omega) h2 h3, (visitF_ok hr _ a s h1 (by simp [roomF]; omega) h3).1⟩) _ _ (none_inv _) (by omega) hlo
theorem trim_room {f : Face} (hs : ShapedP f) (n : Int) : trimF (roomF f n) = trimF f := by
  obtain ⟨hT, -⟩ := needed_ok hs
  have e := needed_room hs n
  unfold trimF
  rw [e]
  show Face.mk f.name f.key f.uses _ _ = _
  have := outs_room (t := f.types) (y := roomTy n) f.name (needed f).place (needed f).order 0 (fun a ha => (hT.inv.range a ha).2)
  show Face.mk f.name f.key f.uses (basic ++ outs (f.types ++ [roomTy n]) f.name (needed f).place 0 (needed f).order) (f.objs.map (turnOb (needed f).place)) = _
  rw [this]
end
end Go.Proofs.YtgnkfegkdjfnjaaGreat
