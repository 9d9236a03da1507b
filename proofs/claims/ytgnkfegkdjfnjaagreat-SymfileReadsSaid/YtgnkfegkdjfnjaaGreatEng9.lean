/- The engine, part 9: rules by which a function of the program is walked. No condition. -/
import Derived.Test.YtgnkfegkdjfnjaaGreatEng8
namespace Go.Eng

/-! ### the data of interfaces -/
abbrev Bytes := List UInt8
def in64 (n : Int) : Prop := -9223372036854775808 ≤ n ∧ n ≤ 9223372036854775807
def inU32 (n : Int) : Prop := 0 ≤ n ∧ n < 4294967296
structure Used where
  name : Bytes
  key : Int
structure Fld where
  name : Bytes
  exp : Bool
  type : Int
structure Par where
  byVar : Bool
  type : Int
structure Ty where
  form : Int
  mod : Bytes
  name : Bytes
  len : Int
  elem : Int
  base : Int
  fields : List Fld
  params : List Par
  res : Int
  desc : Int
structure Val where
  form : Int
  n : Int
  text : Bytes
structure Ob where
  cls : Int
  name : Bytes
  type : Int
  val : Val
  n : Int
structure Face where
  name : Bytes
  key : Int
  uses : List Used
  types : List Ty
  objs : List Ob

/-- a slice's value holds these things, in blocks below N -/
def SliceAt {α : Type} (N : Nat) (h : Heap) (sz : Nat) (R : Heap → α → List Value → Prop) (v : Value) (xs : List α) : Prop :=
  xs.length ≤ maxLen ∧ ∃ a c, v = .slice a xs.length c ∧ ∀ i x, xs[i]? = some x → ∃ b o cs, a = some ⟨b, o, none⟩ ∧ b < N ∧ cs.length = sz ∧ rowAt h b (o + i * sz) cs ∧ R h x cs
def usedR (_ : Heap) (x : Used) (cs : List Value) : Prop := cs = [str x.name, .int .u32 x.key] ∧ x.name.length ≤ maxLen ∧ inU32 x.key
def fldR (_ : Heap) (x : Fld) (cs : List Value) : Prop := cs = [str x.name, .bool x.exp, i64 x.type] ∧ x.name.length ≤ maxLen ∧ in64 x.type
def parR (_ : Heap) (x : Par) (cs : List Value) : Prop := cs = [.bool x.byVar, i64 x.type] ∧ in64 x.type
def objR (_ : Heap) (x : Ob) (cs : List Value) : Prop := cs = [i64 x.cls, str x.name, i64 x.type, i64 x.val.form, i64 x.val.n, str x.val.text, i64 x.n] ∧ x.name.length ≤ maxLen ∧ x.val.text.length ≤ maxLen ∧ in64 x.cls ∧ in64 x.type ∧ in64 x.val.form ∧ in64 x.val.n ∧ in64 x.n
def tyCells (x : Ty) (vf vp : Value) : List Value := [i64 x.form, str x.mod, str x.name, i64 x.len, i64 x.elem, i64 x.base, vf, vp, i64 x.res, i64 x.desc]
def Ty.fits (x : Ty) : Prop := x.mod.length ≤ maxLen ∧ x.name.length ≤ maxLen ∧ in64 x.form ∧ in64 x.len ∧ in64 x.elem ∧ in64 x.base ∧ in64 x.res ∧ in64 x.desc
def tyR (N : Nat) (h : Heap) (x : Ty) (cs : List Value) : Prop := x.fits ∧ ∃ vf vp, cs = tyCells x vf vp ∧ SliceAt N h 3 fldR vf x.fields ∧ SliceAt N h 2 parR vp x.params
def TypesAt (N : Nat) (h : Heap) (v : Value) (xs : List Ty) : Prop := SliceAt N h 10 (tyR N) v xs
def TyV (N : Nat) (h : Heap) (v : Value) (x : Ty) : Prop := ∃ cs : List Value, v = .agg cs.toArray ∧ tyR N h x cs
def FaceV (N : Nat) (h : Heap) (v : Value) (f : Face) : Prop := ∃ vu vt vo, v = .agg #[str f.name, .int .u32 f.key, vu, vt, vo] ∧ f.name.length ≤ maxLen ∧ inU32 f.key ∧
  SliceAt N h 2 usedR vu f.uses ∧ TypesAt N h vt f.types ∧ SliceAt N h 7 objR vo f.objs
def objV (x : Ob) : Value := .agg #[i64 x.cls, str x.name, i64 x.type, i64 x.val.form, i64 x.val.n, str x.val.text, i64 x.n]

/-- below N nothing turned -/
def Keep (N : Nat) (h h' : Heap) : Prop := ∀ k, k < N → h'[k]? = h[k]?
theorem Keep.refl (N : Nat) (h : Heap) : Keep N h h := fun _ _ => rfl
theorem Keep.trans {N : Nat} {a b c : Heap} (x : Keep N a b) (y : Keep N b c) : Keep N a c := fun k hk => (y k hk).trans (x k hk)
theorem Keep.less {N M : Nat} {a b : Heap} (x : Keep N a b) (hm : M ≤ N) : Keep M a b := fun k hk => x k (Nat.lt_of_lt_of_le hk hm)
theorem Mod.keep {S : Nat → Prop} {N : Nat} {h h' : Heap} (x : Mod S h h') (hN : N ≤ h.size) (hS : ∀ k, S k → N ≤ k) : Keep N h h' :=
  fun k hk => x.same k (Nat.lt_of_lt_of_le hk hN) (fun e => by have := hS k e; omega)
theorem Mod.keepE {N : Nat} {h h' : Heap} (x : Ext h h') (hN : N ≤ h.size) : Keep N h h' := x.keep hN (fun _ e => e.elim)
theorem Keep.cell {N : Nat} {h h' : Heap} (x : Keep N h h') {b o : Nat} {v : Value} (hb : b < N) (hc : cellAt h b o = some v) : cellAt h' b o = some v := by
  unfold cellAt at *; rw [x b hb]; exact hc
theorem Keep.row {N : Nat} {h h' : Heap} (x : Keep N h h') {b o : Nat} {cs : List Value} (hb : b < N) (hc : rowAt h b o cs) : rowAt h' b o cs := fun j v hv => x.cell hb (hc j v hv)
theorem Keep.get {N : Nat} {h h' : Heap} (x : Keep N h h') {b : Nat} {o : Obj} (hb : b < N) (hc : h[b]? = some o) : h'[b]? = some o := (x b hb).trans hc

theorem SliceAt.keep {α : Type} {N M : Nat} {h h' : Heap} {sz : Nat} {R R' : Heap → α → List Value → Prop} {v : Value} {xs : List α} (a : SliceAt N h sz R v xs) (x : Keep N h h') (hM : N ≤ M) (hR : ∀ y cs, R h y cs → R' h' y cs) : SliceAt M h' sz R' v xs := by
  obtain ⟨hl, a, c, rfl, hi⟩ := a
  refine ⟨hl, a, c, rfl, fun i y hy => ?_⟩
  obtain ⟨b, o, cs, ha, hb, hl, hr, hR1⟩ := hi i y hy
  exact ⟨b, o, cs, ha, by omega, hl, x.row hb hr, hR _ _ hR1⟩
theorem SliceAt.nil {α : Type} (N : Nat) (h : Heap) (sz : Nat) (R : Heap → α → List Value → Prop) (a : Option Addr) (c : Nat) : SliceAt N h sz R (.slice a 0 c) [] := ⟨by simp, a, c, rfl, fun i x hx => by simp at hx⟩
theorem SliceAt.form {α : Type} {N : Nat} {h : Heap} {sz : Nat} {R : Heap → α → List Value → Prop} {v : Value} {xs : List α} (a : SliceAt N h sz R v xs) : ∃ a c, v = .slice a xs.length c := by
  obtain ⟨_, a, c, h, _⟩ := a; exact ⟨a, c, h⟩
theorem SliceAt.one {α : Type} {N : Nat} {h : Heap} {sz : Nat} {R : Heap → α → List Value → Prop} {v : Value} {xs : List α} (a : SliceAt N h sz R v xs) : v.oneCell' = true := by
  obtain ⟨a, c, rfl⟩ := a.form; rfl
theorem tyR.keep {N M : Nat} {h h' : Heap} {x : Ty} {cs : List Value} (a : tyR N h x cs) (k : Keep N h h') (hM : N ≤ M) : tyR M h' x cs := by
  obtain ⟨hf, vf, vp, hc, h1, h2⟩ := a
  exact ⟨hf, vf, vp, hc, h1.keep k hM (fun _ _ e => e), h2.keep k hM (fun _ _ e => e)⟩
theorem TypesAt.keep {N M : Nat} {h h' : Heap} {v : Value} {xs : List Ty} (a : TypesAt N h v xs) (k : Keep N h h') (hM : N ≤ M) : TypesAt M h' v xs :=
  SliceAt.keep a k hM (fun _ _ e => e.keep k hM)
theorem TyV.keep {N M : Nat} {h h' : Heap} {v : Value} {x : Ty} (a : TyV N h v x) (k : Keep N h h') (hM : N ≤ M) : TyV M h' v x := by
  obtain ⟨cs, hv, r⟩ := a; exact ⟨cs, hv, r.keep k hM⟩
theorem FaceV.keep {N M : Nat} {h h' : Heap} {v : Value} {f : Face} (a : FaceV N h v f) (k : Keep N h h') (hM : N ≤ M) : FaceV M h' v f := by
  obtain ⟨vu, vt, vo, hv, hn, hk, h1, h2, h3⟩ := a
  exact ⟨vu, vt, vo, hv, hn, hk, h1.keep k hM (fun _ _ e => e), h2.keep k hM, h3.keep k hM (fun _ _ e => e)⟩

/-- rows one behind the other -/
theorem flat_row {h : Heap} {b : Nat} {sz : Nat} : ∀ (css : List (List Value)) (o i : Nat) (cs : List Value), (∀ c ∈ css, c.length = sz) → rowAt h b o css.flatten → css[i]? = some cs → rowAt h b (o + i * sz) cs
  | [], _, _, _, _, _, hi => by simp at hi
  | c :: css, o, i, cs, hl, hr, hi => by
    have hc := hl c (by simp)
    cases i with
    | zero =>
      simp at hi; subst hi
      intro j v hv
      have := hr j v (by rw [List.flatten_cons, List.getElem?_append_left (List.getElem?_eq_some_iff.1 hv).1]; exact hv)
      simpa using this
    | succ i =>
      simp only [List.getElem?_cons_succ] at hi
      have hr' : rowAt h b (o + sz) css.flatten := fun j v hv => by
        have := hr (sz + j) v (by rw [List.flatten_cons, List.getElem?_append_right (by omega), hc, Nat.add_sub_cancel_left]; exact hv)
        rw [Nat.add_assoc]; exact this
      have := flat_row css (o + sz) i cs (fun c' h' => hl c' (by simp [h'])) hr' hi
      rw [show o + (i + 1) * sz = o + sz + i * sz by rw [Nat.add_mul]; omega]
      exact this
/-- a slice that owns its block, and what it holds -/
def OwnS {α : Type} (h : Heap) (E sz : Nat) (R : α → List Value → Prop) (v : Value) (xs : List α) : Prop :=
  ∃ css : List (List Value), Owns h E sz v xs.length css.flatten ∧ css.length = xs.length ∧ (∀ c ∈ css, c.length = sz) ∧ ∀ (i : Nat) x cs, xs[i]? = some x → css[i]? = some cs → R x cs
theorem OwnS.nil {α : Type} (h : Heap) (E sz : Nat) (R : α → List Value → Prop) : OwnS h E sz R (.slice none 0 0) [] := ⟨[], Owns.nil _ _ _, rfl, by simp, fun i x cs hx => by simp at hx⟩
theorem OwnS.own {α : Type} {h : Heap} {E sz : Nat} {R : α → List Value → Prop} {v : Value} {xs : List α} (a : OwnS h E sz R v xs) : ∃ cells, Owns h E sz v xs.length cells := by
  obtain ⟨css, o, _⟩ := a; exact ⟨_, o⟩
theorem OwnS.mono {α : Type} {h h' : Heap} {E sz : Nat} {R R' : α → List Value → Prop} {S : Nat → Prop} {v : Value} {xs : List α} (a : OwnS h E sz R v xs) (x : Mod S h h') (hS : ∀ k, ownB v k → ¬ S k) (hR : ∀ y cs, R y cs → R' y cs) : OwnS h' E sz R' v xs := by
  obtain ⟨css, o, h1, h2, h3⟩ := a
  exact ⟨css, o.mod x hS, h1, h2, fun i y cs hy hc => hR _ _ (h3 i y cs hy hc)⟩
/-- an append's outcome -/
theorem OwnS.snoc {α : Type} {h' : Heap} {E sz : Nat} {R : α → List Value → Prop} {v' : Value} {xs : List α} {x : α} {css : List (List Value)} {cs : List Value}
    (h1 : css.length = xs.length) (h2 : ∀ c ∈ css, c.length = sz) (h3 : ∀ (i : Nat) x cs, xs[i]? = some x → css[i]? = some cs → R x cs) (o : Owns h' E sz v' (xs.length + 1) (css.flatten ++ cs)) (hc : cs.length = sz) (hR : R x cs) : OwnS h' E sz R v' (xs ++ [x]) := by
  refine ⟨css ++ [cs], by simpa using o, by simp [h1], fun c hc' => ?_, fun i y c hy hc' => ?_⟩
  · rcases List.mem_append.1 hc' with e | e
    · exact h2 c e
    · simp at e; rw [e]; exact hc
  · by_cases hi : i < xs.length
    · rw [List.getElem?_append_left hi] at hy
      rw [List.getElem?_append_left (by omega)] at hc'
      exact h3 i y c hy hc'
    · rw [List.getElem?_append_right (by omega)] at hy
      rw [List.getElem?_append_right (by omega)] at hc'
      rw [h1] at hc'
      cases hj : i - xs.length with
      | zero => rw [hj] at hy hc'; simp at hy hc'; rw [← hy, ← hc']; exact hR
      | succ j => rw [hj] at hy; simp at hy
theorem OwnS.at_ {α : Type} {h : Heap} {E sz N : Nat} {R : Heap → α → List Value → Prop} {v : Value} {xs : List α} (a : OwnS h E sz (R h) v xs) (hl : xs.length ≤ maxLen) (hN : ∀ k, ownB v k → k < N) : SliceAt N h sz R v xs := by
  obtain ⟨css, o, h1, h2, h3⟩ := a
  refine ⟨hl, ?_⟩
  rcases o.2 with ⟨rfl, hn⟩ | ⟨g, cap, cur, rfl, hg, rest⟩
  · exact ⟨none, 0, by rw [hn], fun i x hx => by have := (List.getElem?_eq_some_iff.1 hx).1; omega⟩
  · refine ⟨some ⟨g, 0, none⟩, cap, rfl, fun i x hx => ?_⟩
    have hil := (List.getElem?_eq_some_iff.1 hx).1
    have hc : css[i]? = some (css[i]'(by omega)) := List.getElem?_eq_getElem (by omega)
    refine ⟨g, 0, _, rfl, hN g rfl, h2 _ (List.getElem_mem _), flat_row css 0 i _ h2 o.row.2 hc, h3 i x _ hx hc⟩
end Go.Eng
