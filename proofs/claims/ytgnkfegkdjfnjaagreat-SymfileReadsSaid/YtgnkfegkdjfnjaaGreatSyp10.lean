/- Two interfaces that differ have different bytes: plain. No condition but what each theorem says. -/
import Derived.Test.YtgnkfegkdjfnjaaGreatSyp9
namespace Go.Proofs.YtgnkfegkdjfnjaaGreat
open Go Go.Eng

def encI : It → Bytes
  | .byte x => [b8 x]
  | .num n => R.compact n
  | .text s => s ++ [0]
  | .word x => R.wordb x
def okI : It → Prop
  | .byte x => 0 ≤ x ∧ x < 256
  | .num n => R.fit32 n
  | .text s => R.textOk s
  | .word x => 0 ≤ x ∧ x < 4294967296
def E (l : List It) : Bytes := l.flatMap encI
theorem E_append (l m : List It) : E (l ++ m) = E l ++ E m := List.flatMap_append
theorem E_cons (i : It) (l : List It) : E (i :: l) = encI i ++ E l := rfl
theorem E_nil : E [] = [] := rfl
theorem put_ok {i : It} (h : okI i) (st : St) : putIt i st = (st.1 ++ encI i, st.2) := by
  cases i with
  | byte x => rfl
  | num n => have h : R.fit32 n := h; simp only [putIt, encI]; rw [if_pos h, if_pos h]
  | text s => have h : R.textOk s := h; simp only [putIt, encI]; rw [if_pos h, if_pos h]
  | word x => rfl
theorem putAll_ok : ∀ (l : List It) (st : St), (∀ i ∈ l, okI i) → putAll l st = (st.1 ++ E l, st.2)
  | [], st, _ => by simp [putAll, E]
  | i :: l, st, h => by
    rw [putAll_cons, put_ok (h i (List.mem_cons_self ..)), putAll_ok l _ (fun j hj => h j (List.mem_cons_of_mem _ hj)), E_cons, List.append_assoc]
theorem text_pre : ∀ (s t r r' : Bytes), 0 ∉ s → 0 ∉ t → s ++ [0] ++ r = t ++ [0] ++ r' → s = t ∧ r = r'
  | [], [], r, r', _, _, h => by simpa using h
  | [], c :: t, r, r', _, ht, h => by simp at h; exact absurd (h.1 ▸ List.mem_cons_self ..) ht
  | c :: s, [], r, r', hs, _, h => by simp at h; exact absurd (h.1.symm ▸ List.mem_cons_self ..) hs
  | c :: s, d :: t, r, r', hs, ht, h => by
    simp only [List.cons_append, List.cons.injEq] at h
    obtain ⟨e1, e2⟩ := text_pre s t r r' (fun e => hs (List.mem_cons_of_mem _ e)) (fun e => ht (List.mem_cons_of_mem _ e)) h.2
    exact ⟨by rw [h.1, e1], e2⟩
theorem b8_inj {x y : Int} (hx : 0 ≤ x ∧ x < 256) (hy : 0 ≤ y ∧ y < 256) (h : b8 x = b8 y) : x = y := by
  have h1 := R.b8_val hx
  have h2 := R.b8_val hy
  rw [h] at h1
  omega
theorem pre_byte {x y : Int} {r r' : Bytes} (hx : okI (.byte x)) (hy : okI (.byte y)) (h : encI (.byte x) ++ r = encI (.byte y) ++ r') : x = y ∧ r = r' := by
  simp only [encI, List.cons_append, List.nil_append, List.cons.injEq] at h
  exact ⟨b8_inj hx hy h.1, h.2⟩
theorem pre_num {x y : Int} {r r' : Bytes} (hx : okI (.num x)) (hy : okI (.num y)) (h : encI (.num x) ++ r = encI (.num y) ++ r') : x = y ∧ r = r' := by
  simp only [encI] at h
  have h1 := R.numR_compact hx r
  have h2 := R.numR_compact hy r'
  rw [h, h2] at h1
  have e : y = x := by injection h1 with h1; injection h1
  subst e
  exact ⟨rfl, List.append_cancel_left h⟩
theorem pre_text {x y r r' : Bytes} (hx : okI (.text x)) (hy : okI (.text y)) (h : encI (.text x) ++ r = encI (.text y) ++ r') : x = y ∧ r = r' := text_pre x y r r' hx.2 hy.2 h
theorem pre_word {x y : Int} {r r' : Bytes} (hx : okI (.word x)) (hy : okI (.word y)) (h : encI (.word x) ++ r = encI (.word y) ++ r') : x = y ∧ r = r' := by
  have hx : 0 ≤ x ∧ x < 4294967296 := hx
  have hy : 0 ≤ y ∧ y < 4294967296 := hy
  simp only [encI, R.wordb, List.cons_append, List.nil_append, List.cons.injEq] at h
  obtain ⟨h1, h2, h3, h4, h5⟩ := h
  have q : ∀ a b : Int, b8 a = b8 b → a % 256 = b % 256 := fun a b e => by
    have n1 := b8_nat a
    have n2 := b8_nat b
    rw [e] at n1; omega
  have e1 := q _ _ h1
  have e2 := q _ _ h2
  have e3 := q _ _ h3
  have e4 := q _ _ h4
  exact ⟨by omega, h5⟩
/-- a list's items, read from their front -/
theorem pre_list {α : Type} {g : α → List It} {ok : α → Prop} (hg : ∀ x y (r r' : Bytes), ok x → ok y → E (g x) ++ r = E (g y) ++ r' → x = y ∧ r = r') :
    ∀ (xs ys : List α) (r r' : Bytes), xs.length = ys.length → (∀ x ∈ xs, ok x) → (∀ y ∈ ys, ok y) → E (xs.flatMap g) ++ r = E (ys.flatMap g) ++ r' → xs = ys ∧ r = r'
  | [], [], r, r', _, _, _, h => ⟨rfl, by simpa [E] using h⟩
  | [], _ :: _, _, _, hl, _, _, _ => by simp at hl
  | _ :: _, [], _, _, hl, _, _, _ => by simp at hl
  | x :: xs, y :: ys, r, r', hl, hx, hy, h => by
    rw [List.flatMap_cons, List.flatMap_cons, E_append, E_append, List.append_assoc, List.append_assoc] at h
    obtain ⟨rfl, h_1⟩ := hg x y _ _ (hx x (List.mem_cons_self ..)) (hy y (List.mem_cons_self ..)) h
    obtain ⟨rfl, h_2⟩ := pre_list hg xs ys r r' (by simpa using hl) (fun z hz => hx z (List.mem_cons_of_mem _ hz)) (fun z hz => hy z (List.mem_cons_of_mem _ hz)) h_1
    exact ⟨rfl, h_2⟩
def allOk (l : List It) : Prop := ∀ i ∈ l, okI i
theorem flag_inj {a b : Bool} (h : flagV a = flagV b) : a = b := by cases a <;> cases b <;> simp_all [flagV]
theorem allOk_cons {i : It} {l : List It} : allOk (i :: l) ↔ okI i ∧ allOk l := by simp [allOk]
theorem allOk_append {l m : List It} : allOk (l ++ m) ↔ allOk l ∧ allOk m := by
  simp only [allOk, List.mem_append]
  exact ⟨fun h => ⟨fun i hi => h i (.inl hi), fun i hi => h i (.inr hi)⟩, fun h i hi => hi.elim (h.1 i) (h.2 i)⟩
theorem pre_used (x y : Used) (r r' : Bytes) (hx : allOk (usedIts x)) (hy : allOk (usedIts y)) (h : E (usedIts x) ++ r = E (usedIts y) ++ r') : x = y ∧ r = r' := by
  simp only [usedIts, allOk_cons] at hx hy
  simp only [usedIts, E_cons, E_nil, List.append_assoc, List.nil_append] at h
  obtain ⟨e1, h_1⟩ := pre_text hx.1 hy.1 h
  obtain ⟨e2, h_2⟩ := pre_word hx.2.1 hy.2.1 h_1
  cases x; cases y; simp only at e1 e2; subst e1 e2; exact ⟨rfl, h_2⟩
theorem pre_fld (x y : Fld) (r r' : Bytes) (hx : allOk (fldIts x)) (hy : allOk (fldIts y)) (h : E (fldIts x) ++ r = E (fldIts y) ++ r') : x = y ∧ r = r' := by
  simp only [fldIts, allOk_cons] at hx hy
  simp only [fldIts, E_cons, E_nil, List.append_assoc, List.nil_append] at h
  obtain ⟨e1, h_1⟩ := pre_text hx.1 hy.1 h
  obtain ⟨e2, h_2⟩ := pre_byte hx.2.1 hy.2.1 h_1
  obtain ⟨e3, h_3⟩ := pre_num hx.2.2.1 hy.2.2.1 h_2
  have e2' := flag_inj e2
  cases x; cases y; simp only at e1 e2' e3; subst e1 e2' e3; exact ⟨rfl, h_3⟩
theorem pre_par (x y : Par) (r r' : Bytes) (hx : allOk (parIts x)) (hy : allOk (parIts y)) (h : E (parIts x) ++ r = E (parIts y) ++ r') : x = y ∧ r = r' := by
  simp only [parIts, allOk_cons] at hx hy
  simp only [parIts, E_cons, E_nil, List.append_assoc, List.nil_append] at h
  obtain ⟨e2, h_1⟩ := pre_byte hx.1 hy.1 h
  obtain ⟨e3, h_2⟩ := pre_num hx.2.1 hy.2.1 h_1
  have e2' := flag_inj e2
  cases x; cases y; simp only at e2' e3; subst e2' e3; exact ⟨rfl, h_2⟩
theorem ok_mem {α : Type} {g : α → List It} {l : List α} (h : allOk (l.flatMap g)) : ∀ x ∈ l, allOk (g x) := fun x hx i hi => h i (List.mem_flatMap.2 ⟨x, hx, hi⟩)
theorem pre_ty (x y : Ty) (r r' : Bytes) (hx : allOk (tyIts x)) (hy : allOk (tyIts y)) (h : E (tyIts x) ++ r = E (tyIts y) ++ r') : x = y ∧ r = r' := by
  simp only [tyIts, List.cons_append, List.nil_append, allOk_cons, allOk_append] at hx hy
  simp only [tyIts, List.cons_append, List.nil_append, E_cons, E_append, List.append_assoc] at h
  obtain ⟨x1, x2, x3, x4, x5, x6, x7, x8, x9, x10, x11, x12⟩ := hx
  obtain ⟨y1, y2, y3, y4, y5, y6, y7, y8, y9, y10, y11, y12⟩ := hy
  obtain ⟨e1, h_1⟩ := pre_byte x1 y1 h
  obtain ⟨e2, h_2⟩ := pre_text x2 y2 h_1
  obtain ⟨e3, h_3⟩ := pre_text x3 y3 h_2
  obtain ⟨e4, h_4⟩ := pre_num x4 y4 h_3
  obtain ⟨e5, h_5⟩ := pre_num x5 y5 h_4
  obtain ⟨e6, h_6⟩ := pre_num x6 y6 h_5
  obtain ⟨e7, h_7⟩ := pre_num x7 y7 h_6
  obtain ⟨e8, h_8⟩ := pre_num x8 y8 h_7
  obtain ⟨e9, h_9⟩ := pre_num x9 y9 h_8
  obtain ⟨e10, h_10⟩ := pre_list pre_fld _ _ _ _ (by omega) (ok_mem x10) (ok_mem y10) h_9
  obtain ⟨e11, h_11⟩ := pre_num x11 y11 h_10
  obtain ⟨e12, h_12⟩ := pre_list pre_par _ _ _ _ (by omega) (ok_mem x12) (ok_mem y12) h_11
  cases x; cases y; simp only at e1 e2 e3 e4 e5 e6 e7 e8 e10 e12; subst e1 e2 e3 e4 e5 e6 e7 e8 e10 e12; exact ⟨rfl, h_12⟩
def setOk (v : Val) : Prop := v.form = 4 → 0 ≤ v.n ∧ v.n < 4294967296
theorem pre_ob (x y : Ob) (r r' : Bytes) (hx : allOk (obIts x) ∧ setOk x.val) (hy : allOk (obIts y) ∧ setOk y.val) (h : E (obIts x) ++ r = E (obIts y) ++ r') : x = y ∧ r = r' := by
  obtain ⟨hx, sx⟩ := hx
  obtain ⟨hy, sy⟩ := hy
  simp only [obIts, allOk_cons] at hx hy
  simp only [obIts, E_cons, E_nil, List.append_assoc, List.nil_append] at h
  obtain ⟨x1, x2, x3, x4, x5, x6, x7, -⟩ := hx
  obtain ⟨y1, y2, y3, y4, y5, y6, y7, -⟩ := hy
  obtain ⟨e1, h_1⟩ := pre_byte x1 y1 h
  obtain ⟨e2, h_2⟩ := pre_text x2 y2 h_1
  obtain ⟨e3, h_3⟩ := pre_num x3 y3 h_2
  obtain ⟨e4, h_4⟩ := pre_byte x4 y4 h_3
  obtain ⟨e5, h_5⟩ := pre_num x5 y5 h_4
  obtain ⟨e6, h_6⟩ := pre_text x6 y6 h_5
  obtain ⟨e7, h_7⟩ := pre_num x7 y7 h_6
  have e8 : x.val.n = y.val.n := by
    unfold numV at e5
    rw [e4] at e5
    by_cases c : y.val.form = 4
    · rw [if_pos c, if_pos c] at e5
      have w1 : IntKind.u32.wrap x.val.n = x.val.n := by have := sx (e4.trans c); simp only [IntKind.wrap, IntKind.bits, IntKind.signed]; simp; omega
      have w2 : IntKind.u32.wrap y.val.n = y.val.n := by have := sy c; simp only [IntKind.wrap, IntKind.bits, IntKind.signed]; simp; omega
      rw [w1, w2] at e5
      have := sx (e4.trans c)
      have := sy c
      unfold sgn32 at e5
      split at e5 <;> split at e5 <;> omega
    · rw [if_neg c, if_neg c] at e5; exact e5
  obtain ⟨a1, a2, a3, ⟨v1, v2, v3⟩, a5⟩ := x
  obtain ⟨b1, b2, b3, ⟨w1, w2, w3⟩, b5⟩ := y
  simp only at e1 e2 e3 e4 e6 e7 e8
  subst e1 e2 e3 e4 e6 e7 e8
  exact ⟨rfl, h_7⟩
theorem pre_face {f g : Face} (hf : allOk (faceIts f)) (hg : allOk (faceIts g)) (sf : ∀ o ∈ f.objs, setOk o.val) (sg : ∀ o ∈ g.objs, setOk o.val) (bf : f.types.take 7 = basic) (bg : g.types.take 7 = basic) (h : E (faceIts f) = E (faceIts g)) : f = g := by
  simp only [faceIts, List.cons_append, List.nil_append, allOk_cons, allOk_append] at hf hg
  simp only [faceIts, List.cons_append, List.nil_append, E_cons, E_append] at h
  obtain ⟨x1, x2, x3, x4, x5, x6, x7, x8, x9⟩ := hf
  obtain ⟨y1, y2, y3, y4, y5, y6, y7, y8, y9⟩ := hg
  obtain ⟨-, h_1⟩ := pre_text x1 y1 h
  obtain ⟨e2, h_2⟩ := pre_text x2 y2 h_1
  obtain ⟨e3, h_3⟩ := pre_word x3 y3 h_2
  obtain ⟨e4, h_4⟩ := pre_num x4 y4 h_3
  obtain ⟨e5, h_5⟩ := pre_list pre_used _ _ _ _ (by omega) (ok_mem x5) (ok_mem y5) h_4
  obtain ⟨e6, h_6⟩ := pre_num x6 y6 h_5
  obtain ⟨e7, h_7⟩ := pre_list pre_ty _ _ _ _ (by rw [List.length_drop, List.length_drop]; omega) (ok_mem x7) (ok_mem y7) h_6
  obtain ⟨e8, h_8⟩ := pre_num x8 y8 h_7
  obtain ⟨e9, h_9⟩ := pre_list (r := []) (r' := []) pre_ob _ _ (by omega) (fun o ho => ⟨ok_mem x9 o ho, sf o ho⟩) (fun o ho => ⟨ok_mem y9 o ho, sg o ho⟩) (by rw [h_8])
  have et : f.types = g.types := by rw [← List.take_append_drop 7 f.types, ← List.take_append_drop 7 g.types, bf, bg, e7]
  obtain ⟨f1, f2, f3, f4, f5⟩ := f
  obtain ⟨g1, g2, g3, g4, g5⟩ := g
  simp only at e2 e3 e5 et e9
  subst e2 e3 e5 et e9
  rfl
end Go.Proofs.YtgnkfegkdjfnjaaGreat
