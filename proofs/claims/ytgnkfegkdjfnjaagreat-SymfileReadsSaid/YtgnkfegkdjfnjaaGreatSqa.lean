/- What the reference's reading makes of any bytes: plain. The reference's reading of a file: plain; it answers as the program's. No condition but what each theorem says. -/
import Derived.Test.YtgnkfegkdjfnjaaGreatSdc
namespace Go.Proofs.YtgnkfegkdjfnjaaGreat
/-! What the reference's reading makes of any bytes: plain. No condition but what each theorem says. -/
section
open Go Go.Eng

/-! ### a number that is read is written as it stood -/
def dg : Nat → Int → Bytes
  | 0, _ => []
  | 1, n => [b8 (n % 128)]
  | j + 2, n => b8 (n % 128 + 128) :: dg (j + 1) (n / 128)
theorem cg_dg : ∀ (f : Nat) (n : Int), R.cg f n = dg (R.cg f n).length n
  | 0, n => rfl
  | f + 1, n => by
    by_cases h : -64 ≤ n ∧ n < 64
    · rw [R.cg_small h]; rfl
    · rw [R.cg_big h]
      have ih := cg_dg f (n / 128)
      obtain ⟨k, hk⟩ : ∃ k, (R.cg f (n / 128)).length = k + 1 := ⟨(R.cg f (n / 128)).length - 1, by have := R.cg_pos f (n / 128); omega⟩
      rw [List.length_cons, hk]
      rw [hk] at ih
      show _ = _ :: dg (k + 1) (n / 128)
      rw [← ih]
theorem b8_of {c : UInt8} {x : Int} (h : x = c.toNat) : b8 x = c := by
  subst h
  have := R.b8_val (x := (c.toNat : Int)) (by have := c.toNat_lt; omega)
  apply UInt8.toNat_inj.1
  omega
theorem rn_back : ∀ (f k acc : Nat) (l : Bytes) (n : Int) (m : Nat), R.rn f k acc l = some (n, m) →
    (R.compact n).length = m ∧ ∃ x : Int, n = acc + x * ((2 ^ (7 * k) : Nat) : Int) ∧ k < m ∧ l.take (m - k) = dg (m - k) x
  | 0, _, _, _, _, _, h => by simp [R.rn] at h
  | _ + 1, _, _, [], _, _, h => by simp [R.rn] at h
  | f + 1, k, acc, c :: r, n, m, h => by
    have p7 : 2 ^ (7 * (k + 1)) = 128 * 2 ^ (7 * k) := by rw [Nat.mul_add, Nat.pow_add]; omega
    have hc := c.toNat_lt
    unfold R.rn at h
    split at h
    · obtain ⟨h1, x, h2, h3, h4⟩ := rn_back f (k + 1) _ r n m h
      refine ⟨h1, ((c.toNat % 128 : Nat) : Int) + 128 * x, ?_, by omega, ?_⟩
      · rw [h2, p7]
        generalize 2 ^ (7 * k) = y
        push_cast
        have : x * (128 * (y : Int)) = 128 * x * y := by rw [← Int.mul_assoc, Int.mul_comm x 128]
        rw [Int.add_mul, this]
        omega
      · obtain ⟨j, hj⟩ : ∃ j, m - (k + 1) = j + 1 := ⟨m - (k + 1) - 1, by omega⟩
        have hj' : m - k = j + 2 := by omega
        rw [hj] at h4
        rw [hj', List.take_succ_cons, h4]
        show _ = _ :: _
        have e1 : (((c.toNat % 128 : Nat) : Int) + 128 * x) / 128 = x := by omega
        have e2 : (((c.toNat % 128 : Nat) : Int) + 128 * x) % 128 + 128 = c.toNat := by omega
        rw [e1, b8_of e2]
    · generalize hx : (if 64 ≤ c.toNat then ((acc + c.toNat % 128 * 2 ^ (7 * k) : Nat) : Int) - ((2 ^ (7 * (k + 1)) : Nat) : Int) else ((acc + c.toNat % 128 * 2 ^ (7 * k) : Nat) : Int)) = x at h
      simp only at h
      split at h
      · rename_i hf
        simp only [Option.some.injEq, Prod.mk.injEq] at h
        obtain ⟨rfl, rfl⟩ := h
        refine ⟨hf.2, if 64 ≤ c.toNat then (c.toNat : Int) - 128 else c.toNat, ?_, by omega, ?_⟩
        · rw [← hx, p7]
          generalize 2 ^ (7 * k) = y
          have : c.toNat % 128 = c.toNat := by omega
          rw [this]
          split
          · rw [Int.sub_mul]; push_cast; omega
          · push_cast; rfl
        · rw [show k + 1 - k = 1 by omega, List.take_succ_cons, List.take_zero]
          show _ = [b8 _]
          rw [b8_of (c := c) (by split <;> omega)]
      · cases h
theorem numR_back {l : Bytes} {n : Int} {m : Nat} (h : R.numR l = some (n, m)) : l.take m = R.compact n := by
  obtain ⟨h1, x, h2, -, h3⟩ := rn_back 5 0 0 l n m h
  have hx : n = x := by rw [h2, Nat.mul_zero, Nat.pow_zero]; omega
  rw [Nat.sub_zero] at h3
  rw [h3, hx, ← h1, hx]
  unfold R.compact
  rw [← cg_dg]

/-! ### what is read, where nothing is bad, stood there -/
/-- where the reading is not bad behind it, it was not before it, and what stood between is l -/
def Stood (s : Bytes) (p q : PS) (l : Bytes) : Prop := p.1 ≤ s.length → q.2 = false → p.2 = false ∧ q.1 ≤ s.length ∧ s.drop p.1 = l ++ s.drop q.1
theorem Stood.refl {s : Bytes} {p : PS} : Stood s p p [] := fun h1 h2 => ⟨h2, h1, rfl⟩
theorem Stood.cons {s l m : Bytes} {p q r : PS} (a : Stood s p q l) (b : Stood s q r m) (hq : p.1 ≤ s.length → q.1 ≤ s.length) : Stood s p r (l ++ m) := fun h1 h2 => by
  obtain ⟨b1, b2, b3⟩ := b (hq h1) h2
  obtain ⟨a1, a2, a3⟩ := a h1 b1
  exact ⟨a1, b2, by rw [a3, b3, List.append_assoc]⟩
theorem drop_take {s : Bytes} {a n : Nat} {l : Bytes} (h : (s.drop a).take n = l) : s.drop a = l ++ s.drop (a + n) := by
  rw [← h, ← List.drop_drop, List.take_append_drop]
theorem byte_place {s : Bytes} {p : PS} (h : p.1 ≤ s.length) : (pByte s p).2.1 ≤ s.length := by
  show (if R.canTake s p.1 p.2 1 then p.1 + 1 else p.1) ≤ s.length
  split
  · rename_i c; have := c.2.2; omega
  · exact h
theorem word_place {s : Bytes} {p : PS} (h : p.1 ≤ s.length) : (pWord s p).2.1 ≤ s.length := by
  show (if R.canTake s p.1 p.2 4 then p.1 + 4 else p.1) ≤ s.length
  split
  · rename_i c; have := c.2.2; omega
  · exact h
theorem text_place {s : Bytes} {p : PS} (h : p.1 ≤ s.length) : (pText s p).2.1 ≤ s.length := by
  show (if R.canText s p.1 p.2 then p.1 + (R.textEnd s p.1).toNat + 1 else p.1) ≤ s.length
  split
  · rename_i c; have := R.textEnd_lt s p.1 h c.2.1; have := c.2.1; omega
  · exact h
theorem num_place {s : Bytes} {p : PS} (h : p.1 ≤ s.length) : (pNum s p).2.1 ≤ s.length := by
  show ((R.rNum s p.1 p.2).map (fun x => p.1 + x.2)).getD p.1 ≤ s.length
  cases e : R.rNum s p.1 p.2 with
  | none => exact h
  | some x =>
    unfold R.rNum at e
    split at e
    · cases e
    · have := (R.rn_le _ _ _ _ _ _ e).2.1
      simp at this ⊢
      omega
theorem byte_stood {s : Bytes} {p : PS} : Stood s p (pByte s p).2 (encI (.byte (pByte s p).1)) := fun h1 h2 => by
  have h2 : (if R.canTake s p.1 p.2 1 then false else true) = false := h2
  have hc : R.canTake s p.1 p.2 1 := by by_cases c : R.canTake s p.1 p.2 1; exact c; rw [if_neg c] at h2; cases h2
  refine ⟨hc.1, byte_place h1, ?_⟩
  show s.drop p.1 = [b8 (R.rByte s p.1 p.2)] ++ s.drop (if R.canTake s p.1 p.2 1 then p.1 + 1 else p.1)
  have hl : p.1 < s.length := by have := hc.2.2; omega
  rw [if_pos hc, R.rByte, if_pos hc, List.getElem?_eq_getElem hl, Option.getD_some, b8_of rfl, List.singleton_append]
  exact List.drop_eq_getElem_cons hl
theorem wordb_v : ∀ (a b c d : UInt8), R.wordb (R.wordv [a, b, c, d]) = [a, b, c, d] := fun a b c d => by
  have h1 := a.toNat_lt
  have h2 := b.toNat_lt
  have h3 := c.toNat_lt
  have h4 := d.toNat_lt
  unfold R.wordb
  simp only [R.wordv]
  have k : ∀ {x : Int} {c : UInt8}, x % 256 = c.toNat → b8 x = c := fun {x c} h => by
    have e := b8_nat x
    apply UInt8.toNat_inj.1
    omega
  rw [k (c := a) (by omega), k (c := b) (by omega), k (c := c) (by omega), k (c := d) (by omega)]
theorem word_stood {s : Bytes} {p : PS} : Stood s p (pWord s p).2 (encI (.word (pWord s p).1)) := fun h1 h2 => by
  have h2 : (if R.canTake s p.1 p.2 4 then false else true) = false := h2
  have hc : R.canTake s p.1 p.2 4 := by by_cases c : R.canTake s p.1 p.2 4; exact c; rw [if_neg c] at h2; cases h2
  refine ⟨hc.1, word_place h1, ?_⟩
  show s.drop p.1 = R.wordb (R.rWord s p.1 p.2) ++ s.drop (if R.canTake s p.1 p.2 4 then p.1 + 4 else p.1)
  obtain ⟨a, b, c, d, e⟩ := R.taken4 hc
  rw [if_pos hc, R.rWord, if_pos hc, e, wordb_v]
  rw [R.taken, if_pos hc] at e
  exact drop_take e
theorem ib_back : ∀ (l : Bytes), 0 ≤ Lib.indexByte l 0 → 0 ∉ l.take (Lib.indexByte l 0).toNat ∧ l.take ((Lib.indexByte l 0).toNat + 1) = l.take (Lib.indexByte l 0).toNat ++ [0]
  | [], h => by simp [Lib.indexByte] at h
  | c :: l, h => by
    have hge := Lib.indexByte_ge l 0
    unfold Lib.indexByte at h ⊢
    by_cases hc : c = 0
    · subst hc; simp
    · rw [if_neg (by simpa using hc)] at h ⊢
      by_cases e : Lib.indexByte l 0 = -1
      · rw [if_pos (by simp [e])] at h; omega
      · rw [if_neg (by simpa using e)] at h ⊢
        have ih := ib_back l (by omega)
        rw [show (Lib.indexByte l 0 + 1).toNat = (Lib.indexByte l 0).toNat + 1 by omega]
        refine ⟨?_, ?_⟩
        · rw [List.take_succ_cons]
          intro e
          rcases List.mem_cons.1 e with e | e
          · exact hc e.symm
          · exact ih.1 e
        · rw [List.take_succ_cons, ih.2, List.take_succ_cons]; rfl
theorem text_stood {s : Bytes} {p : PS} : Stood s p (pText s p).2 (encI (.text (pText s p).1)) := fun h1 h2 => by
  have h2 : (if R.canText s p.1 p.2 then false else true) = false := h2
  have hc : R.canText s p.1 p.2 := by by_cases c : R.canText s p.1 p.2; exact c; rw [if_neg c] at h2; cases h2
  refine ⟨hc.1, text_place h1, ?_⟩
  show s.drop p.1 = (if R.canText s p.1 p.2 then (s.drop p.1).take (R.textEnd s p.1).toNat else []) ++ [0] ++ s.drop (if R.canText s p.1 p.2 then p.1 + (R.textEnd s p.1).toNat + 1 else p.1)
  rw [if_pos hc, if_pos hc, Nat.add_assoc]
  exact drop_take (ib_back (s.drop p.1) hc.2.1).2
theorem num_stood {s : Bytes} {p : PS} : Stood s p (pNum s p).2 (encI (.num (pNum s p).1)) := fun h1 h2 => by
  have h3 := num_place h1
  cases e : R.rNum s p.1 p.2 with
  | none =>
    have h2 : (R.rNum s p.1 p.2).isNone = false := h2
    rw [e] at h2; cases h2
  | some x =>
    have e' := e
    unfold R.rNum at e
    split at e
    · cases e
    · rename_i hb
      refine ⟨by simpa using hb, h3, ?_⟩
      simp only [pNum, e']
      exact drop_take (numR_back e)
end

/-! The reference's reading of a file: plain; it answers as the program's. No condition but what each theorem says. -/
section
open Go Go.Eng

def rCount (s : Bytes) (most : Int) (p : PS) : Int × PS := if (pNum s p).1 < 0 ∨ most < (pNum s p).1 then (0, (pNum s p).2.1, true) else pNum s p
def rFlag (s : Bytes) (p : PS) : Bool × PS := (decide ((pByte s p).1 = 1), (pByte s p).2.1, if 1 < (pByte s p).1 then true else (pByte s p).2.2)
def rEach {α : Type} (s : Bytes) (most : Int) (g : PS → α × PS) (p : PS) : List α × PS := pMany g (rCount s most p).1.toNat (rCount s most p).2
def rFld (s : Bytes) (p : PS) : Fld × PS :=
  let a := pText s p
  let b := rFlag s a.2
  let c := pNum s b.2
  (⟨a.1, b.1, c.1⟩, c.2)
def rPar (s : Bytes) (p : PS) : Par × PS :=
  let a := rFlag s p
  let b := pNum s a.2
  (⟨a.1, b.1⟩, b.2)
def rTy (s : Bytes) (p : PS) : Ty × PS :=
  let a1 := pByte s p
  let a2 := pText s a1.2
  let a3 := pText s a2.2
  let a4 := pNum s a3.2
  let a5 := pNum s a4.2
  let a6 := pNum s a5.2
  let a7 := pNum s a6.2
  let a8 := pNum s a7.2
  let a9 := rEach s 64 (rFld s) a8.2
  let a10 := rEach s 64 (rPar s) a9.2
  (⟨a1.1, a2.1, a3.1, a4.1, a5.1, a6.1, a9.1, a10.1, a7.1, a8.1⟩, a10.2)
/-- an interface behind its first word -/
def rFace (s : Bytes) (p : PS) : Face × PS :=
  let a1 := pText s p
  let a2 := pWord s a1.2
  let a3 := rEach s 16 (pUsed s) a2.2
  let a4 := rEach s 249 (rTy s) a3.2
  let a5 := rEach s 64 (pOb s) a4.2
  (⟨a1.1, a2.1, a3.1, basic ++ a4.1, a5.1⟩, a5.2)

/-! ### what was written is read -/
theorem count_takes {s : Bytes} {n most : Int} (h0 : 0 ≤ n) (hm : n ≤ most) (hn : okI (.num n)) : Takes s (rCount s most) (encI (.num n)) n := fun a r ha h => by
  have e := num_takes hn a r ha h
  unfold rCount
  rw [e]
  exact if_neg (by simp only; omega)
theorem flag_takes {s : Bytes} (b : Bool) : Takes s (rFlag s) (encI (.byte (flagV b))) b := fun a r ha h => by
  have e := byte_takes (flag_ok b) a r ha h
  unfold rFlag
  rw [e]
  cases b <;> simp [flagV]
theorem reach_takes {α : Type} {s : Bytes} {g : PS → α × PS} {e : α → List It} {xs : List α} {n most : Int} (hn : n = xs.length) (hm : n ≤ most) (hl : okI (.num n)) (hg : ∀ x ∈ xs, Takes s g (E (e x)) x) : Takes s (rEach s most g) (encI (.num n) ++ E (xs.flatMap e)) xs := fun a r ha h => by
  rw [List.append_assoc] at h
  obtain ⟨h1, h2, h3⟩ := (count_takes (by omega) hm hl).at_ ha h
  have h4 := many_takes xs hg _ r h2 h3
  subst hn
  unfold rEach
  rw [h1]
  simp only [Int.toNat_natCast]
  rw [h4, List.length_append, Nat.add_assoc]
theorem rfld_takes {s : Bytes} {x : Fld} (ok : allOk (fldIts x)) : Takes s (rFld s) (E (fldIts x)) x := fun a r ha h => by
  simp only [fldIts, allOk_cons] at ok
  simp only [fldIts, E_cons, E_nil, List.append_assoc, List.nil_append] at h
  obtain ⟨e1, l1, d1⟩ := (text_takes ok.1).at_ ha h
  obtain ⟨e2, l2, d2⟩ := (flag_takes x.exp).at_ l1 d1
  obtain ⟨e3, l3, d3⟩ := (num_takes ok.2.2.1).at_ l2 d2
  simp only [rFld, e1, e2, e3]
  simp only [fldIts, E_cons, E_nil, List.length_append, List.append_nil, Nat.add_assoc]
theorem rpar_takes {s : Bytes} {x : Par} (ok : allOk (parIts x)) : Takes s (rPar s) (E (parIts x)) x := fun a r ha h => by
  simp only [parIts, allOk_cons] at ok
  simp only [parIts, E_cons, E_nil, List.append_assoc, List.nil_append] at h
  obtain ⟨e1, l1, d1⟩ := (flag_takes x.byVar).at_ ha h
  obtain ⟨e2, l2, d2⟩ := (num_takes ok.2.1).at_ l1 d1
  simp only [rPar, e1, e2]
  simp only [parIts, E_cons, E_nil, List.length_append, List.append_nil, Nat.add_assoc]
theorem rty_takes {s : Bytes} {x : Ty} (ok : allOk (tyIts x)) (hs : x.fields.length ≤ 64 ∧ x.params.length ≤ 64) : Takes s (rTy s) (E (tyIts x)) x := fun a r ha h => by
  simp only [tyIts, List.cons_append, List.nil_append, allOk_cons, allOk_append] at ok
  simp only [tyIts, List.cons_append, List.nil_append, E_cons, E_append] at h
  obtain ⟨x1, x2, x3, x4, x5, x6, x7, x8, x9, x10, x11, x12⟩ := ok
  rw [← List.append_assoc (encI (.num x.fields.length))] at h
  have hf := reach_takes (s := s) (most := 64) rfl (by omega) x9 (fun f hf => rfld_takes (ok_mem x10 f hf))
  have hp := reach_takes (s := s) (most := 64) rfl (by omega) x11 (fun f hf => rpar_takes (ok_mem x12 f hf))
  generalize hF : encI (.num x.fields.length) ++ E (x.fields.flatMap fldIts) = F at *
  generalize hP : encI (.num x.params.length) ++ E (x.params.flatMap parIts) = P at *
  simp only [List.append_assoc] at h
  obtain ⟨e1, l1, d1⟩ := (byte_takes x1).at_ ha h
  obtain ⟨e2, l2, d2⟩ := (text_takes x2).at_ l1 d1
  obtain ⟨e3, l3, d3⟩ := (text_takes x3).at_ l2 d2
  obtain ⟨e4, l4, d4⟩ := (num_takes x4).at_ l3 d3
  obtain ⟨e5, l5, d5⟩ := (num_takes x5).at_ l4 d4
  obtain ⟨e6, l6, d6⟩ := (num_takes x6).at_ l5 d5
  obtain ⟨e7, l7, d7⟩ := (num_takes x7).at_ l6 d6
  obtain ⟨e8, l8, d8⟩ := (num_takes x8).at_ l7 d7
  obtain ⟨e9, l9, d9⟩ := hf.at_ l8 d8
  obtain ⟨e10, l10, d10⟩ := hp.at_ l9 d9
  simp only [rTy, e1, e2, e3, e4, e5, e6, e7, e8, e9, e10]
  simp only [tyIts, List.cons_append, List.nil_append, E_cons, E_append]
  rw [← List.append_assoc (encI (.num x.fields.length)), hF, hP]
  simp only [List.length_append, Nat.add_assoc]
theorem rface_takes {s : Bytes} {f : Face} (hs : s = E (faceIts f)) (ok : allOk (faceIts f)) (so : ∀ o ∈ f.objs, setOk o.val) (hb : f.types.take 7 = basic) (hl : 7 ≤ f.types.length)
    (hu : f.uses.length ≤ 16) (ht : f.types.length ≤ 256) (hx : ∀ x ∈ f.types, x.fields.length ≤ 64 ∧ x.params.length ≤ 64) (ho : f.objs.length ≤ 64) :
    (pText s (0, false)).1 = magic ∧ rFace s (pText s (0, false)).2 = (f, s.length, false) := by
  have h : s.drop 0 = E (faceIts f) ++ [] := by rw [List.drop_zero, List.append_nil]; exact hs
  simp only [faceIts, List.cons_append, List.nil_append, allOk_cons, allOk_append] at ok
  simp only [faceIts, List.cons_append, List.nil_append, E_cons, E_append] at h
  obtain ⟨x1, x2, x3, x4, x5, x6, x7, x8, x9⟩ := ok
  have hu := reach_takes (s := s) (most := 16) rfl (by omega) x4 (fun u hu => used_takes (ok_mem x5 u hu))
  have ht := reach_takes (s := s) (most := 249) (xs := f.types.drop 7) (by rw [List.length_drop]; omega) (by omega) x6 (fun u hu => rty_takes (ok_mem x7 u hu) (hx u (List.mem_of_mem_drop hu)))
  have ho := reach_takes (s := s) (most := 64) rfl (by omega) x8 (fun o ho => ob_takes ⟨ok_mem x9 o ho, so o ho⟩)
  rw [← List.append_assoc (encI (.num f.uses.length)), ← List.append_assoc (encI (.num ((f.types.length : Int) - 7)))] at h
  simp only [List.append_assoc (encI (.text _)), List.append_assoc (encI (.word _))] at h
  obtain ⟨e1, l1, d1⟩ := (text_takes x1).at_ (Nat.zero_le _) h
  obtain ⟨e2, l2, d2⟩ := (text_takes x2).at_ l1 d1
  obtain ⟨e3, l3, d3⟩ := (word_takes x3).at_ l2 d2
  rw [List.append_assoc] at d3
  obtain ⟨e4, l4, d4⟩ := hu.at_ l3 d3
  rw [List.append_assoc] at d4
  obtain ⟨e5, l5, d5⟩ := ht.at_ l4 d4
  obtain ⟨e6, l6, d6⟩ := ho.at_ l5 d5
  have hend := congrArg List.length d6
  simp only [List.length_drop, List.length_nil] at hend
  refine ⟨by rw [e1], ?_⟩
  simp only [e1, rFace, e2, e3, e4, e5, e6]
  rw [← hb, List.take_append_drop]
  refine Prod.ext rfl (Prod.ext ?_ rfl)
  simp only
  omega

/-! ### what is read, where nothing is bad, is what would be written -/
/-- a reading stays within the text -/
def Plc {α : Type} (s : Bytes) (g : PS → α × PS) : Prop := ∀ p, p.1 ≤ s.length → (g p).2.1 ≤ s.length
def Std {α : Type} (s : Bytes) (g : PS → α × PS) (e : α → List It) : Prop := ∀ p, Stood s p (g p).2 (E (e (g p).1))
theorem Stood.eq {s l m : Bytes} {p q : PS} (a : Stood s p q l) (h : l = m) : Stood s p q m := h ▸ a
theorem count_place {s : Bytes} {most : Int} : Plc s (rCount s most) := fun p h => by
  unfold rCount
  split
  · exact num_place h
  · exact num_place h
theorem flag_place {s : Bytes} : Plc s (rFlag s) := fun _ h => byte_place h
theorem many_place {α : Type} {s : Bytes} {g : PS → α × PS} (hg : Plc s g) : ∀ (n : Nat), Plc s (pMany g n)
  | 0, p, h => h
  | n + 1, p, h => by
    unfold pMany
    split
    · exact h
    · exact many_place hg n _ (hg p h)
theorem reach_place {α : Type} {s : Bytes} {most : Int} {g : PS → α × PS} (hg : Plc s g) : Plc s (rEach s most g) := fun p h => many_place hg _ _ (count_place p h)
theorem used_place {s : Bytes} : Plc s (pUsed s) := fun _ h => word_place (text_place h)
theorem rfld_place {s : Bytes} : Plc s (rFld s) := fun _ h => num_place (flag_place _ (text_place h))
theorem rpar_place {s : Bytes} : Plc s (rPar s) := fun _ h => num_place (flag_place _ h)
theorem rty_place8 {s : Bytes} {p : PS} (h : p.1 ≤ s.length) : (pNum s (pNum s (pNum s (pNum s (pNum s (pText s (pText s (pByte s p).2).2).2).2).2).2).2).2.1 ≤ s.length :=
  num_place (num_place (num_place (num_place (num_place (text_place (text_place (byte_place h)))))))
theorem rty_place {s : Bytes} : Plc s (rTy s) := fun _ h => reach_place rpar_place _ (reach_place rfld_place _ (rty_place8 h))
theorem ob_place {s : Bytes} : Plc s (pOb s) := fun _ h => num_place (text_place (num_place (byte_place (num_place (text_place (byte_place h))))))
theorem flag_stood {s : Bytes} {p : PS} : Stood s p (rFlag s p).2 (encI (.byte (flagV (rFlag s p).1))) := fun h1 h2 => by
  have h2 : (if 1 < (pByte s p).1 then true else (pByte s p).2.2) = false := h2
  have hb := pByte_in s p
  split at h2
  · cases h2
  · obtain ⟨a, b, c⟩ := byte_stood h1 h2
    refine ⟨a, b, ?_⟩
    have e : flagV (rFlag s p).1 = (pByte s p).1 := by
      show flagV (decide ((pByte s p).1 = 1)) = _
      unfold flagV
      by_cases e : (pByte s p).1 = 1
      · rw [e]; rfl
      · simp only [e, decide_false]; simp; omega
    rw [e]; exact c
theorem count_stood {s : Bytes} {most : Int} {p : PS} : Stood s p (rCount s most p).2 (encI (.num (rCount s most p).1)) ∧ ((rCount s most p).2.2 = false → 0 ≤ (rCount s most p).1) := by
  unfold rCount
  split
  · exact ⟨(fun _ h => by cases h), (fun h => by cases h)⟩
  · exact ⟨num_stood, fun _ => by omega⟩
theorem many_stood {α : Type} {s : Bytes} {g : PS → α × PS} {e : α → List It} (hg : Std s g e) (hp : Plc s g) : ∀ (n : Nat) (p : PS), Stood s p (pMany g n p).2 (E ((pMany g n p).1.flatMap e)) ∧ ((pMany g n p).2.2 = false → (pMany g n p).1.length = n)
  | 0, p => ⟨Stood.refl, fun _ => rfl⟩
  | n + 1, p => by
    unfold pMany
    split
    · rename_i hb
      have hn : ¬ p.2 = false := by rw [hb]; decide
      exact ⟨fun _ h => absurd h hn, fun h => absurd h hn⟩
    · obtain ⟨a, b⟩ := many_stood hg hp n (g p).2
      refine ⟨?_, fun h => ?_⟩
      · rw [List.flatMap_cons, E_append]
        exact (hg p).cons a (hp p)
      · rw [List.length_cons, b h]
theorem many_bad {α : Type} {g : PS → α × PS} : ∀ (n : Nat) (p : PS), p.2 = true → (pMany g n p).2.2 = true
  | 0, _, h => h
  | n + 1, p, h => by unfold pMany; rw [if_pos h]; exact h
theorem reach_stood {α : Type} {s : Bytes} {most : Int} {g : PS → α × PS} {e : α → List It} (hg : Std s g e) (hp : Plc s g) {p : PS} : Stood s p (rEach s most g p).2 (encI (.num ((rEach s most g p).1.length : Nat)) ++ E ((rEach s most g p).1.flatMap e)) := fun h1 h2 => by
  obtain ⟨c1, c2⟩ := count_stood (s := s) (most := most) (p := p)
  obtain ⟨a, b⟩ := many_stood hg hp (rCount s most p).1.toNat (rCount s most p).2
  have hb : (rCount s most p).2.2 = false := by
    cases e : (rCount s most p).2.2
    · rfl
    · have := many_bad (g := g) (rCount s most p).1.toNat (rCount s most p).2 e
      have h2 : (pMany g (rCount s most p).1.toNat (rCount s most p).2).2.2 = false := h2
      rw [this] at h2; cases h2
  have hl : ((rEach s most g p).1.length : Int) = (rCount s most p).1 := by
    have h3 : (rEach s most g p).1.length = (rCount s most p).1.toNat := b h2
    have := c2 hb
    omega
  rw [hl]
  exact (c1.cons a (count_place p)) h1 h2
theorem used_stood {s : Bytes} : Std s (pUsed s) usedIts := fun p => by
  refine (text_stood.cons word_stood text_place).eq ?_
  simp only [usedIts, pUsed, E_cons, E_nil, List.append_nil]
theorem rfld_stood {s : Bytes} : Std s (rFld s) fldIts := fun p => by
  refine (text_stood.cons (flag_stood.cons num_stood (flag_place _)) text_place).eq ?_
  simp only [fldIts, rFld, E_cons, E_nil, List.append_nil]
theorem rpar_stood {s : Bytes} : Std s (rPar s) parIts := fun p => by
  refine (flag_stood.cons num_stood (flag_place _)).eq ?_
  simp only [parIts, rPar, E_cons, E_nil, List.append_nil]
theorem rty_stood {s : Bytes} : Std s (rTy s) tyIts := fun p => by
  refine (byte_stood.cons (text_stood.cons (text_stood.cons (num_stood.cons (num_stood.cons (num_stood.cons (num_stood.cons (num_stood.cons ((reach_stood (most := 64) rfld_stood rfld_place).cons (reach_stood (most := 64) rpar_stood rpar_place) (reach_place rfld_place _)) num_place) num_place) num_place) num_place) num_place) text_place) text_place) byte_place).eq ?_
  simp only [tyIts, rTy, List.cons_append, List.nil_append, E_cons, E_append, List.append_assoc]
theorem sgn_of {x : Int} (h : R.fit32 x) : sgn32 (IntKind.u32.wrap (IntKind.u32.wrap x)) = x := by
  unfold R.fit32 at h
  unfold sgn32
  simp only [IntKind.wrap, IntKind.bits, IntKind.signed]
  simp
  split <;> omega
theorem ob_stood {s : Bytes} : Std s (pOb s) obIts := fun p => by
  refine (byte_stood.cons (text_stood.cons (num_stood.cons (byte_stood.cons (num_stood.cons (text_stood.cons num_stood text_place) num_place) byte_place) num_place) text_place) byte_place).eq ?_
  have hv : ∀ (f n : Int) (t : Bytes), R.fit32 n → numV ⟨f, if f = 4 then IntKind.u32.wrap n else n, t⟩ = n := fun f n t h => by
    unfold numV
    by_cases c : f = 4
    · simp only [c, if_true]; exact sgn_of h
    · simp only [c, if_false]
  simp only [obIts, pOb, E_cons, E_nil, List.append_nil, hv _ _ _ (pNum_fit _ _)]
theorem rface_stood {s : Bytes} {p : PS} (hm : (pText s p).1 = magic) : Stood s p (rFace s (pText s p).2).2 (E (faceIts (rFace s (pText s p).2).1)) := by
  refine (text_stood.cons (text_stood.cons (word_stood.cons ((reach_stood (most := 16) used_stood used_place).cons ((reach_stood (most := 249) rty_stood rty_place).cons (reach_stood (most := 64) ob_stood ob_place) (reach_place rty_place _)) (reach_place used_place _)) word_place) text_place) text_place).eq ?_
  have hb : basic.length = 7 := rfl
  have e1 : ∀ l : List Ty, (((basic ++ l).length : Nat) : Int) - 7 = l.length := fun l => by rw [List.length_append]; omega
  have e2 : ∀ l : List Ty, (basic ++ l).drop 7 = l := fun l => by rw [← hb, List.drop_left]
  simp only [faceIts, rFace, List.cons_append, List.nil_append, E_cons, E_append, hm, e1, e2, List.append_assoc]

/-! ### both answers -/
theorem many_all {α : Type} {g : PS → α × PS} {P : α → Prop} (h : ∀ p, P (g p).1) : ∀ (n : Nat) (p : PS), ∀ x ∈ (pMany g n p).1, P x
  | 0, p => fun x hx => by cases hx
  | n + 1, p => by
    unfold pMany
    split
    · exact fun x hx => by cases hx
    · intro x hx
      rcases List.mem_cons.1 hx with rfl | hx
      · exact h p
      · exact many_all h n _ x hx
/-- what the reference takes for a file -/
def RefOk (s : Bytes) : Prop := s.length ≤ 131072 ∧ (pText s (0, false)).1 = magic ∧ (rFace s (pText s (0, false)).2).2 = (s.length, false) ∧ FGood (rFace s (pText s (0, false)).2).1
/-- what the reference's reading of a file answers -/
def RefR (s : Bytes) (g : Face) (e : Int) : Prop := (e = 0 ∧ RefOk s ∧ g = (rFace s (pText s (0, false)).2).1) ∨ (e = 170 ∧ g = zeroF ∧ ¬ RefOk s)
theorem ref_dec {s : Bytes} (h : RefOk s) : DecOk s ∧ (pFace s (pText s (0, false)).2).1 = (rFace s (pText s (0, false)).2).1 := by
  obtain ⟨hl, hm, he, hg⟩ := h
  have hk : inU32 (rFace s (pText s (0, false)).2).1.key := pWord_in _ _
  have hu : ∀ u ∈ (rFace s (pText s (0, false)).2).1.uses, inU32 u.key := many_all (g := pUsed s) (P := fun u => inU32 u.key) (fun p => pWord_in _ _) _ _
  obtain ⟨-, -, h3⟩ := rface_stood hm (Nat.zero_le _) (by rw [he])
  rw [he] at h3
  simp only [List.drop_zero, List.drop_length, List.append_nil] at h3
  have hE : EncR (rFace s (pText s (0, false)).2).1 s 0 := by
    refine .inl ⟨hg, ?_, ?_⟩
    · rw [putAll_ok _ ([], false) (faceIts_ok hg hk hu)]
      unfold outB
      simp only [List.nil_append, Bool.false_eq_true, if_false, ← h3]
      rw [if_neg (by omega)]
    · rw [putAll_ok _ ([], false) (faceIts_ok hg hk hu)]
      unfold outE
      simp only [List.nil_append, Bool.false_eq_true, if_false, ← h3]
      rw [if_neg (by omega)]
  exact dec_enc hE hk hu
theorem dec_ref {s : Bytes} (h : DecOk s) : RefOk s ∧ (rFace s (pText s (0, false)).2).1 = (pFace s (pText s (0, false)).2).1 := by
  obtain ⟨-, -, hE⟩ := h
  have hk : inU32 (pFace s (pText s (0, false)).2).1.key := pWord_in _ _
  have hu : ∀ u ∈ (pFace s (pText s (0, false)).2).1.uses, inU32 u.key := many_all (g := pUsed s) (P := fun u => inU32 u.key) (fun p => pWord_in _ _) _ _
  have hl := enc_len hE
  obtain ⟨hg, hs⟩ := enc_good hE hk hu
  have h7 : 7 ≤ (pFace s (pText s (0, false)).2).1.types.length := hg.1.1.2.2.2.1.1
  obtain ⟨h1, h2⟩ := rface_takes hs (faceIts_ok hg hk hu) (fun o ho => (obIts_ok hg.1.1.2.2.2.1.2 (hg.1.2.2.2.2 o ho)).2) (take7 (needed_ok hg.1).1) h7
    hg.1.1.2.1 hg.1.1.2.2.2.1.2 hg.1.1.2.2.2.2.1.sized hg.1.1.2.2.1
  exact ⟨⟨hl, h1, by rw [h2], by rw [h2]; exact hg⟩, by rw [h2]⟩
theorem DecR.ref {s : Bytes} {g g' : Face} {e e' : Int} (a : DecR s g e) (b : RefR s g' e') : e = e' ∧ g = g' := by
  rcases a with ⟨e0, h1, hg⟩ | ⟨e0, h2, h1⟩ <;> rcases b with ⟨e1, h3, hg'⟩ | ⟨e1, h4, h3⟩
  · exact ⟨by omega, by rw [hg, hg', (ref_dec h3).2]⟩
  · exact absurd (dec_ref h1).1 h3
  · exact absurd (ref_dec h3).1 h1
  · exact ⟨by omega, by rw [h2, h4]⟩
end
end Go.Proofs.YtgnkfegkdjfnjaaGreat
