/- What reading makes of what was written: plain. The walk of symfile.each, for what each any function does. The walks of what symfile.gets does to each field and each parameter. The walk of symfile.gets. The walks of what symfile.Decode does to each used interface, each type and each object. No condition but what each theorem says. -/
import Derived.Test.YtgnkfegkdjfnjaaGreatSyp11
namespace Go.Proofs.YtgnkfegkdjfnjaaGreat
/-! What reading makes of what was written: plain. No condition but what each theorem says. -/
section
open Go Go.Eng

/-- a Reader's place, and whether it is bad -/
abbrev PS := Nat × Bool
def pByte (s : Bytes) (p : PS) : Int × PS := (R.rByte s p.1 p.2, if R.canTake s p.1 p.2 1 then p.1 + 1 else p.1, if R.canTake s p.1 p.2 1 then false else true)
def pWord (s : Bytes) (p : PS) : Int × PS := (R.rWord s p.1 p.2, if R.canTake s p.1 p.2 4 then p.1 + 4 else p.1, if R.canTake s p.1 p.2 4 then false else true)
def pText (s : Bytes) (p : PS) : Bytes × PS := (if R.canText s p.1 p.2 then (s.drop p.1).take (R.textEnd s p.1).toNat else [], if R.canText s p.1 p.2 then p.1 + (R.textEnd s p.1).toNat + 1 else p.1, if R.canText s p.1 p.2 then false else true)
def pNum (s : Bytes) (p : PS) : Int × PS := (((R.rNum s p.1 p.2).map (·.1)).getD 0, ((R.rNum s p.1 p.2).map (fun x => p.1 + x.2)).getD p.1, (R.rNum s p.1 p.2).isNone)
/-- so many, as long as the Reader is not bad -/
def pMany {α : Type} (g : PS → α × PS) : Nat → PS → List α × PS
  | 0, p => ([], p)
  | n + 1, p => if p.2 then ([], p) else ((g p).1 :: (pMany g n (g p).2).1, (pMany g n (g p).2).2)
def pEach {α : Type} (s : Bytes) (g : PS → α × PS) (p : PS) : List α × PS := pMany g (pNum s p).1.toNat (pNum s p).2
def pUsed (s : Bytes) (p : PS) : Used × PS :=
  let a := pText s p
  let b := pWord s a.2
  (⟨a.1, b.1⟩, b.2)
def pFld (s : Bytes) (p : PS) : Fld × PS :=
  let a := pText s p
  let b := pByte s a.2
  let c := pNum s b.2
  (⟨a.1, decide (b.1 = 1), c.1⟩, c.2)
def pPar (s : Bytes) (p : PS) : Par × PS :=
  let a := pByte s p
  let b := pNum s a.2
  (⟨decide (a.1 = 1), b.1⟩, b.2)
def pTy (s : Bytes) (p : PS) : Ty × PS :=
  let a1 := pByte s p
  let a2 := pText s a1.2
  let a3 := pText s a2.2
  let a4 := pNum s a3.2
  let a5 := pNum s a4.2
  let a6 := pNum s a5.2
  let a7 := pNum s a6.2
  let a8 := pNum s a7.2
  let a9 := pEach s (pFld s) a8.2
  let a10 := pEach s (pPar s) a9.2
  (⟨a1.1, a2.1, a3.1, a4.1, a5.1, a6.1, a9.1, a10.1, a7.1, a8.1⟩, a10.2)
def pOb (s : Bytes) (p : PS) : Ob × PS :=
  let a1 := pByte s p
  let a2 := pText s a1.2
  let a3 := pNum s a2.2
  let a4 := pByte s a3.2
  let a5 := pNum s a4.2
  let a6 := pText s a5.2
  let a7 := pNum s a6.2
  (⟨a1.1, a2.1, a3.1, ⟨a4.1, if a4.1 = 4 then IntKind.u32.wrap a5.1 else a5.1, a6.1⟩, a7.1⟩, a7.2)
/-- an interface behind its first word -/
def pFace (s : Bytes) (p : PS) : Face × PS :=
  let a1 := pText s p
  let a2 := pWord s a1.2
  let a3 := pEach s (pUsed s) a2.2
  let a4 := pEach s (pTy s) a3.2
  let a5 := pEach s (pOb s) a4.2
  (⟨a1.1, a2.1, a3.1, basic ++ a4.1, a5.1⟩, a5.2)

theorem wordv_b {m : Int} (h : 0 ≤ m ∧ m < 4294967296) : R.wordv (R.wordb m) = m := by
  simp only [R.wordb, R.wordv]
  have h0 := b8_nat m
  have h1 := b8_nat (m / 256)
  have h2 := b8_nat (m / 65536)
  have h3 := b8_nat (m / 16777216)
  omega
theorem ib_text : ∀ (t r : Bytes), 0 ∉ t → Lib.indexByte (t ++ 0 :: r) 0 = t.length
  | [], r, _ => by simp [Lib.indexByte]
  | c :: t, r, h => by
    have hc : ¬ c = 0 := fun e => h (e ▸ List.mem_cons_self ..)
    have ih := ib_text t r (fun e => h (List.mem_cons_of_mem _ e))
    rw [List.cons_append]
    unfold Lib.indexByte
    rw [if_neg (by simpa using hc), ih, if_neg (by simp)]
    simp
/-- at a place that is not bad, behind these bytes: what is read, and the place behind -/
def Takes {α : Type} (s : Bytes) (g : PS → α × PS) (l : Bytes) (x : α) : Prop := ∀ a r, a ≤ s.length → s.drop a = l ++ r → g (a, false) = (x, a + l.length, false)
theorem step_drop {s l r : Bytes} {a : Nat} (ha : a ≤ s.length) (h : s.drop a = l ++ r) : a + l.length ≤ s.length ∧ s.drop (a + l.length) = r := by
  have hl := congrArg List.length h
  simp only [List.length_drop, List.length_append] at hl
  refine ⟨by omega, ?_⟩
  rw [← List.drop_drop, h, List.drop_left]
theorem byte_takes {s : Bytes} {n : Int} (hn : okI (.byte n)) : Takes s (pByte s) (encI (.byte n)) n := fun a r ha h => by
  have hn : 0 ≤ n ∧ n < 256 := hn
  have hl := congrArg List.length h
  simp only [encI, List.length_drop, List.length_append, List.length_cons, List.length_nil] at hl
  have hc : R.canTake s a false 1 := ⟨rfl, by omega, by omega⟩
  have hg : s[a]? = some (b8 n) := by
    have := List.getElem?_drop (xs := s) (i := a) (j := 0)
    rw [h] at this; simpa [encI] using this.symm
  have hv : R.rByte s a false = n := by
    rw [R.rByte, if_pos hc, hg]
    exact R.b8_val hn
  simp only [pByte, hv, if_pos hc]; rfl
theorem word_takes {s : Bytes} {n : Int} (hn : okI (.word n)) : Takes s (pWord s) (encI (.word n)) n := fun a r ha h => by
  have hl := congrArg List.length h
  simp only [encI, R.wordb, List.length_drop, List.length_append, List.length_cons, List.length_nil] at hl
  have hc : R.canTake s a false 4 := ⟨rfl, by omega, by omega⟩
  have hv : R.rWord s a false = n := by
    rw [R.rWord, if_pos hc, R.taken, if_pos hc, h]
    exact wordv_b hn
  simp only [pWord, hv, if_pos hc]; rfl
theorem num_takes {s : Bytes} {n : Int} (hn : okI (.num n)) : Takes s (pNum s) (encI (.num n)) n := fun a r ha h => by
  have hv : R.rNum s a false = some (n, (R.compact n).length) := by
    have h : s.drop a = R.compact n ++ r := h
    rw [R.rNum, if_neg (by simp), h, R.numR_compact hn]
  simp only [pNum, hv]; rfl
theorem text_takes {s t : Bytes} (ht : okI (.text t)) : Takes s (pText s) (encI (.text t)) t := fun a r ha h => by
  have ht : R.textOk t := ht
  have h : s.drop a = t ++ [0] ++ r := h
  have he : R.textEnd s a = t.length := by
    rw [R.textEnd, h, List.append_assoc]; exact ib_text t r ht.2
  have hc : R.canText s a false := ⟨rfl, by omega, by rw [he]; have := ht.1; omega⟩
  simp only [pText, if_pos hc, he, h]
  simp [encI]; omega
/-- of Takes in a row -/
theorem Takes.at_ {α : Type} {s l r : Bytes} {g : PS → α × PS} {x : α} {a : Nat} (t : Takes s g l x) (ha : a ≤ s.length) (h : s.drop a = l ++ r) :
    g (a, false) = (x, a + l.length, false) ∧ a + l.length ≤ s.length ∧ s.drop (a + l.length) = r := ⟨t a r ha h, step_drop ha h⟩
theorem many_takes {α : Type} {s : Bytes} {g : PS → α × PS} {e : α → List It} : ∀ (xs : List α), (∀ x ∈ xs, Takes s g (E (e x)) x) → Takes s (pMany g xs.length) (E (xs.flatMap e)) xs
  | [], _, a, r, _, _ => by simp [pMany, E]
  | x :: xs, hg, a, r, ha, h => by
    rw [List.flatMap_cons, E_append, List.append_assoc] at h
    obtain ⟨h1, h2, h3⟩ := (hg x (List.mem_cons_self ..)).at_ ha h
    have ih := many_takes xs (fun y hy => hg y (List.mem_cons_of_mem _ hy)) _ r h2 h3
    rw [List.length_cons, pMany, if_neg (by simp), h1, ih, List.flatMap_cons, E_append, List.length_append, Nat.add_assoc]
theorem each_takes {α : Type} {s : Bytes} {g : PS → α × PS} {e : α → List It} {xs : List α} {n : Int} (hn : n = xs.length) (hl : okI (.num n)) (hg : ∀ x ∈ xs, Takes s g (E (e x)) x) : Takes s (pEach s g) (encI (.num n) ++ E (xs.flatMap e)) xs := fun a r ha h => by
  rw [List.append_assoc] at h
  obtain ⟨h1, h2, h3⟩ := (num_takes hl).at_ ha h
  have h4 := many_takes xs hg _ r h2 h3
  subst hn
  unfold pEach
  rw [h1]
  simp only [Int.toNat_natCast]
  rw [h4, List.length_append, Nat.add_assoc]
theorem used_takes {s : Bytes} {x : Used} (ok : allOk (usedIts x)) : Takes s (pUsed s) (E (usedIts x)) x := fun a r ha h => by
  simp only [usedIts, allOk_cons] at ok
  simp only [usedIts, E_cons, E_nil, List.append_assoc, List.nil_append] at h
  obtain ⟨e1, l1, d1⟩ := (text_takes ok.1).at_ ha h
  obtain ⟨e2, l2, d2⟩ := (word_takes ok.2.1).at_ l1 d1
  simp only [pUsed, e1, e2]
  simp only [usedIts, E_cons, E_nil, List.length_append, List.append_nil, Nat.add_assoc]
theorem flag_one (b : Bool) : decide (flagV b = 1) = b := by cases b <;> decide
theorem fld_takes {s : Bytes} {x : Fld} (ok : allOk (fldIts x)) : Takes s (pFld s) (E (fldIts x)) x := fun a r ha h => by
  simp only [fldIts, allOk_cons] at ok
  simp only [fldIts, E_cons, E_nil, List.append_assoc, List.nil_append] at h
  obtain ⟨e1, l1, d1⟩ := (text_takes ok.1).at_ ha h
  obtain ⟨e2, l2, d2⟩ := (byte_takes ok.2.1).at_ l1 d1
  obtain ⟨e3, l3, d3⟩ := (num_takes ok.2.2.1).at_ l2 d2
  simp only [pFld, e1, e2, e3, flag_one]
  simp only [fldIts, E_cons, E_nil, List.length_append, List.append_nil, Nat.add_assoc]
theorem par_takes {s : Bytes} {x : Par} (ok : allOk (parIts x)) : Takes s (pPar s) (E (parIts x)) x := fun a r ha h => by
  simp only [parIts, allOk_cons] at ok
  simp only [parIts, E_cons, E_nil, List.append_assoc, List.nil_append] at h
  obtain ⟨e1, l1, d1⟩ := (byte_takes ok.1).at_ ha h
  obtain ⟨e2, l2, d2⟩ := (num_takes ok.2.1).at_ l1 d1
  simp only [pPar, e1, e2, flag_one]
  simp only [parIts, E_cons, E_nil, List.length_append, List.append_nil, Nat.add_assoc]
theorem ty_takes {s : Bytes} {x : Ty} (ok : allOk (tyIts x)) : Takes s (pTy s) (E (tyIts x)) x := fun a r ha h => by
  simp only [tyIts, List.cons_append, List.nil_append, allOk_cons, allOk_append] at ok
  simp only [tyIts, List.cons_append, List.nil_append, E_cons, E_append] at h
  obtain ⟨x1, x2, x3, x4, x5, x6, x7, x8, x9, x10, x11, x12⟩ := ok
  rw [← List.append_assoc (encI (.num x.fields.length))] at h
  have hf := each_takes (s := s) rfl x9 (fun f hf => fld_takes (ok_mem x10 f hf))
  have hp := each_takes (s := s) rfl x11 (fun f hf => par_takes (ok_mem x12 f hf))
  generalize hF : encI (.num x.fields.length) ++ E (x.fields.flatMap fldIts) = F at *
  generalize hP : encI (.num x.params.length) ++ E (x.params.flatMap parIts) = P at *
  simp only [List.append_assoc] at h
  obtain ⟨e1, l1, d1⟩ := (byte_takes x1).at_ ha h
  obtain ⟨e2, l2, d2⟩ := (text_takes x2).at_ l1 d1
  obtain ⟨e3, l3, d3⟩ := (text_takes x3).at_ l2 d2
  obtain ⟨e4, l4, d4⟩ := (num_takes x4).at_ l3 d3
  obtain ⟨e5, l5, d5⟩ := (num_takes x5).at_ l4 d4
  obtain ⟨e6, l6, d6⟩ := (num_takes x6).at_ l5 d5
  obtain ⟨e7, l7, d7⟩ := (num_takes x7).at_ l6 d6
  obtain ⟨e8, l8, d8⟩ := (num_takes x8).at_ l7 d7
  obtain ⟨e9, l9, d9⟩ := hf.at_ l8 d8
  obtain ⟨e10, l10, d10⟩ := hp.at_ l9 d9
  simp only [pTy, e1, e2, e3, e4, e5, e6, e7, e8, e9, e10]
  simp only [tyIts, List.cons_append, List.nil_append, E_cons, E_append]
  rw [← List.append_assoc (encI (.num x.fields.length)), hF, hP]
  simp only [List.length_append, Nat.add_assoc]
theorem sgn_back {x : Int} (h : 0 ≤ x ∧ x < 4294967296) : IntKind.u32.wrap (sgn32 (IntKind.u32.wrap x)) = x := by
  unfold sgn32
  simp only [IntKind.wrap, IntKind.bits, IntKind.signed]
  simp
  split <;> omega
theorem ob_takes {s : Bytes} {x : Ob} (ok : allOk (obIts x) ∧ setOk x.val) : Takes s (pOb s) (E (obIts x)) x := fun a r ha h => by
  obtain ⟨ok, hs⟩ := ok
  simp only [obIts, allOk_cons] at ok
  simp only [obIts, E_cons, E_nil, List.append_assoc, List.nil_append] at h
  obtain ⟨x1, x2, x3, x4, x5, x6, x7, -⟩ := ok
  obtain ⟨e1, l1, d1⟩ := (byte_takes x1).at_ ha h
  obtain ⟨e2, l2, d2⟩ := (text_takes x2).at_ l1 d1
  obtain ⟨e3, l3, d3⟩ := (num_takes x3).at_ l2 d2
  obtain ⟨e4, l4, d4⟩ := (byte_takes x4).at_ l3 d3
  obtain ⟨e5, l5, d5⟩ := (num_takes x5).at_ l4 d4
  obtain ⟨e6, l6, d6⟩ := (text_takes x6).at_ l5 d5
  obtain ⟨e7, l7, d7⟩ := (num_takes x7).at_ l6 d6
  have hv : (if x.val.form = 4 then IntKind.u32.wrap (numV x.val) else numV x.val) = x.val.n := by
    unfold numV
    by_cases c : x.val.form = 4
    · rw [if_pos c, if_pos c]; exact sgn_back (hs c)
    · rw [if_neg c, if_neg c]
  simp only [pOb, e1, e2, e3, e4, e5, e6, e7, hv]
  simp only [obIts, E_cons, E_nil, List.length_append, List.append_nil, Nat.add_assoc]
/-- a whole file, behind its first word -/
theorem face_takes {s : Bytes} {f : Face} (hs : s = E (faceIts f)) (ok : allOk (faceIts f)) (so : ∀ o ∈ f.objs, setOk o.val) (hb : f.types.take 7 = basic) (hl : 7 ≤ f.types.length) :
    (pText s (0, false)).1 = magic ∧ pFace s (pText s (0, false)).2 = (f, s.length, false) := by
  have h : s.drop 0 = E (faceIts f) ++ [] := by rw [List.drop_zero, List.append_nil]; exact hs
  simp only [faceIts, List.cons_append, List.nil_append, allOk_cons, allOk_append] at ok
  simp only [faceIts, List.cons_append, List.nil_append, E_cons, E_append] at h
  obtain ⟨x1, x2, x3, x4, x5, x6, x7, x8, x9⟩ := ok
  have hu := each_takes (s := s) rfl x4 (fun u hu => used_takes (ok_mem x5 u hu))
  have ht := each_takes (s := s) (xs := f.types.drop 7) (by rw [List.length_drop]; omega) x6 (fun u hu => ty_takes (ok_mem x7 u hu))
  have ho := each_takes (s := s) rfl x8 (fun o ho => ob_takes ⟨ok_mem x9 o ho, so o ho⟩)
  rw [← List.append_assoc (encI (.num f.uses.length)), ← List.append_assoc (encI (.num ((f.types.length : Int) - 7)))] at h
  simp only [List.append_assoc (encI (.text _)), List.append_assoc (encI (.word _))] at h
  obtain ⟨e1, l1, d1⟩ := (text_takes x1).at_ (Nat.zero_le _) h
  obtain ⟨e2, l2, d2⟩ := (text_takes x2).at_ l1 d1
  obtain ⟨e3, l3, d3⟩ := (word_takes x3).at_ l2 d2
  rw [List.append_assoc] at d3
  obtain ⟨e4, l4, d4⟩ := hu.at_ l3 d3
  rw [List.append_assoc] at d4
  obtain ⟨e5, l5, d5⟩ := ht.at_ l4 d4
  obtain ⟨e6, l6, d6⟩ := ho.at_ l5 d5
  have hend := congrArg List.length d6
  simp only [List.length_drop, List.length_nil] at hend
  refine ⟨by rw [e1], ?_⟩
  simp only [e1, pFace, e2, e3, e4, e5, e6]
  rw [← hb, List.take_append_drop]
  refine Prod.ext rfl (Prod.ext ?_ rfl)
  simp only
  omega
end

/-! The walk of symfile.each, for what each any function does. No condition but what each theorem says. -/
section
open Go Go.Eng

theorem each_fn {α : Type} {s : Bytes} {r f : Nat} {caps : List Value} {m0 : Nat} {g : PS → α × PS} (I : Heap → List α → PS → Prop)
    (hR : ∀ h xs p, I h xs p → R.R h r s p.1 p.2)
    (hN : ∀ h xs p h' p', I h xs p → R.R h' r s p'.1 p'.2 → Go.Eng.Mod (· = r) h h' → I h' xs p')
    (hW : ∀ h xs p, I h xs p → p.2 = false → xs.length ≤ m0 + 2147483647 → Does Tryz.prog f caps h (fun _ h' => I h' (xs ++ [(g p).1]) (g p).2))
    {h : Heap} {xs : List α} {p : PS} (h0 : I h xs p) (hm : xs.length ≤ m0) :
    Does Tryz.prog 16 [ptr r 0, .func (.func f) #[] caps.toArray] h (fun _ h' => I h' (xs ++ (pEach s g p).1) (pEach s g p).2) := by
  refine fn_enter (N := 18) Tryz.func16 (by kernel_rfl) rfl rfl rfl (fun w0 => ?_)
  refine c_seq ?_; refine c_reg ?_; refine mv rfl rfl (cl (vs := [ptr r 0]) rfl (R.RNum_fn (hR _ _ _ h0)) rfl (fun v1 h1 r1 => ?_))
  obtain ⟨rfl, r1, m1⟩ := r1
  have i1 : I h1 xs (pNum s p).2 := hN _ _ _ _ (pNum s p).2 h0 r1 m1
  have hf : R.fit32 (pNum s p).1 := by
    show R.fit32 (((R.rNum s p.1 p.2).map (·.1)).getD 0)
    cases hc : R.rNum s p.1 p.2 with
    | none => exact ⟨by decide, by decide⟩
    | some x =>
      unfold R.rNum at hc
      split at hc
      · cases hc
      · exact (R.rn_le _ _ _ _ _ _ hc).2.2
  refine asg rfl rfl ?_; refine o_nil ?_; refine x_seq ?_; refine c_blk ?_
  refine c_loop (α := Int × Heap × List α × PS) (fun y => [(0, ptr r 0), (1, .func (.func f) #[] caps.toArray), (4, i64 y.1)]) (fun y => y.2.1)
    (fun y => I y.2.1 y.2.2.1 y.2.2.2 ∧ R.fit32 y.1 ∧ xs ++ (pEach s g p).1 = y.2.2.1 ++ (pMany g y.1.toNat y.2.2.2).1 ∧ (pEach s g p).2 = (pMany g y.1.toNat y.2.2.2).2 ∧ y.2.2.1.length + y.1.toNat = xs.length + (pNum s p).1.toNat)
    (fun y => y.1.toNat) ((pNum s p).1, h1, xs, (pNum s p).2) ⟨i1, hf, rfl, rfl, rfl⟩ ⟨rfl, rfl, rfl, trivial⟩ rfl (fun y hy => ?_)
  obtain ⟨z, h2, ys, q⟩ := y
  obtain ⟨i2, hz, e1, e2, e3⟩ := hy
  simp only at i2 hz e1 e2 e3
  unfold R.fit32 at hz hf
  refine c_seq ?_; refine c_seq ?_; refine c_reg ?_; refine mv rfl rfl (gti rfl rfl rfl (mv rfl rfl ?_))
  refine cs 9 rfl (fun c2 => ?_) (fun c2 => ?_)
  · refine gd rfl rfl (mv rfl rfl (gd rfl rfl (cl (vs := [ptr r 0]) rfl (R.RBad_fn (hR _ _ _ i2)) rfl (fun v3 h3 r3 => ?_))))
    obtain ⟨rfl, rfl⟩ := r3
    refine gd rfl rfl (nt rfl rfl (pkt rfl rfl rfl ?_))
    have hk : ∃ k, z.toNat = k + 1 := ⟨z.toNat - 1, by have c2 : z > 0 := by simpa using c2
                                                       omega⟩
    obtain ⟨k, hk⟩ := hk
    refine o_nil ?_; refine x_seq ?_; refine c_cond rfl (fun c4 => ?_) (fun c4 => ?_)
    · have hq : q.2 = false := by simpa using c4
      rw [hk, pMany, if_neg (by simp [hq])] at e1 e2
      refine c_skip ?_
      refine x_seq ?_; refine c_seq ?_; refine c_blk ?_; refine c_reg ?_
      refine mv rfl rfl (cll (first := []) (captured := caps) (vs := []) rfl rfl (by simpa using hW _ _ _ i2 hq (by omega)) rfl nofun (fun v5 h5 r5 => ?_))
      refine o_nil ?_; refine x_blk ?_; refine x_seq ?_; refine c_reg ?_; refine mv rfl rfl (sub rfl rfl (by omega) rfl (asg rfl rfl ?_))
      refine o_nil ?_
      exact x_loop (z - 1, h5, ys ++ [(g q).1], (g q).2) ⟨r5, by unfold R.fit32; omega, by rw [show (z - 1).toNat = k by omega, e1]; simp, by rw [show (z - 1).toNat = k by omega, e2], by simp only [List.length_append, List.length_cons, List.length_nil]; omega⟩ (by show (z - 1).toNat < z.toNat; omega) ⟨rfl, rfl, rfl, trivial⟩ rfl
    · have hq : q.2 = true := by simpa using c4
      rw [hk, pMany, if_pos hq] at e1 e2
      refine c_exit ?_
      refine x_seq_exit ?_; refine x_loop_exit ?_; refine x_blk_hit ?_; refine ret0 (.inl rfl) rfl ?_
      rw [e1, e2, List.append_nil]; exact i2
  · have hk : z.toNat = 0 := by
      have c2 : ¬ z > 0 := by simpa using c2
      omega
    rw [hk, pMany] at e1 e2
    refine gs rfl rfl rfl rfl (gs rfl rfl rfl rfl (gs rfl rfl rfl rfl (pkf rfl rfl rfl ?_)))
    refine o_nil ?_; refine x_seq ?_; refine c_f rfl (by simp) ?_; refine c_exit ?_; refine x_seq_exit ?_; refine x_loop_exit ?_; refine x_blk_hit ?_
    refine ret0 (.inl rfl) rfl ?_
    rw [e1, e2, List.append_nil]; exact i2
end

/-! The walks of what symfile.gets does to each field and each parameter. No condition but what each theorem says. -/
section
open Go Go.Eng

theorem byte_fn {h : Heap} {s : Bytes} {r : Nat} {q : PS} (hr : R.R h r s q.1 q.2) : Does Tryz.prog 21 [ptr r 0] h (fun v h' => v = i64 (pByte s q).1 ∧ R.R h' r s (pByte s q).2.1 (pByte s q).2.2 ∧ Go.Eng.Mod (· = r) h h') := R.RByte_fn hr
theorem word_fn {h : Heap} {s : Bytes} {r : Nat} {q : PS} (hr : R.R h r s q.1 q.2) : Does Tryz.prog 14 [ptr r 0] h (fun v h' => v = .int .u32 (pWord s q).1 ∧ R.R h' r s (pWord s q).2.1 (pWord s q).2.2 ∧ Go.Eng.Mod (· = r) h h') := R.RWord_fn hr
theorem text_fn {h : Heap} {s : Bytes} {r : Nat} {q : PS} (hr : R.R h r s q.1 q.2) : Does Tryz.prog 13 [ptr r 0] h (fun v h' => v = str (pText s q).1 ∧ R.R h' r s (pText s q).2.1 (pText s q).2.2 ∧ Go.Eng.Mod (· = r) h h') := R.RText_fn hr
theorem num_fn {h : Heap} {s : Bytes} {r : Nat} {q : PS} (hr : R.R h r s q.1 q.2) : Does Tryz.prog 22 [ptr r 0] h (fun v h' => v = i64 (pNum s q).1 ∧ R.R h' r s (pNum s q).2.1 (pNum s q).2.2 ∧ Go.Eng.Mod (· = r) h h') := R.RNum_fn hr
theorem pNum_fit (s : Bytes) (p : PS) : R.fit32 (pNum s p).1 := by
  show R.fit32 (((R.rNum s p.1 p.2).map (·.1)).getD 0)
  cases hc : R.rNum s p.1 p.2 with
  | none => exact ⟨by decide, by decide⟩
  | some x =>
    unfold R.rNum at hc
    split at hc
    · cases hc
    · exact (R.rn_le _ _ _ _ _ _ hc).2.2
theorem pNum_in (s : Bytes) (p : PS) : in64 (pNum s p).1 := by have := pNum_fit s p; unfold R.fit32 at this; unfold in64; omega
theorem pByte_in (s : Bytes) (p : PS) : 0 ≤ (pByte s p).1 ∧ (pByte s p).1 < 256 := by
  show 0 ≤ R.rByte s p.1 p.2 ∧ R.rByte s p.1 p.2 < 256
  unfold R.rByte
  split
  · have := (s[p.1]?.getD 0).toNat_lt; omega
  · decide
theorem pText_len (s : Bytes) (p : PS) : (pText s p).1.length ≤ 64 := by
  show (if R.canText s p.1 p.2 then (s.drop p.1).take (R.textEnd s p.1).toNat else []).length ≤ 64
  split
  · rename_i c; have := c.2.2; rw [List.length_take]; omega
  · decide
theorem pWord_in (s : Bytes) (p : PS) : inU32 (pWord s p).1 := by
  show inU32 (R.rWord s p.1 p.2)
  unfold R.rWord
  split
  · rename_i c
    obtain ⟨a, b, c', d, e⟩ := R.taken4 c
    rw [e]
    have := a.toNat_lt; have := b.toNat_lt; have := c'.toNat_lt; have := d.toNat_lt
    simp only [inU32, R.wordv]; omega
  · unfold inU32; decide
/-- a cell that holds the Reader -/
def RdC (h : Heap) (b r : Nat) : Prop := h[b]? = some (.cells #[ptr r 0] 42 (0, 0))
theorem RdC.cell {h : Heap} {b r : Nat} (a : RdC h b r) : cellAt h b 0 = some (ptr r 0) := Go.Eng.cell a rfl
theorem RdC.mod {S : Nat → Prop} {h h' : Heap} {b r : Nat} (a : RdC h b r) (x : Go.Eng.Mod S h h') (hs : ¬ S b) : RdC h' b r := x.get a hs
theorem RdC.lt {h : Heap} {b r : Nat} (a : RdC h b r) : b < h.size := lt_of_get a
theorem R_lt {h : Heap} {r : Nat} {s : Bytes} {p : Nat} {q : Bool} (hr : R.R h r s p q) : r < h.size := lt_of_get hr.blk

theorem gets1_fn {h : Heap} {s : Bytes} {r bR bT : Nat} {q : PS} {x : Ty} {vf vp : Value} (hr : R.R h r s q.1 q.2) (hc : RdC h bR r) (hT : h[bT]? = some (.cells (tyCells x vf vp).toArray 52 (0, 0)))
    (hO : OwnS h 86 3 (fldR h) vf x.fields) (d1 : bR ≠ r) (d2 : bT ≠ r) (df : ∀ b, ownB vf b → b ≠ r ∧ b ≠ bR ∧ b ≠ bT) (hl : x.fields.length ≤ 2147483647) :
    Does Tryz.prog 46 [ptr bR 0, ptr bT 0] h (fun _ h' => ∃ vf', h'[bT]? = some (.cells (tyCells { x with fields := x.fields ++ [(pFld s q).1] } vf' vp).toArray 52 (0, 0)) ∧
      OwnS h' 86 3 (fldR h') vf' (x.fields ++ [(pFld s q).1]) ∧ R.R h' r s (pFld s q).2.1 (pFld s q).2.2 ∧ Go.Eng.Mod (fun b => b = r ∨ b = bT ∨ ownB vf b) h h' ∧ ∀ b, ownB vf' b → ownB vf b ∨ h.size ≤ b) := by
  have hmx : maxLen = 9223372036854775807 := by decide
  have lr := R_lt hr
  have lR := hc.lt
  have lT := lt_of_get hT
  refine fn_enter (N := 19) Tryz.func46 (by kernel_rfl) rfl rfl rfl (fun w0 => ?_)
  have T1 := text_fn (q := q) hr
  refine c_seq ?_; refine c_reg ?_; refine ld rfl hc.cell rfl ?_
  refine cl (vs := [ptr r 0]) rfl T1 rfl ?_
  refine (fun v1 h1 r1 => ?_)
  obtain ⟨rfl, r1, m1⟩ := r1
  have c1 := hc.mod m1 d1
  have t1 := m1.get hT d2
  have s1 := m1.size
  refine bld (vs := [(0, str (pText s q).1)]) (v := .agg #[str (pText s q).1, .bool false, i64 0]) rfl (fun _ => by kernel_rfl) rfl (alc nofun rfl (fun h2 n2 => ?_))
  have b2_2 := n2.at_
  have r2 := r1.mod n2.ext (fun e => e)
  have c2 := c1.mod n2.ext (fun e => e)
  have t2 := n2.ext.get t1
  have s2 := n2.size
  refine stw rfl rfl rfl (by intro u hu; simp at hu; rcases hu with rfl | rfl | rfl <;> rfl) b2_2 rfl nofun (fun h3 u3 => ?_)
  have b2_3 := u3.at_
  have r3 := r2.mod u3.mod (fun e => by have e : r = h1.size := e; omega)
  have c3 := c2.mod u3.mod (fun e => by have e : bR = h1.size := e; omega)
  have t3 := u3.ne t2 (by omega)
  have s3 := u3.mod.size
  refine o_nil ?_; refine x_seq ?_; refine c_seq ?_; refine c_dreg (fun h' => RdC h' bR r) [0, 3, 1, 2, 5, 4, 6, 7, 8] rfl c3 (by kernel_rfl) ?_
  refine ldI rfl (fun _ i => RdC.cell i) rfl (ldI rfl (fun _ i => RdC.cell i) rfl (clI (vs := [ptr r 0]) rfl (byte_fn (q := (pText s q).2) r3) (fun _ _ w => c3.mod w.2.2 d1) rfl (fun v4 h4 r4 => ?_)))
  obtain ⟨rfl, r4, m4⟩ := r4
  have c4 := c3.mod m4 d1
  have t4 := m4.get t3 d2
  have b2_4 := m4.get b2_3 (by omega)
  have s4 := m4.size
  refine eqi rfl rfl rfl (fa rfl rfl (clI (vs := [ptr r 0]) rfl (num_fn (q := (pByte s (pText s q).2).2) r4) (fun _ _ w => c4.mod w.2.2 d1) rfl (fun v5 h5 r5 => ?_)))
  obtain ⟨rfl, r5, m5⟩ := r5
  have c5 := c4.mod m5 d1
  have t5 := m5.get t4 d2
  have b2_5 := m5.get b2_4 (by omega)
  have s5 := m5.size
  refine st rfl rfl rfl b2_5 rfl (fun _ h' u' => c5.mod u'.mod (fun e => by have e : bR = h1.size := e; omega)) (fun h6 u6 => ?_)
  have b2_6 := u6.at_
  have c6 := c5.mod u6.mod (fun e => by have e : bR = h1.size := e; omega)
  have r6 := r5.mod u6.mod (fun e => by have e : r = h1.size := e; omega)
  have t6 := u6.ne t5 (by omega)
  have s6 := u6.mod.size
  refine fa rfl rfl (st rfl rfl rfl b2_6 rfl (fun _ h' u' => c6.mod u'.mod (fun e => by have e : bR = h1.size := e; omega)) (fun h7 u7 => ?_))
  have b2_7 := u7.at_
  have r7 := r6.mod u7.mod (fun e => by have e : r = h1.size := e; omega)
  have t7 := u7.ne t6 (by omega)
  have s7 := u7.mod.size
  refine o_nil ?_; refine x_seq ?_; refine c_reg ?_
  refine fa rfl rfl (ld rfl (cell t7 rfl) rfl (ldn rfl rfl (row_blk b2_7) rfl (bsl (E := 86) (vs := [(0, .agg #[str (pText s q).1, .bool (decide ((pByte s (pText s q).2).1 = 1)), i64 (pFld s q).1.type])]) (cs := #[str (pText s q).1, .bool (decide ((pByte s (pText s q).2).1 = 1)), i64 (pFld s q).1.type]) rfl (fun _ => by kernel_rfl) nofun rfl (fun h8 n8 => ?_))))
  have b2_8 := n8.ext.get b2_7
  have t8 := n8.ext.get t7
  have r8 := r7.mod n8.ext (fun e => e)
  have s8 := n8.size
  have ma : Go.Eng.Mod (· = r) h h8 := ((((((m1.trans (n2.ext.mod _)).upd u3 (.inr (by omega))).andMod m4 (fun _ e => .inl e)).andMod m5 (fun _ e => .inl e)).upd u6 (.inr (by omega))).upd u7 (.inr (by omega))).trans (n8.ext.mod _)
  obtain ⟨css, o, g1, g2, g3⟩ := hO
  have lo := o.lt
  have o8 := o.mod ma (fun b e => (df b e).1)
  refine app U_sl rfl rfl o8 (Src.slice rfl (row_blk n8.at_)) rfl (by intro u hu; simp at hu; rcases hu with rfl | rfl | rfl <;> rfl) (by omega) (by omega) nofun rfl (fun v9 h9 o9 m9 f9 => ?_)
  have t9 := m9.get t8 (fun e => (df _ e).2.2 rfl)
  have r9 := r8.mod m9 (fun e => (df _ e).1 rfl)
  obtain ⟨a9, ca9, rfl⟩ := o9.form
  refine fa rfl rfl (st rfl rfl rfl t9 rfl nofun (fun h10 u10 => ?_))
  have t10 := u10.at_
  have r10 := r9.mod u10.mod (fun e => d2 e.symm)
  refine o_nil ?_; refine ret0 (.inl rfl) rfl ?_
  have f10 : ∀ b, ownB (.slice a9 (x.fields.length + 1) ca9) b → ownB vf b ∨ h8.size ≤ b := f9
  refine ⟨_, t10, OwnS.snoc g1 g2 g3 (o9.mod u10.mod (fun b e e' => ?_)) rfl ⟨rfl, ?_, ?_⟩, r10, ?_, fun b e => (f10 b e).imp id (fun e => by omega)⟩
  · have e' : b = bT := e'
    rcases f10 b e with e | e
    · exact (df b e).2.2 e'
    · omega
  · have := pText_len s q
    show (pText s q).1.length ≤ maxLen
    omega
  · exact pNum_in _ _
  · exact ((ma.mono (fun _ _ e => .inl e)).andMod m9 (fun _ e => .inl (.inr (.inr e)))).upd u10 (.inl (.inr (.inl rfl)))
theorem gets2_fn {h : Heap} {s : Bytes} {r bR bT : Nat} {q : PS} {x : Ty} {vf vp : Value} (hr : R.R h r s q.1 q.2) (hc : RdC h bR r) (hT : h[bT]? = some (.cells (tyCells x vf vp).toArray 52 (0, 0)))
    (hO : OwnS h 88 2 (parR h) vp x.params) (d1 : bR ≠ r) (d2 : bT ≠ r) (df : ∀ b, ownB vp b → b ≠ r ∧ b ≠ bR ∧ b ≠ bT) (hl : x.params.length ≤ 2147483647) :
    Does Tryz.prog 47 [ptr bR 0, ptr bT 0] h (fun _ h' => ∃ vp', h'[bT]? = some (.cells (tyCells { x with params := x.params ++ [(pPar s q).1] } vf vp').toArray 52 (0, 0)) ∧
      OwnS h' 88 2 (parR h') vp' (x.params ++ [(pPar s q).1]) ∧ R.R h' r s (pPar s q).2.1 (pPar s q).2.2 ∧ Go.Eng.Mod (fun b => b = r ∨ b = bT ∨ ownB vp b) h h' ∧ ∀ b, ownB vp' b → ownB vp b ∨ h.size ≤ b) := by
  have hmx : maxLen = 9223372036854775807 := by decide
  have lr := R_lt hr
  have lR := hc.lt
  have lT := lt_of_get hT
  refine fn_enter (N := 16) Tryz.func47 (by kernel_rfl) rfl rfl rfl (fun w0 => ?_)
  refine c_seq ?_; refine c_reg ?_; refine ld rfl hc.cell rfl (cl (vs := [ptr r 0]) rfl (byte_fn (q := q) hr) rfl (fun v1 h1 r1 => ?_))
  obtain ⟨rfl, r1, m1⟩ := r1
  have c1 := hc.mod m1 d1
  have t1 := m1.get hT d2
  have s1 := m1.size
  refine eqi rfl rfl rfl (bld (vs := [(0, .bool (decide ((pByte s q).1 = 1)))]) (v := .agg #[.bool (decide ((pByte s q).1 = 1)), i64 0]) rfl (fun _ => by kernel_rfl) rfl (alc nofun rfl (fun h2 n2 => ?_)))
  have b2_2 := n2.at_
  have r2 := r1.mod n2.ext (fun e => e)
  have c2 := c1.mod n2.ext (fun e => e)
  have t2 := n2.ext.get t1
  have s2 := n2.size
  refine stw rfl rfl rfl (by intro u hu; simp at hu; rcases hu with rfl | rfl <;> rfl) b2_2 rfl nofun (fun h3 u3 => ?_)
  have b2_3 := u3.at_
  have r3 := r2.mod u3.mod (fun e => by have e : r = h1.size := e; omega)
  have c3 := c2.mod u3.mod (fun e => by have e : bR = h1.size := e; omega)
  have t3 := u3.ne t2 (by omega)
  have s3 := u3.mod.size
  refine o_nil ?_; refine x_seq ?_; refine c_seq ?_; refine c_reg ?_
  refine ld rfl c3.cell rfl (cl (vs := [ptr r 0]) rfl (num_fn (q := (pByte s q).2) r3) rfl (fun v4 h4 r4 => ?_))
  obtain ⟨rfl, r4, m4⟩ := r4
  have t4 := m4.get t3 d2
  have b2_4 := m4.get b2_3 (by omega)
  have s4 := m4.size
  refine fa rfl rfl (st rfl rfl rfl b2_4 rfl nofun (fun h7 u7 => ?_))
  have b2_7 := u7.at_
  have r7 := r4.mod u7.mod (fun e => by have e : r = h1.size := e; omega)
  have t7 := u7.ne t4 (by omega)
  have s7 := u7.mod.size
  refine o_nil ?_; refine x_seq ?_; refine c_reg ?_
  refine fa rfl rfl (ld rfl (cell t7 rfl) rfl (ldn rfl rfl (row_blk b2_7) rfl (bsl (E := 88) (vs := [(0, .agg #[.bool (decide ((pByte s q).1 = 1)), i64 (pPar s q).1.type])]) (cs := #[.bool (decide ((pByte s q).1 = 1)), i64 (pPar s q).1.type]) rfl (fun _ => by kernel_rfl) nofun rfl (fun h8 n8 => ?_))))
  have b2_8 := n8.ext.get b2_7
  have t8 := n8.ext.get t7
  have r8 := r7.mod n8.ext (fun e => e)
  have s8 := n8.size
  have ma : Go.Eng.Mod (· = r) h h8 := ((((m1.trans (n2.ext.mod _)).upd u3 (.inr (by omega))).andMod m4 (fun _ e => .inl e)).upd u7 (.inr (by omega))).trans (n8.ext.mod _)
  obtain ⟨css, o, g1, g2, g3⟩ := hO
  have lo := o.lt
  have o8 := o.mod ma (fun b e => (df b e).1)
  refine app U_sl rfl rfl o8 (Src.slice rfl (row_blk n8.at_)) rfl (by intro u hu; simp at hu; rcases hu with rfl | rfl <;> rfl) (by omega) (by omega) nofun rfl (fun v9 h9 o9 m9 f9 => ?_)
  have t9 := m9.get t8 (fun e => (df _ e).2.2 rfl)
  have r9 := r8.mod m9 (fun e => (df _ e).1 rfl)
  obtain ⟨a9, ca9, rfl⟩ := o9.form
  refine fa rfl rfl (st rfl rfl rfl t9 rfl nofun (fun h10 u10 => ?_))
  have t10 := u10.at_
  have r10 := r9.mod u10.mod (fun e => d2 e.symm)
  refine o_nil ?_; refine ret0 (.inl rfl) rfl ?_
  have f10 : ∀ b, ownB (.slice a9 (x.params.length + 1) ca9) b → ownB vp b ∨ h8.size ≤ b := f9
  refine ⟨_, t10, OwnS.snoc g1 g2 g3 (o9.mod u10.mod (fun b e e' => ?_)) rfl ⟨rfl, ?_⟩, r10, ?_, fun b e => (f10 b e).imp id (fun e => by omega)⟩
  · have e' : b = bT := e'
    rcases f10 b e with e | e
    · exact (df b e).2.2 e'
    · omega
  · exact pNum_in _ _
  · exact ((ma.mono (fun _ _ e => .inl e)).andMod m9 (fun _ e => .inl (.inr (.inr e)))).upd u10 (.inl (.inr (.inl rfl)))
end

/-! The walk of symfile.gets. No condition but what each theorem says. -/
section
open Go Go.Eng

set_option maxHeartbeats 1000000 in
theorem gets_fn {h : Heap} {s : Bytes} {r : Nat} {q : PS} (hr : R.R h r s q.1 q.2) :
    Does Tryz.prog 19 [ptr r 0] h (fun v h' => ∃ vf vp, v = .agg (tyCells (pTy s q).1 vf vp).toArray ∧ OwnS h' 86 3 (fldR h') vf (pTy s q).1.fields ∧ OwnS h' 88 2 (parR h') vp (pTy s q).1.params ∧
      (∀ b, ownB vf b → h.size ≤ b) ∧ (∀ b, ownB vp b → h.size ≤ b) ∧ R.R h' r s (pTy s q).2.1 (pTy s q).2.2 ∧ Go.Eng.Mod (· = r) h h') := by
  have hmx : maxLen = 9223372036854775807 := by decide
  have lr := R_lt hr
  refine fn_enter (N := 35) Tryz.func19 (by kernel_rfl) rfl rfl rfl (fun w0 => ?_)
  refine c_seq ?_; refine c_reg ?_; refine bx rfl nofun rfl (fun h1 n1 => ?_)
  have r_0 := hr
  have M_0 := Go.Eng.Mod.refl (· = r) h
  have b1_1 := n1.at_
  have r_1 := r_0.mod n1.ext (fun e => e)
  have M_1 := M_0.trans (n1.ext.mod _)
  have s_1 := n1.size
  refine alc nofun rfl (fun h2 n2 => ?_)
  have b1_2 := n2.ext.get b1_1
  have b2_2 := n2.at_
  have r_2 := r_1.mod n2.ext (fun e => e)
  have M_2 := M_1.trans (n2.ext.mod _)
  have s_2 := n2.size
  refine o_nil ?_; refine x_seq ?_; refine c_seq ?_; refine c_reg ?_
  refine ld rfl (cell b1_2 rfl) rfl (cl (vs := [ptr r 0]) rfl (byte_fn (q := q) r_2) rfl (fun v3 h3 r_3 => ?_))
  obtain ⟨rfl, r_3, m_3⟩ := r_3
  have b1_3 := m_3.get b1_2 (fun e => by have e : h.size = r := e; omega)
  have b2_3 := m_3.get b2_2 (fun e => by have e : h1.size = r := e; omega)
  have M_3 := M_2.trans m_3
  have s_3 := m_3.size
  refine bld (vs := [(0, i64 (pByte s q).1)]) (v := .agg #[i64 (pByte s q).1, str [], str [], i64 0, i64 0, i64 0, .slice none 0 0, .slice none 0 0, i64 0, i64 0]) rfl (fun _ => by kernel_rfl) rfl (alc nofun rfl (fun h4 n4 => ?_))
  have b1_4 := n4.ext.get b1_3
  have b2_4 := n4.ext.get b2_3
  have b3_4 := n4.at_
  have r_4 := r_3.mod n4.ext (fun e => e)
  have M_4 := M_3.trans (n4.ext.mod _)
  have s_4 := n4.size
  refine stw rfl rfl rfl (by intro u hu; simp at hu; rcases hu with rfl | rfl | rfl | rfl | rfl | rfl | rfl | rfl | rfl | rfl <;> rfl) b3_4 rfl nofun (fun h5 u5 => ?_)
  have b3_5 := u5.at_
  have b1_5 := u5.ne b1_4 (by omega)
  have b2_5 := u5.ne b2_4 (by omega)
  have r_5 := r_4.mod u5.mod (fun e => by have e : r = h3.size := e; omega)
  have M_5 := M_4.upd u5 (.inr (by omega))
  have s_5 := u5.mod.size
  refine o_nil ?_; refine x_seq ?_; refine c_seq ?_; refine c_dreg (fun h' => RdC h' h.size r) [0, 2, 1, 4, 3, 5, 6, 7] rfl b1_5 (by kernel_rfl) ?_
  refine ldI rfl (fun _ i => RdC.cell i) rfl (ldI rfl (fun _ i => RdC.cell i) rfl (clI (vs := [ptr r 0]) rfl (text_fn (q := (pByte s q).2) r_5) (fun _ _ w => RdC.mod (h := h5) b1_5 w.2.2 (fun e => by have e : h.size = r := e; omega)) rfl (fun v6 h6 r_6 => ?_)))
  obtain ⟨rfl, r_6, m_6⟩ := r_6
  have b1_6 := m_6.get b1_5 (fun e => by have e : h.size = r := e; omega)
  have b2_6 := m_6.get b2_5 (fun e => by have e : h1.size = r := e; omega)
  have b3_6 := m_6.get b3_5 (fun e => by have e : h3.size = r := e; omega)
  have M_6 := M_5.trans m_6
  have s_6 := m_6.size
  refine fa rfl rfl (clI (vs := [ptr r 0]) rfl (text_fn (q := (pText s (pByte s q).2).2) r_6) (fun _ _ w => RdC.mod (h := h6) b1_6 w.2.2 (fun e => by have e : h.size = r := e; omega)) rfl (fun v7 h7 r_7 => ?_))
  obtain ⟨rfl, r_7, m_7⟩ := r_7
  have b1_7 := m_7.get b1_6 (fun e => by have e : h.size = r := e; omega)
  have b2_7 := m_7.get b2_6 (fun e => by have e : h1.size = r := e; omega)
  have b3_7 := m_7.get b3_6 (fun e => by have e : h3.size = r := e; omega)
  have M_7 := M_6.trans m_7
  have s_7 := m_7.size
  refine st rfl rfl rfl b3_7 rfl (fun _ h' u' => RdC.mod (h := h7) b1_7 u'.mod (fun e => by have e : h.size = h3.size := e; omega)) (fun h8 u8 => ?_)
  have b3_8 := u8.at_
  have b1_8 := u8.ne b1_7 (by omega)
  have b2_8 := u8.ne b2_7 (by omega)
  have r_8 := r_7.mod u8.mod (fun e => by have e : r = h3.size := e; omega)
  have M_8 := M_7.upd u8 (.inr (by omega))
  have s_8 := u8.mod.size
  refine fa rfl rfl (st rfl rfl rfl b3_8 rfl (fun _ h' u' => RdC.mod (h := h8) b1_8 u'.mod (fun e => by have e : h.size = h3.size := e; omega)) (fun h9 u9 => ?_))
  have b3_9 := u9.at_
  have b1_9 := u9.ne b1_8 (by omega)
  have b2_9 := u9.ne b2_8 (by omega)
  have r_9 := r_8.mod u9.mod (fun e => by have e : r = h3.size := e; omega)
  have M_9 := M_8.upd u9 (.inr (by omega))
  have s_9 := u9.mod.size
  refine o_nil ?_; refine x_seq ?_; refine c_seq ?_; refine c_dreg (fun h' => RdC h' h.size r) [0, 2, 4, 6, 8, 1, 10, 3, 5, 7, 9, 11, 12, 13, 14, 15, 16, 17, 18, 19] rfl b1_9 (by kernel_rfl) ?_
  refine ldI rfl (fun _ i => RdC.cell i) rfl (ldI rfl (fun _ i => RdC.cell i) rfl (ldI rfl (fun _ i => RdC.cell i) rfl (ldI rfl (fun _ i => RdC.cell i) rfl (ldI rfl (fun _ i => RdC.cell i) rfl (clI (vs := [ptr r 0]) rfl (num_fn (q := (pText s (pText s (pByte s q).2).2).2) r_9) (fun _ _ w => RdC.mod (h := h9) b1_9 w.2.2 (fun e => by have e : h.size = r := e; omega)) rfl (fun v10 h10 r_10 => ?_))))))
  obtain ⟨rfl, r_10, m_10⟩ := r_10
  have b1_10 := m_10.get b1_9 (fun e => by have e : h.size = r := e; omega)
  have b2_10 := m_10.get b2_9 (fun e => by have e : h1.size = r := e; omega)
  have b3_10 := m_10.get b3_9 (fun e => by have e : h3.size = r := e; omega)
  have M_10 := M_9.trans m_10
  have s_10 := m_10.size
  refine fa rfl rfl (clI (vs := [ptr r 0]) rfl (num_fn (q := (pNum s (pText s (pText s (pByte s q).2).2).2).2) r_10) (fun _ _ w => RdC.mod (h := h10) b1_10 w.2.2 (fun e => by have e : h.size = r := e; omega)) rfl (fun v11 h11 r_11 => ?_))
  obtain ⟨rfl, r_11, m_11⟩ := r_11
  have b1_11 := m_11.get b1_10 (fun e => by have e : h.size = r := e; omega)
  have b2_11 := m_11.get b2_10 (fun e => by have e : h1.size = r := e; omega)
  have b3_11 := m_11.get b3_10 (fun e => by have e : h3.size = r := e; omega)
  have M_11 := M_10.trans m_11
  have s_11 := m_11.size
  refine (clI (vs := [ptr r 0]) rfl (num_fn (q := (pNum s (pNum s (pText s (pText s (pByte s q).2).2).2).2).2) r_11) (fun _ _ w => RdC.mod (h := h11) b1_11 w.2.2 (fun e => by have e : h.size = r := e; omega)) rfl (fun v12 h12 r_12 => ?_))
  obtain ⟨rfl, r_12, m_12⟩ := r_12
  have b1_12 := m_12.get b1_11 (fun e => by have e : h.size = r := e; omega)
  have b2_12 := m_12.get b2_11 (fun e => by have e : h1.size = r := e; omega)
  have b3_12 := m_12.get b3_11 (fun e => by have e : h3.size = r := e; omega)
  have M_12 := M_11.trans m_12
  have s_12 := m_12.size
  refine (clI (vs := [ptr r 0]) rfl (num_fn (q := (pNum s (pNum s (pNum s (pText s (pText s (pByte s q).2).2).2).2).2).2) r_12) (fun _ _ w => RdC.mod (h := h12) b1_12 w.2.2 (fun e => by have e : h.size = r := e; omega)) rfl (fun v13 h13 r_13 => ?_))
  obtain ⟨rfl, r_13, m_13⟩ := r_13
  have b1_13 := m_13.get b1_12 (fun e => by have e : h.size = r := e; omega)
  have b2_13 := m_13.get b2_12 (fun e => by have e : h1.size = r := e; omega)
  have b3_13 := m_13.get b3_12 (fun e => by have e : h3.size = r := e; omega)
  have M_13 := M_12.trans m_13
  have s_13 := m_13.size
  refine (clI (vs := [ptr r 0]) rfl (num_fn (q := (pNum s (pNum s (pNum s (pNum s (pText s (pText s (pByte s q).2).2).2).2).2).2).2) r_13) (fun _ _ w => RdC.mod (h := h13) b1_13 w.2.2 (fun e => by have e : h.size = r := e; omega)) rfl (fun v14 h14 r_14 => ?_))
  obtain ⟨rfl, r_14, m_14⟩ := r_14
  have b1_14 := m_14.get b1_13 (fun e => by have e : h.size = r := e; omega)
  have b2_14 := m_14.get b2_13 (fun e => by have e : h1.size = r := e; omega)
  have b3_14 := m_14.get b3_13 (fun e => by have e : h3.size = r := e; omega)
  have M_14 := M_13.trans m_14
  have s_14 := m_14.size
  refine st rfl rfl rfl b3_14 rfl (fun _ h' u' => RdC.mod (h := h14) b1_14 u'.mod (fun e => by have e : h.size = h3.size := e; omega)) (fun h15 u15 => ?_)
  have b3_15 := u15.at_
  have b1_15 := u15.ne b1_14 (by omega)
  have b2_15 := u15.ne b2_14 (by omega)
  have r_15 := r_14.mod u15.mod (fun e => by have e : r = h3.size := e; omega)
  have M_15 := M_14.upd u15 (.inr (by omega))
  have s_15 := u15.mod.size
  refine fa rfl rfl (st rfl rfl rfl b3_15 rfl (fun _ h' u' => RdC.mod (h := h15) b1_15 u'.mod (fun e => by have e : h.size = h3.size := e; omega)) (fun h16 u16 => ?_))
  have b3_16 := u16.at_
  have b1_16 := u16.ne b1_15 (by omega)
  have b2_16 := u16.ne b2_15 (by omega)
  have r_16 := r_15.mod u16.mod (fun e => by have e : r = h3.size := e; omega)
  have M_16 := M_15.upd u16 (.inr (by omega))
  have s_16 := u16.mod.size
  refine fa rfl rfl (st rfl rfl rfl b3_16 rfl (fun _ h' u' => RdC.mod (h := h16) b1_16 u'.mod (fun e => by have e : h.size = h3.size := e; omega)) (fun h17 u17 => ?_))
  have b3_17 := u17.at_
  have b1_17 := u17.ne b1_16 (by omega)
  have b2_17 := u17.ne b2_16 (by omega)
  have r_17 := r_16.mod u17.mod (fun e => by have e : r = h3.size := e; omega)
  have M_17 := M_16.upd u17 (.inr (by omega))
  have s_17 := u17.mod.size
  refine fa rfl rfl (st rfl rfl rfl b3_17 rfl (fun _ h' u' => RdC.mod (h := h17) b1_17 u'.mod (fun e => by have e : h.size = h3.size := e; omega)) (fun h18 u18 => ?_))
  have b3_18 := u18.at_
  have b1_18 := u18.ne b1_17 (by omega)
  have b2_18 := u18.ne b2_17 (by omega)
  have r_18 := r_17.mod u18.mod (fun e => by have e : r = h3.size := e; omega)
  have M_18 := M_17.upd u18 (.inr (by omega))
  have s_18 := u18.mod.size
  refine fa rfl rfl (st rfl rfl rfl b3_18 rfl (fun _ h' u' => RdC.mod (h := h18) b1_18 u'.mod (fun e => by have e : h.size = h3.size := e; omega)) (fun h19 u19 => ?_))
  have b3_19 := u19.at_
  have b1_19 := u19.ne b1_18 (by omega)
  have b2_19 := u19.ne b2_18 (by omega)
  have r_19 := r_18.mod u19.mod (fun e => by have e : r = h3.size := e; omega)
  have M_19 := M_18.upd u19 (.inr (by omega))
  have s_19 := u19.mod.size
  have l3 := s_3
  obtain ⟨z2, hz2, zz2⟩ : ∃ z : Array Value, h19[h1.size]? = some (.cells z 52 (0, 0)) ∧ z.size = 10 := ⟨_, b2_19, rfl⟩
  obtain ⟨X, hX⟩ : ∃ X : List Fld → List Par → Ty, X = fun fs ps => ⟨(pByte s q).1, (pText s (pByte s q).2).1, (pText s (pText s (pByte s q).2).2).1, (pNum s (pText s (pText s (pByte s q).2).2).2).1, (pNum s (pNum s (pText s (pText s (pByte s q).2).2).2).2).1, (pNum s (pNum s (pNum s (pText s (pText s (pByte s q).2).2).2).2).2).1, fs, ps, (pNum s (pNum s (pNum s (pNum s (pText s (pText s (pByte s q).2).2).2).2).2).2).1, (pNum s (pNum s (pNum s (pNum s (pNum s (pText s (pText s (pByte s q).2).2).2).2).2).2).2).1⟩ := ⟨_, rfl⟩
  have t19 : h19[h3.size]? = some (.cells (tyCells (X [] []) (.slice none 0 0) (.slice none 0 0)).toArray 52 (0, 0)) := by rw [hX]; exact b3_19
  have hXf : ∀ fs ps, (X fs ps).fields = fs ∧ (X fs ps).params = ps := by rw [hX]; exact fun _ _ => ⟨rfl, rfl⟩
  have hXs : ∀ fs ps fs', { X fs ps with fields := fs' } = X fs' ps := by rw [hX]; exact fun _ _ _ => rfl
  have hXt : ∀ fs ps ps', { X fs ps with params := ps' } = X fs ps' := by rw [hX]; exact fun _ _ _ => rfl
  have E1 := each_fn (s := s) (r := r) (f := 46) (caps := [ptr h.size 0, ptr h3.size 0]) (m0 := 0) (g := pFld s) (h := h19) (xs := []) (p := (pNum s (pNum s (pNum s (pNum s (pNum s (pText s (pText s (pByte s q).2).2).2).2).2).2).2).2)
    (fun g xs p => RdC g h.size r ∧ R.R g r s p.1 p.2 ∧ g[h1.size]? = some (.cells z2 52 (0, 0)) ∧ (∃ vf, g[h3.size]? = some (.cells (tyCells (X xs []) vf (.slice none 0 0)).toArray 52 (0, 0)) ∧ OwnS g 86 3 (fldR g) vf xs ∧ ∀ b, ownB vf b → h3.size < b) ∧ Go.Eng.Mod (· = r) h g)
    (fun g xs p i => i.2.1)
    (fun g xs p g' p' i r' m => by
      obtain ⟨i1, i2, i3, ⟨vf, i4, i5, i6⟩, i7⟩ := i
      exact ⟨i1.mod m (fun e => by have e : h.size = r := e; omega), r', m.get i3 (fun e => by have e : h1.size = r := e; omega), ⟨vf, m.get i4 (fun e => by have e : h3.size = r := e; omega), OwnS.mono i5 m (fun b e e' => by have := i6 b e; have e' : b = r := e'; omega) (fun _ _ w => w), i6⟩, i7.trans m⟩)
    (fun g xs p i _ hl => by
      obtain ⟨i1, i2, i3, ⟨vf, i4, i5, i6⟩, i7⟩ := i
      have lg := lt_of_get i4
      have K := gets1_fn (x := X xs []) i2 i1 i4 (by rw [(hXf xs []).1]; exact i5) (by omega) (by omega) (fun b e => by have := i6 b e; omega) (by rw [(hXf xs []).1]; omega)
      rw [hXs, (hXf xs []).1] at K
      refine K.mono (fun _ g' w => ?_)
      obtain ⟨vf', w1, w2, w3, w4, w5⟩ := w
      exact ⟨i1.mod w4 (fun e => by rcases e with e | e | e <;> first | omega | (have := i6 _ e; omega)), w3, w4.get i3 (fun e => by rcases e with e | e | e <;> first | omega | (have := i6 _ e; omega)), ⟨vf', w1, w2, fun b e => (w5 b e).elim (i6 b) (fun e => by omega)⟩, i7.andMod w4 (fun k e => by rcases e with e | e | e; exact .inl e; exact .inr (by omega); exact .inr (by have := i6 k e; omega))⟩)
    ⟨b1_19, r_19, hz2, ⟨_, t19, OwnS.nil _ _ _ _, fun b e => by simp [ownB, Value.ownBlock] at e⟩, M_19⟩ (Nat.le_refl _)
  refine o_nil ?_; refine x_seq ?_; refine c_seq ?_; refine c_reg ?_
  refine ld rfl (cell b1_19 rfl) rfl (mkf (vs := []) (us := [ptr h.size 0, ptr h3.size 0]) rfl rfl rfl (cl (vs := [ptr r 0, .func (.func 46) #[] #[ptr h.size 0, ptr h3.size 0]]) rfl E1 rfl (fun v20 h20 r20 => ?_)))
  rw [List.nil_append] at r20
  obtain ⟨fs, hfs⟩ : ∃ fs, fs = (pEach s (pFld s) (pNum s (pNum s (pNum s (pNum s (pNum s (pText s (pText s (pByte s q).2).2).2).2).2).2).2).2) := ⟨_, rfl⟩
  rw [← hfs] at r20
  obtain ⟨i1, i2, i3, ⟨vf, i4, i5, i6⟩, i7⟩ := r20
  have lg := lt_of_get i4
  have lf : ∀ b, ownB vf b → b < h20.size := by obtain ⟨_, o⟩ := i5.own; exact o.lt
  have E2 := each_fn (s := s) (r := r) (f := 47) (caps := [ptr h.size 0, ptr h3.size 0]) (m0 := 0) (g := pPar s) (h := h20) (xs := []) (p := fs.2)
    (fun g xs p => RdC g h.size r ∧ R.R g r s p.1 p.2 ∧ g[h1.size]? = some (.cells z2 52 (0, 0)) ∧ (∃ vp, g[h3.size]? = some (.cells (tyCells (X fs.1 xs) vf vp).toArray 52 (0, 0)) ∧ OwnS g 88 2 (parR g) vp xs ∧ (∀ b, ownB vp b → h20.size ≤ b)) ∧ OwnS g 86 3 (fldR g) vf fs.1 ∧ Go.Eng.Mod (· = r) h g ∧ h20.size ≤ g.size)
    (fun g xs p i => i.2.1)
    (fun g xs p g' p' i r' m => by
      obtain ⟨i1, i2, i3, ⟨vp, i4, i5, i9⟩, i8, i7, i10⟩ := i
      have := m.size
      exact ⟨i1.mod m (fun e => by have e : h.size = r := e; omega), r', m.get i3 (fun e => by have e : h1.size = r := e; omega), ⟨vp, m.get i4 (fun e => by have e : h3.size = r := e; omega), OwnS.mono i5 m (fun b e e' => by have := i9 b e; have e' : b = r := e'; omega) (fun _ _ w => w), i9⟩, OwnS.mono i8 m (fun b e e' => by have := i6 b e; have e' : b = r := e'; omega) (fun _ _ w => w), i7.trans m, by omega⟩)
    (fun g xs p i _ hl => by
      obtain ⟨i1, i2, i3, ⟨vp, i4, i5, i9⟩, i8, i7, i10⟩ := i
      have lg := lt_of_get i4
      have K := gets2_fn (x := X fs.1 xs) i2 i1 i4 (by rw [(hXf fs.1 xs).2]; exact i5) (by omega) (by omega) (fun b e => by have := i9 b e; omega) (by rw [(hXf fs.1 xs).2]; omega)
      rw [hXt, (hXf fs.1 xs).2] at K
      refine K.mono (fun _ g' w => ?_)
      obtain ⟨vp', w1, w2, w3, w4, w5⟩ := w
      have := w4.size
      exact ⟨i1.mod w4 (fun e => by rcases e with e | e | e <;> first | omega | (have := i9 _ e; omega)), w3, w4.get i3 (fun e => by rcases e with e | e | e <;> first | omega | (have := i9 _ e; omega)), ⟨vp', w1, w2, fun b e => (w5 b e).elim (i9 b) (fun e => by omega)⟩, OwnS.mono i8 w4 (fun b e e' => by have := i6 b e; have := lf b e; rcases e' with e' | e' | e' <;> first | omega | (have := i9 _ e'; omega)) (fun _ _ w => w), i7.andMod w4 (fun k e => by rcases e with e | e | e; exact .inl e; exact .inr (by omega); exact .inr (by have := i9 k e; omega)), by omega⟩)
    ⟨i1, i2, i3, ⟨_, i4, OwnS.nil _ _ _ _, fun b e => by simp [ownB, Value.ownBlock] at e⟩, i5, i7, Nat.le_refl _⟩ (Nat.le_refl _)
  refine o_nil ?_; refine x_seq ?_; refine c_seq ?_; refine c_reg ?_
  refine ld rfl (cell i1 rfl) rfl (mkf (vs := []) (us := [ptr h.size 0, ptr h3.size 0]) rfl rfl rfl (cl (vs := [ptr r 0, .func (.func 47) #[] #[ptr h.size 0, ptr h3.size 0]]) rfl E2 rfl (fun v21 h21 r21 => ?_)))
  rw [List.nil_append] at r21
  obtain ⟨ps, hps⟩ : ∃ ps, ps = (pEach s (pPar s) fs.2) := ⟨_, rfl⟩
  rw [← hps] at r21
  obtain ⟨j1, j2, j3, ⟨vp, j4, j5, j9⟩, j8, j7, j10⟩ := r21
  have hres : pTy s q = (X fs.1 ps.1, ps.2) := by rw [hps, hfs, hX]; rfl
  have hone := tyCells_ones (x := X fs.1 ps.1) (by obtain ⟨_, o⟩ := j8.own; exact o.one) (by obtain ⟨_, o⟩ := j5.own; exact o.one)
  refine o_nil ?_; refine x_seq ?_; refine c_seq ?_; refine c_reg ?_
  refine ldn rfl rfl (row_blk j4) rfl (stw rfl rfl rfl hone j3 zz2 nofun (fun h22 u22 => ?_))
  refine o_nil ?_; refine x_seq ?_; refine c_ret ?_
  refine retc1 (.inr rfl) rfl rfl rfl (row_blk u22.at_) ?_
  rw [hres]
  refine ⟨vf, vp, rfl, ?_, ?_, fun b e => by have := i6 b e; omega, fun b e => by have := j9 b e; omega, j2.mod u22.mod (fun e => by have e : r = h1.size := e; omega), j7.upd u22 (.inr (by omega))⟩
  · rw [(hXf _ _).1]; exact OwnS.mono j8 u22.mod (fun b e e' => by have := i6 b e; have e' : b = h1.size := e'; omega) (fun _ _ w => w)
  · rw [(hXf _ _).2]; exact OwnS.mono j5 u22.mod (fun b e e' => by have := j9 b e; have e' : b = h1.size := e'; omega) (fun _ _ w => w)
end

/-! The walks of what symfile.Decode does to each used interface, each type and each object. No condition but what each theorem says. -/
section
open Go Go.Eng

def faceCells (f : Face) (vu vt vo : Value) : Array Value := #[str f.name, .int .u32 f.key, vu, vt, vo]
theorem decode1_fn {h : Heap} {s : Bytes} {r bR bF : Nat} {q : PS} {f : Face} {vu vt vo : Value} (hr : R.R h r s q.1 q.2) (hc : RdC h bR r) (hT : h[bF]? = some (.cells (faceCells f vu vt vo) 28 (0, 0)))
    (hO : OwnS h 48 2 (usedR h) vu f.uses) (d1 : bR ≠ r) (d2 : bF ≠ r) (df : ∀ b, ownB vu b → b ≠ r ∧ b ≠ bR ∧ b ≠ bF) (hl : f.uses.length ≤ 2147483647) :
    Does Tryz.prog 17 [ptr bR 0, ptr bF 0] h (fun _ h' => ∃ vu', h'[bF]? = some (.cells (faceCells f vu' vt vo) 28 (0, 0)) ∧
      OwnS h' 48 2 (usedR h') vu' (f.uses ++ [(pUsed s q).1]) ∧ R.R h' r s (pUsed s q).2.1 (pUsed s q).2.2 ∧ Go.Eng.Mod (fun b => b = r ∨ b = bF ∨ ownB vu b) h h' ∧ ∀ b, ownB vu' b → ownB vu b ∨ h.size ≤ b) := by
  have hmx : maxLen = 9223372036854775807 := by decide
  have lr := R_lt hr
  have lR := hc.lt
  have lT := lt_of_get hT
  refine fn_enter (N := 15) Tryz.func17 (by kernel_rfl) rfl rfl rfl (fun w0 => ?_)
  refine c_seq ?_; refine c_reg ?_; refine ld rfl hc.cell rfl (cl (vs := [ptr r 0]) rfl (text_fn (q := q) hr) rfl (fun v1 h1 r1 => ?_))
  obtain ⟨rfl, r1, m1⟩ := r1
  have c1 := hc.mod m1 d1
  have t1 := m1.get hT d2
  have s1 := m1.size
  refine bld (vs := [(0, str (pText s q).1)]) (v := .agg #[str (pText s q).1, .int .u32 0]) rfl (fun _ => by kernel_rfl) rfl (alc nofun rfl (fun h2 n2 => ?_))
  have b2_2 := n2.at_
  have r2 := r1.mod n2.ext (fun e => e)
  have c2 := c1.mod n2.ext (fun e => e)
  have t2 := n2.ext.get t1
  have s2 := n2.size
  refine stw rfl rfl rfl (by intro u hu; simp at hu; rcases hu with rfl | rfl <;> rfl) b2_2 rfl nofun (fun h3 u3 => ?_)
  have b2_3 := u3.at_
  have r3 := r2.mod u3.mod (fun e => by have e : r = h1.size := e; omega)
  have c3 := c2.mod u3.mod (fun e => by have e : bR = h1.size := e; omega)
  have t3 := u3.ne t2 (by omega)
  have s3 := u3.mod.size
  refine o_nil ?_; refine x_seq ?_; refine c_seq ?_; refine c_reg ?_
  refine ld rfl c3.cell rfl (cl (vs := [ptr r 0]) rfl (word_fn (q := (pText s q).2) r3) rfl (fun v4 h4 r4 => ?_))
  obtain ⟨rfl, r4, m4⟩ := r4
  have t4 := m4.get t3 d2
  have b2_4 := m4.get b2_3 (by omega)
  have s4 := m4.size
  refine fa rfl rfl (st rfl rfl rfl b2_4 rfl nofun (fun h7 u7 => ?_))
  have b2_7 := u7.at_
  have r7 := r4.mod u7.mod (fun e => by have e : r = h1.size := e; omega)
  have t7 := u7.ne t4 (by omega)
  have s7 := u7.mod.size
  refine o_nil ?_; refine x_seq ?_; refine c_reg ?_
  refine fa rfl rfl (ld rfl (cell t7 rfl) rfl (ldn rfl rfl (row_blk b2_7) rfl (bsl (E := 48) (vs := [(0, .agg #[str (pText s q).1, .int .u32 (pUsed s q).1.key])]) (cs := #[str (pText s q).1, .int .u32 (pUsed s q).1.key]) rfl (fun _ => by kernel_rfl) nofun rfl (fun h8 n8 => ?_))))
  have b2_8 := n8.ext.get b2_7
  have t8 := n8.ext.get t7
  have r8 := r7.mod n8.ext (fun e => e)
  have s8 := n8.size
  have ma : Go.Eng.Mod (· = r) h h8 := ((((m1.trans (n2.ext.mod _)).upd u3 (.inr (by omega))).andMod m4 (fun _ e => .inl e)).upd u7 (.inr (by omega))).trans (n8.ext.mod _)
  obtain ⟨css, o, g1, g2, g3⟩ := hO
  have lo := o.lt
  have o8 := o.mod ma (fun b e => (df b e).1)
  refine app U_sl rfl rfl o8 (Src.slice rfl (row_blk n8.at_)) rfl (by intro u hu; simp at hu; rcases hu with rfl | rfl <;> rfl) (by omega) (by omega) nofun rfl (fun v9 h9 o9 m9 f9 => ?_)
  have t9 := m9.get t8 (fun e => (df _ e).2.2 rfl)
  have r9 := r8.mod m9 (fun e => (df _ e).1 rfl)
  obtain ⟨a9, ca9, rfl⟩ := o9.form
  refine fa rfl rfl (st rfl rfl rfl t9 rfl nofun (fun h10 u10 => ?_))
  have t10 := u10.at_
  have r10 := r9.mod u10.mod (fun e => d2 e.symm)
  refine o_nil ?_; refine ret0 (.inl rfl) rfl ?_
  have f10 : ∀ b, ownB (.slice a9 (f.uses.length + 1) ca9) b → ownB vu b ∨ h8.size ≤ b := f9
  refine ⟨_, t10, OwnS.snoc g1 g2 g3 (o9.mod u10.mod (fun b e e' => ?_)) rfl ⟨rfl, ?_, ?_⟩, r10, ?_, fun b e => (f10 b e).imp id (fun e => by omega)⟩
  · have e' : b = bF := e'
    rcases f10 b e with e | e
    · exact (df b e).2.2 e'
    · omega
  · have := pText_len s q
    show (pText s q).1.length ≤ maxLen
    omega
  · exact pWord_in _ _
  · exact ((ma.mono (fun _ _ e => .inl e)).andMod m9 (fun _ e => .inl (.inr (.inr e)))).upd u10 (.inl (.inr (.inl rfl)))
theorem pMany_len {α : Type} {g : PS → α × PS} : ∀ (n : Nat) (p : PS), (pMany g n p).1.length ≤ n
  | 0, _ => Nat.le_refl _
  | n + 1, p => by
    unfold pMany
    split
    · exact Nat.zero_le _
    · rw [List.length_cons]; have := pMany_len n (g p).2 (g := g); omega
theorem pEach_len {α : Type} {s : Bytes} {g : PS → α × PS} (p : PS) : (pEach s g p).1.length ≤ 2147483647 := by
  have h1 := pMany_len (g := g) (pNum s p).1.toNat (pNum s p).2
  have h2 := pNum_fit s p
  unfold R.fit32 at h2
  unfold pEach
  omega
theorem pTy_fits (s : Bytes) (p : PS) : (pTy s p).1.fits := by
  have hmx : maxLen = 9223372036854775807 := by decide
  have h1 : ∀ p, (pText s p).1.length ≤ maxLen := fun p => by have := pText_len s p; omega
  have h2 : ∀ p, in64 (pByte s p).1 := fun p => by have := pByte_in s p; unfold in64; omega
  exact ⟨h1 _, h1 _, h2 _, pNum_in _ _, pNum_in _ _, pNum_in _ _, pNum_in _ _, pNum_in _ _⟩
set_option maxHeartbeats 1000000 in
theorem decode2_fn {B : Nat → Prop} {h : Heap} {s : Bytes} {r bR bF : Nat} {q : PS} {f : Face} {vu vt vo : Value} (hr : R.R h r s q.1 q.2) (hc : RdC h bR r) (hT : h[bF]? = some (.cells (faceCells f vu vt vo) 28 (0, 0)))
    (hO : TysOwn B h vt f.types) (d1 : bR ≠ r) (d2 : bF ≠ r) (df : ∀ b, B b → b < h.size → b ≠ r ∧ b ≠ bR ∧ b ≠ bF) (hB : ∀ b, h.size ≤ b → B b) (hl : f.types.length ≤ 2147483655) :
    Does Tryz.prog 18 [ptr bF 0, ptr bR 0] h (fun _ h' => ∃ vt', h'[bF]? = some (.cells (faceCells f vu vt' vo) 28 (0, 0)) ∧
      TysOwn B h' vt' (f.types ++ [(pTy s q).1]) ∧ R.R h' r s (pTy s q).2.1 (pTy s q).2.2 ∧ Go.Eng.Mod (fun b => b = r ∨ b = bF ∨ ownB vt b) h h' ∧ ∀ b, ownB vt' b → ownB vt b ∨ h.size ≤ b) := by
  have hmx : maxLen = 9223372036854775807 := by decide
  have lr := R_lt hr
  have lR := hc.lt
  have lT := lt_of_get hT
  have ll := hO.lt
  refine fn_enter (N := 9) Tryz.func18 (by kernel_rfl) rfl rfl rfl (fun w0 => ?_)
  refine c_breg (fun h' => RdC h' bR r ∧ cellAt h' bF 3 = some vt) [0, 1, 2, 3, 4, 5, 6] 7 rfl rfl ⟨hc, cell hT rfl⟩ (by kernel_rfl) ?_
  refine fa rfl rfl (ldI rfl (fun _ i => i.2) rfl (ldI rfl (fun _ i => RdC.cell i.1) rfl (clI (vs := [ptr r 0]) rfl (gets_fn (q := q) hr) (fun _ _ w => ?_) rfl (fun v1 h1 r1 => ?_))))
  · obtain ⟨_, _, -, -, -, -, -, -, m⟩ := w
    exact ⟨hc.mod m d1, cell (m.get hT d2) rfl⟩
  obtain ⟨vf, vp, rfl, of, op, lf, lp, r1, m1⟩ := r1
  have c1 := hc.mod m1 d1
  have t1 := m1.get hT d2
  have s1 := m1.size
  have O1 := hO.mod m1 (fun b hb hlt => (df b hb hlt).1)
  obtain ⟨af, cf, rfl⟩ : ∃ a c, vf = .slice a (pTy s q).1.fields.length c := by obtain ⟨_, o⟩ := of.own; exact o.form
  obtain ⟨ap, cp, rfl⟩ : ∃ a c, vp = .slice a (pTy s q).1.params.length c := by obtain ⟨_, o⟩ := op.own; exact o.form
  refine bsl (E := 52) (vs := [(0, .agg (tyCells (pTy s q).1 (.slice af (pTy s q).1.fields.length cf) (.slice ap (pTy s q).1.params.length cp)).toArray)]) (cs := (tyCells (pTy s q).1 (.slice af (pTy s q).1.fields.length cf) (.slice ap (pTy s q).1.params.length cp)).toArray) rfl (fun _ => by kernel_rfl) (fun _ h' n' => ⟨c1.mod n'.ext (fun e => e), cell (n'.ext.get t1) rfl⟩) rfl (fun h2 n2 => ?_)
  have c2 := c1.mod n2.ext (fun e => e)
  have t2 := n2.ext.get t1
  have s2 := n2.size
  have r2 := r1.mod n2.ext (fun e => e)
  have O2 := O1.mod n2.ext (fun _ _ _ e => e)
  have m2 := m1.trans (n2.ext.mod _)
  have lof : (pTy s q).1.fields.length ≤ maxLen := by have := pEach_len (s := s) (g := pFld s) (pNum s (pNum s (pNum s (pNum s (pNum s (pText s (pText s (pByte s q).2).2).2).2).2).2).2).2; exact Nat.le_trans this (by omega)
  have lop : (pTy s q).1.params.length ≤ maxLen := by have := pEach_len (s := s) (g := pPar s) (pEach s (pFld s) (pNum s (pNum s (pNum s (pNum s (pNum s (pText s (pText s (pByte s q).2).2).2).2).2).2).2).2).2; exact Nat.le_trans this (by omega)
  have hx : TyB (fun b => ¬ ownB vt b ∧ B b) h2 (pTy s q).1 (tyCells (pTy s q).1 (.slice af (pTy s q).1.fields.length cf) (.slice ap (pTy s q).1.params.length cp)) :=
    ⟨pTy_fits _ _, _, _, rfl, (OwnS.mono of n2.ext (fun _ _ e => e) (fun _ _ w => w)).sliceB lof (fun b e => ⟨fun e' => by have := ll b e'; have := lf b e; omega, hB b (lf b e)⟩),
      (OwnS.mono op n2.ext (fun _ _ e => e) (fun _ _ w => w)).sliceB lop (fun b e => ⟨fun e' => by have := ll b e'; have := lp b e; omega, hB b (lp b e)⟩)⟩
  have low := hO.low
  obtain ⟨⟨css, o, g1, g2, g3⟩, -⟩ := O2
  have dv : ∀ b, ownB vt b → b ≠ r ∧ b ≠ bR ∧ b ≠ bF := fun b e => df b (low b e) (ll b e)
  refine app U_sl rfl rfl o (Src.slice rfl (row_blk n2.at_)) rfl (tyCells_ones rfl rfl) (by omega) (by omega) (fun _ _ _ _ m _ => ⟨c2.mod m (fun e => (dv _ e).2.1 rfl), cell (m.get t2 (fun e => (dv _ e).2.2 rfl)) rfl⟩) rfl (fun v3 h3 o3 m3 f3 => ?_)
  have t3 := m3.get t2 (fun e => (dv _ e).2.2 rfl)
  have r3 := r2.mod m3 (fun e => (dv _ e).1 rfl)
  have s3 := m3.size
  have O3 := TysOwn.snoc g1 g2 g3 o3 m3 f3 low (fun b e => hB b (by omega)) hx
  obtain ⟨a3, ca3, rfl⟩ := o3.form
  refine fa rfl rfl (o_nil (x_bar (st rfl rfl rfl t3 rfl (fun _ _ _ => trivial) (fun h4 u4 => ?_))))
  have t4 := u4.at_
  refine o_nil ?_; refine ret0 (.inl rfl) rfl ?_
  exact ⟨_, t4, O3.mod u4.mod (fun b hb _ e => by have e : b = bF := e; exact (df b hb (by omega)).2.2 e), r3.mod u4.mod (fun e => d2 e.symm), ((m2.mono (fun _ _ e => .inl e)).andMod m3 (fun _ e => .inl (.inr (.inr e)))).upd u4 (.inl (.inr (.inl rfl))), fun b e => (f3 b e).imp id (fun e => by omega)⟩
end
end Go.Proofs.YtgnkfegkdjfnjaaGreat
