/- The engine, part 10: rules by which a function of the program is walked. No condition. -/
import Derived.Test.YtgnkfegkdjfnjaaGreatEng9
namespace Go.Eng

section op
variable {C : Cx} {ops : Array Oper} {K : KK} {dr : Bool} {I : Heap → Prop} {rest : List Oper} {ρ : Env} {h : Heap} {d : Nat} {ty : TypeId} {pos : String} {aft : Array Edge}

/-! ### guarded operations, not parted: a slot holds 'cond G v undef' -/
theorem gq_ {p : Op} {g : Nat × Bool} {G : Bool} {q : Prop} {v : Value} [Tr G q] (hw : ∀ a, Ag C.N ρ a → Region.wanted ⟨some d, p, ty, pos, aft, some g⟩ (yielded ops a.tmps) = G) (hN : Nat.blt d C.N = true)
    (step : q → (SO C ops K dr I rest ((d, v) :: ρ) h → SO C ops K dr I (⟨some d, p, ty, pos, aft, none⟩ :: rest) ρ h)) (k : SO C ops K dr I rest ((d, cond G v undef) :: ρ) h) :
    SO C ops K dr I (⟨some d, p, ty, pos, aft, some g⟩ :: rest) ρ h := fun a w ha hh hA => by
  have hwa := hw a ha
  cases hG : G with
  | false =>
    rw [hG] at k hwa
    unfold Lex
    rw [if_neg (by rw [hwa]; simp)]
    exact k _ w (ha.put hN _) hh hA
  | true =>
    rw [hG] at k hwa
    have hk := step ((Tr.iff (b := G)).1 hG) k a w ha hh hA
    unfold Lex at hk ⊢
    rw [if_pos (by simp [Region.wanted])] at hk
    rw [if_pos hwa]
    exact hk
theorem wanted_t {p : Op} {j t : Nat} {want b : Bool} {a : Act} (ha : Ag C.N ρ a) (hj : (ops[j]?).bind (·.dst) = some t) (hb : get ρ t = some (.bool b)) :
    Region.wanted ⟨some d, p, ty, pos, aft, some (j, want)⟩ (yielded ops a.tmps) = (b == want) := by
  simp only [Region.wanted, yielded, hj, Option.bind_some]
  rw [ha.slots t _ hb]
  cases b <;> cases want <;> rfl
theorem wanted_u {p : Op} {j t : Nat} {want : Bool} {a : Act} (ha : Ag C.N ρ a) (hj : (ops[j]?).bind (·.dst) = some t) (hb : get ρ t = some undef) :
    Region.wanted ⟨some d, p, ty, pos, aft, some (j, want)⟩ (yielded ops a.tmps) = false := by
  simp only [Region.wanted, yielded, hj, Option.bind_some]
  rw [ha.slots t _ hb]
  cases want <;> simp [undef]
theorem gqt {p : Op} {j t : Nat} {b : Bool} {q : Prop} {v : Value} [Tr b q] (hj : (ops[j]?).bind (·.dst) = some t) (hb : get ρ t = some (.bool b)) (hN : Nat.blt d C.N = true)
    (step : q → (SO C ops K dr I rest ((d, v) :: ρ) h → SO C ops K dr I (⟨some d, p, ty, pos, aft, none⟩ :: rest) ρ h)) (k : SO C ops K dr I rest ((d, cond b v undef) :: ρ) h) :
    SO C ops K dr I (⟨some d, p, ty, pos, aft, some (j, true)⟩ :: rest) ρ h :=
  gq_ (G := b) (fun a ha => by rw [wanted_t ha hj hb]; simp) hN step k
theorem gqf {p : Op} {j t : Nat} {b : Bool} {q : Prop} {v : Value} [Tr b q] (hj : (ops[j]?).bind (·.dst) = some t) (hb : get ρ t = some (.bool b)) (hN : Nat.blt d C.N = true)
    (step : ¬ q → (SO C ops K dr I rest ((d, v) :: ρ) h → SO C ops K dr I (⟨some d, p, ty, pos, aft, none⟩ :: rest) ρ h)) (k : SO C ops K dr I rest ((d, cond (!b) v undef) :: ρ) h) :
    SO C ops K dr I (⟨some d, p, ty, pos, aft, some (j, false)⟩ :: rest) ρ h :=
  gq_ (G := !b) (fun a ha => by rw [wanted_t ha hj hb]; cases b <;> rfl) hN step k
theorem gqt2 {p : Op} {j t : Nat} {G b : Bool} {q : Prop} {v : Value} [Tr (G && b) q] (hj : (ops[j]?).bind (·.dst) = some t) (hb : get ρ t = some (cond G (.bool b) undef)) (hN : Nat.blt d C.N = true)
    (step : q → (SO C ops K dr I rest ((d, v) :: ρ) h → SO C ops K dr I (⟨some d, p, ty, pos, aft, none⟩ :: rest) ρ h)) (k : SO C ops K dr I rest ((d, cond (G && b) v undef) :: ρ) h) :
    SO C ops K dr I (⟨some d, p, ty, pos, aft, some (j, true)⟩ :: rest) ρ h :=
  gq_ (G := G && b) (fun a ha => by cases G with
    | false => exact wanted_u ha hj hb
    | true => rw [wanted_t ha hj hb]; simp) hN step k
theorem gqf2 {p : Op} {j t : Nat} {G b : Bool} {q : Prop} {v : Value} [Tr (G && !b) q] (hj : (ops[j]?).bind (·.dst) = some t) (hb : get ρ t = some (cond G (.bool b) undef)) (hN : Nat.blt d C.N = true)
    (step : q → (SO C ops K dr I rest ((d, v) :: ρ) h → SO C ops K dr I (⟨some d, p, ty, pos, aft, none⟩ :: rest) ρ h)) (k : SO C ops K dr I rest ((d, cond (G && !b) v undef) :: ρ) h) :
    SO C ops K dr I (⟨some d, p, ty, pos, aft, some (j, false)⟩ :: rest) ρ h :=
  gq_ (G := G && !b) (fun a ha => by cases G with
    | false => exact wanted_u ha hj hb
    | true => rw [wanted_t ha hj hb]; cases b <;> rfl) hN step k
/-- an operation that acts, guarded -/
theorem gl_ {p : Op} {g : Nat × Bool} {G : Bool} {q : Prop} {R : Value → Heap → Prop} [Tr G q] (hw : ∀ a, Ag C.N ρ a → Region.wanted ⟨some d, p, ty, pos, aft, some g⟩ (yielded ops a.tmps) = G) (hN : Nat.blt d C.N = true)
    (step : q → ((∀ v h', R v h' → SO C ops K dr I rest ((d, v) :: ρ) h') → SO C ops K dr I (⟨some d, p, ty, pos, aft, none⟩ :: rest) ρ h))
    (k : ∀ v h', (q → R v h') → (¬ q → h' = h) → SO C ops K dr I rest ((d, cond G v undef) :: ρ) h') :
    SO C ops K dr I (⟨some d, p, ty, pos, aft, some g⟩ :: rest) ρ h := fun a w ha hh hA => by
  have hwa := hw a ha
  have hq := Tr.iff (b := G) (p := q)
  cases hG : G with
  | false =>
    rw [hG] at k hwa hq
    unfold Lex
    rw [if_neg (by rw [hwa]; simp)]
    exact k undef h (fun e => by have := hq.2 e; cases this) (fun _ => rfl) _ w (ha.put hN _) hh hA
  | true =>
    rw [hG] at k hwa hq
    have hk := step (hq.1 rfl) (fun v h' hr => k v h' (fun _ => hr) (fun e => absurd (hq.1 rfl) e)) a w ha hh hA
    unfold Lex at hk ⊢
    rw [if_pos (by simp [Region.wanted])] at hk
    rw [if_pos hwa]
    exact hk
theorem glt {p : Op} {j t : Nat} {b : Bool} {q : Prop} {R : Value → Heap → Prop} [Tr b q] (hj : (ops[j]?).bind (·.dst) = some t) (hb : get ρ t = some (.bool b)) (hN : Nat.blt d C.N = true)
    (step : q → ((∀ v h', R v h' → SO C ops K dr I rest ((d, v) :: ρ) h') → SO C ops K dr I (⟨some d, p, ty, pos, aft, none⟩ :: rest) ρ h))
    (k : ∀ v h', (q → R v h') → (¬ q → h' = h) → SO C ops K dr I rest ((d, cond b v undef) :: ρ) h') : SO C ops K dr I (⟨some d, p, ty, pos, aft, some (j, true)⟩ :: rest) ρ h :=
  gl_ (G := b) (fun a ha => by rw [wanted_t ha hj hb]; simp) hN step k
theorem glf {p : Op} {j t : Nat} {b : Bool} {q : Prop} {R : Value → Heap → Prop} [Tr b q] (hj : (ops[j]?).bind (·.dst) = some t) (hb : get ρ t = some (.bool b)) (hN : Nat.blt d C.N = true)
    (step : ¬ q → ((∀ v h', R v h' → SO C ops K dr I rest ((d, v) :: ρ) h') → SO C ops K dr I (⟨some d, p, ty, pos, aft, none⟩ :: rest) ρ h))
    (k : ∀ v h', (¬ q → R v h') → (¬ ¬ q → h' = h) → SO C ops K dr I rest ((d, cond (!b) v undef) :: ρ) h') : SO C ops K dr I (⟨some d, p, ty, pos, aft, some (j, false)⟩ :: rest) ρ h :=
  gl_ (G := !b) (fun a ha => by rw [wanted_t ha hj hb]; cases b <;> rfl) hN step k
theorem glt2 {p : Op} {j t : Nat} {G b : Bool} {q : Prop} {R : Value → Heap → Prop} [Tr (G && b) q] (hj : (ops[j]?).bind (·.dst) = some t) (hb : get ρ t = some (cond G (.bool b) undef)) (hN : Nat.blt d C.N = true)
    (step : q → ((∀ v h', R v h' → SO C ops K dr I rest ((d, v) :: ρ) h') → SO C ops K dr I (⟨some d, p, ty, pos, aft, none⟩ :: rest) ρ h))
    (k : ∀ v h', (q → R v h') → (¬ q → h' = h) → SO C ops K dr I rest ((d, cond (G && b) v undef) :: ρ) h') : SO C ops K dr I (⟨some d, p, ty, pos, aft, some (j, true)⟩ :: rest) ρ h :=
  gl_ (G := G && b) (fun a ha => by cases G with
    | false => exact wanted_u ha hj hb
    | true => rw [wanted_t ha hj hb]; simp) hN step k
theorem glf2 {p : Op} {j t : Nat} {G b : Bool} {q : Prop} {R : Value → Heap → Prop} [Tr (G && !b) q] (hj : (ops[j]?).bind (·.dst) = some t) (hb : get ρ t = some (cond G (.bool b) undef)) (hN : Nat.blt d C.N = true)
    (step : q → ((∀ v h', R v h' → SO C ops K dr I rest ((d, v) :: ρ) h') → SO C ops K dr I (⟨some d, p, ty, pos, aft, none⟩ :: rest) ρ h))
    (k : ∀ v h', (q → R v h') → (¬ q → h' = h) → SO C ops K dr I rest ((d, cond (G && !b) v undef) :: ρ) h') : SO C ops K dr I (⟨some d, p, ty, pos, aft, some (j, false)⟩ :: rest) ρ h :=
  gl_ (G := G && !b) (fun a ha => by cases G with
    | false => exact wanted_u ha hj hb
    | true => rw [wanted_t ha hj hb]; cases b <;> rfl) hN step k
/-- what is known under a guard -/
theorem cg {x : Operand} {G : Bool} {q : Prop} {v : Value} [Tr G q] (hx : ev ρ x = some (cond G v undef)) (e : q) : ev ρ x = some v := by
  have hG := (Tr.iff (b := G) (p := q)).2 e
  rw [hx, hG]; rfl
theorem cg2 {x : Operand} {G b : Bool} {q : Prop} {v : Value} [Tr G q] (hx : ev ρ x = some (cond (G && b) v undef)) (e : q) : ev ρ x = some (cond b v undef) := by
  have hG := (Tr.iff (b := G) (p := q)).2 e
  rw [hx, hG]; rfl
/-- a && b, a || b -/
theorem pka {c x y : Operand} {b b2 : Bool} (hc : ev ρ c = some (.bool b)) (hx : ev ρ x = some (cond b (.bool b2) undef)) (hy : ev ρ y = some (.bool false)) (hN : Nat.blt d C.N = true) (k : SO C ops K dr I rest ((d, .bool (b && b2)) :: ρ) h) :
    SO C ops K dr I (⟨some d, .pick c x y, ty, pos, aft, none⟩ :: rest) ρ h := by
  cases b with
  | false => exact pkf hc hy hN k
  | true => exact pkt hc hx hN k
theorem pko {c x y : Operand} {b b2 : Bool} (hc : ev ρ c = some (.bool b)) (hx : ev ρ x = some (.bool true)) (hy : ev ρ y = some (cond (!b) (.bool b2) undef)) (hN : Nat.blt d C.N = true) (k : SO C ops K dr I rest ((d, .bool (b || b2)) :: ρ) h) :
    SO C ops K dr I (⟨some d, .pick c x y, ty, pos, aft, none⟩ :: rest) ρ h := by
  cases b with
  | false => exact pkf hc hy hN k
  | true => exact pkt hc hx hN k

/-- a proposition as a Bool -/
noncomputable def tb (p : Prop) : Bool := @decide p (Classical.propDecidable p)
theorem tb_iff (p : Prop) : tb p = true ↔ p := by simp [tb]
instance Tr.tb (p : Prop) : Tr (tb p) p := ⟨tb_iff p⟩
theorem tb_of {b : Bool} {p : Prop} (h : b = true ↔ p) : b = Go.Eng.tb p := by
  rw [Bool.eq_iff_iff, tb_iff]; exact h
theorem tb_t {p : Prop} (h : p) : Go.Eng.tb p = true := (tb_iff p).2 h
theorem tb_f {p : Prop} (h : ¬ p) : Go.Eng.tb p = false := by
  cases e : Go.Eng.tb p with
  | false => rfl
  | true => exact absurd ((tb_iff p).1 e) h
theorem tb_congr {p q : Prop} (h : p ↔ q) : Go.Eng.tb p = Go.Eng.tb q := by rw [propext h]
theorem vtb {b : Bool} {p q : Prop} [Tr b q] (h : q ↔ p) : Value.bool b = Value.bool (Go.Eng.tb p) := congrArg Value.bool (tb_of ((Tr.iff (b := b) (p := q)).trans h))
/-- a call that leaves the heap; one that only adds to it -/
theorem clp {f : Nat} {args : Array Operand} {ats : Array TypeId} {vs : List Value} {v : Value} (hf : Does C.P f vs h (fun v' h' => h' = h ∧ v' = v)) (hp : args.toList.map (ev ρ) = vs.map some) (hN : Nat.blt d C.N = true) (k : SO C ops K false I rest ((d, v) :: ρ) h) :
    SO C ops K false I (⟨some d, .call { callee := .value (.func f), args := args, argTypes := ats }, ty, pos, aft, none⟩ :: rest) ρ h :=
  cl hp hf hN (fun v' h' ⟨e1, e2⟩ => by rw [e1, e2]; exact k)
theorem clpI {f : Nat} {args : Array Operand} {ats : Array TypeId} {vs : List Value} {v : Value} (hf : Does C.P f vs h (fun v' h' => h' = h ∧ v' = v)) (hp : args.toList.map (ev ρ) = vs.map some) (hI : I h) (hN : Nat.blt d C.N = true) (k : SO C ops K true I rest ((d, v) :: ρ) h) :
    SO C ops K true I (⟨some d, .call { callee := .value (.func f), args := args, argTypes := ats }, ty, pos, aft, none⟩ :: rest) ρ h :=
  clI hp hf (fun v' h' ⟨e1, _⟩ => by rw [e1]; exact hI) hN (fun v' h' ⟨e1, e2⟩ => by rw [e1, e2]; exact k)
theorem clE {f : Nat} {args : Array Operand} {ats : Array TypeId} {vs : List Value} {v : Value} (hf : Does C.P f vs h (fun v' h' => v' = v ∧ Ext h h')) (hp : args.toList.map (ev ρ) = vs.map some) (hN : Nat.blt d C.N = true) (k : ∀ h', Ext h h' → SO C ops K false I rest ((d, v) :: ρ) h') :
    SO C ops K false I (⟨some d, .call { callee := .value (.func f), args := args, argTypes := ats }, ty, pos, aft, none⟩ :: rest) ρ h :=
  cl hp hf hN (fun v' h' ⟨e1, e2⟩ => by rw [e1]; exact k h' e2)
theorem clEI {f : Nat} {args : Array Operand} {ats : Array TypeId} {vs : List Value} {v : Value} (hf : Does C.P f vs h (fun v' h' => v' = v ∧ Ext h h')) (hp : args.toList.map (ev ρ) = vs.map some) (hI : ∀ h', Ext h h' → I h') (hN : Nat.blt d C.N = true) (k : ∀ h', Ext h h' → SO C ops K true I rest ((d, v) :: ρ) h') :
    SO C ops K true I (⟨some d, .call { callee := .value (.func f), args := args, argTypes := ats }, ty, pos, aft, none⟩ :: rest) ρ h :=
  clI hp hf (fun v' h' ⟨_, e2⟩ => hI h' e2) hN (fun v' h' ⟨e1, e2⟩ => by rw [e1]; exact k h' e2)
theorem ge_ {p : Op} {g : Nat × Bool} {G : Bool} {q : Prop} {v : Value} [Tr G q] (hw : ∀ a, Ag C.N ρ a → Region.wanted ⟨some d, p, ty, pos, aft, some g⟩ (yielded ops a.tmps) = G) (hN : Nat.blt d C.N = true)
    (step : q → ((∀ h', Ext h h' → SO C ops K dr I rest ((d, v) :: ρ) h') → SO C ops K dr I (⟨some d, p, ty, pos, aft, none⟩ :: rest) ρ h))
    (k : ∀ h', Ext h h' → SO C ops K dr I rest ((d, cond G v undef) :: ρ) h') :
    SO C ops K dr I (⟨some d, p, ty, pos, aft, some g⟩ :: rest) ρ h :=
  gl_ (R := fun v' h' => v' = v ∧ Ext h h') hw hN (fun e kk => step e (fun h' x => kk v h' ⟨rfl, x⟩)) (fun v' h' h1 h2 => by
    have hq := Tr.iff (b := G) (p := q)
    cases hG : G with
    | false =>
      rw [hG] at k hq
      rw [h2 (fun e => by have := hq.2 e; cases this)]
      exact k h (Mod.refl _ _)
    | true =>
      rw [hG] at k hq
      obtain ⟨e1, e2⟩ := h1 (hq.1 rfl)
      rw [e1]; exact k h' e2)
theorem getr {p : Op} {j t : Nat} {b : Bool} {q : Prop} {v : Value} [Tr b q] (hj : (ops[j]?).bind (·.dst) = some t) (hb : Eng.get ρ t = some (.bool b)) (hN : Nat.blt d C.N = true)
    (step : q → ((∀ h', Ext h h' → SO C ops K dr I rest ((d, v) :: ρ) h') → SO C ops K dr I (⟨some d, p, ty, pos, aft, none⟩ :: rest) ρ h))
    (k : ∀ h', Ext h h' → SO C ops K dr I rest ((d, cond b v undef) :: ρ) h') : SO C ops K dr I (⟨some d, p, ty, pos, aft, some (j, true)⟩ :: rest) ρ h :=
  ge_ (G := b) (fun a ha => by rw [wanted_t ha hj hb]; simp) hN step k
theorem gef {p : Op} {j t : Nat} {b : Bool} {q : Prop} {v : Value} [Tr b q] (hj : (ops[j]?).bind (·.dst) = some t) (hb : Eng.get ρ t = some (.bool b)) (hN : Nat.blt d C.N = true)
    (step : ¬ q → ((∀ h', Ext h h' → SO C ops K dr I rest ((d, v) :: ρ) h') → SO C ops K dr I (⟨some d, p, ty, pos, aft, none⟩ :: rest) ρ h))
    (k : ∀ h', Ext h h' → SO C ops K dr I rest ((d, cond (!b) v undef) :: ρ) h') : SO C ops K dr I (⟨some d, p, ty, pos, aft, some (j, false)⟩ :: rest) ρ h :=
  ge_ (G := !b) (fun a ha => by rw [wanted_t ha hj hb]; cases b <;> rfl) hN step k
theorem getr2 {p : Op} {j t : Nat} {G b : Bool} {q : Prop} {v : Value} [Tr (G && b) q] (hj : (ops[j]?).bind (·.dst) = some t) (hb : Eng.get ρ t = some (cond G (.bool b) undef)) (hN : Nat.blt d C.N = true)
    (step : q → ((∀ h', Ext h h' → SO C ops K dr I rest ((d, v) :: ρ) h') → SO C ops K dr I (⟨some d, p, ty, pos, aft, none⟩ :: rest) ρ h))
    (k : ∀ h', Ext h h' → SO C ops K dr I rest ((d, cond (G && b) v undef) :: ρ) h') : SO C ops K dr I (⟨some d, p, ty, pos, aft, some (j, true)⟩ :: rest) ρ h :=
  ge_ (G := G && b) (fun a ha => by cases G with
    | false => exact wanted_u ha hj hb
    | true => rw [wanted_t ha hj hb]; simp) hN step k
theorem gef2 {p : Op} {j t : Nat} {G b : Bool} {q : Prop} {v : Value} [Tr (G && !b) q] (hj : (ops[j]?).bind (·.dst) = some t) (hb : Eng.get ρ t = some (cond G (.bool b) undef)) (hN : Nat.blt d C.N = true)
    (step : q → ((∀ h', Ext h h' → SO C ops K dr I rest ((d, v) :: ρ) h') → SO C ops K dr I (⟨some d, p, ty, pos, aft, none⟩ :: rest) ρ h))
    (k : ∀ h', Ext h h' → SO C ops K dr I rest ((d, cond (G && !b) v undef) :: ρ) h') : SO C ops K dr I (⟨some d, p, ty, pos, aft, some (j, false)⟩ :: rest) ρ h :=
  ge_ (G := G && !b) (fun a ha => by cases G with
    | false => exact wanted_u ha hj hb
    | true => rw [wanted_t ha hj hb]; cases b <;> rfl) hN step k
end op
end Go.Eng
