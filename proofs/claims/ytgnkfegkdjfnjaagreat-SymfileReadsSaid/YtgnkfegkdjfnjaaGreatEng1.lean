/- The engine, part 1: rules by which a function of the program is walked. No condition. -/
import Derived.Orders
import Derived.KernelRfl
import Derived.Tactics
namespace Go.Eng

abbrev Heap := Array Obj
abbrev Env := List (Nat × Value)

/-- what a slot holds -/
def get : Env → Nat → Option Value
  | [], _ => none
  | p :: r, t => cond (Nat.beq t p.1) (some p.2) (get r t)

structure Amb (w w' : World) : Prop where
  os : w'.os = w.os
  tape : w'.tape = w.tape
  output : w'.output = w.output

theorem Amb.refl (w : World) : Amb w w := ⟨rfl, rfl, rfl⟩
theorem Amb.trans {a b c : World} (h : Amb a b) (k : Amb b c) : Amb a c := ⟨k.os.trans h.os, k.tape.trans h.tape, k.output.trans h.output⟩

structure Ag (N : Nat) (ρ : Env) (a : Act) : Prop where
  defers : a.defers = []
  size : a.tmps.size = N
  slots : ∀ t v, get ρ t = some v → a.tmps[t]? = some v

def ev (ρ : Env) : Operand → Option Value
  | .tmp t => get ρ t
  | .const v => some v
  | .func f => some (.func (.func f) #[] #[])
  | .global g => some (.pointer (some ⟨g, 0, none⟩))

theorem Ag.ev {N : Nat} {ρ : Env} {a : Act} (h : Ag N ρ a) {x : Operand} {v : Value} (hx : ev ρ x = some v) : a.eval x = v := by
  cases x with
  | tmp t => have := h.slots t v hx; simp [Act.eval, this]
  | const c => simpa [Eng.ev, Act.eval] using hx
  | global g => simpa [Eng.ev, Act.eval] using hx
  | func f => simpa [Eng.ev, Act.eval] using hx

theorem Ag.put {N : Nat} {ρ : Env} {a : Act} (h : Ag N ρ a) {d : Nat} (hd : Nat.blt d N = true) (v : Value) : Ag N ((d, v) :: ρ) (a.put (some d) v) := by
  have hdN : d < N := Nat.blt_eq.mp hd
  refine ⟨h.defers, by simp [Act.put, h.size], fun t u hg => ?_⟩
  simp only [get] at hg
  by_cases e : t = d
  · subst e
    simp only [Nat.beq_refl, cond_true] at hg
    cases hg
    simp only [Act.put]
    rw [Array.getElem?_setIfInBounds_self_of_lt (by rw [h.size]; exact hdN)]
  · have : Nat.beq t d = false := by
      cases hb : Nat.beq t d
      · rfl
      · exact absurd (Nat.eq_of_beq_eq_true hb) e
    simp only [this, cond_false] at hg
    simp only [Act.put]
    rw [Array.getElem?_setIfInBounds_ne (Ne.symm e)]
    exact h.slots t u hg

theorem Ag.putNone {N : Nat} {ρ : Env} {a : Act} (h : Ag N ρ a) (v : Value) : Ag N ρ (a.put none v) := h

/-- operations that may touch memory, or run code -/
def isLoud (o : Oper) : Bool :=
  match o.op with
  | .move _ | .assign _ | .pick .. | .build .. | .load .. | .nilCheck _ | .binOp .. | .unOp .. | .slice .. | .fieldAddr .. | .field .. | .indexAddr .. | .index .. | .lookup ..
  | .extract .. | .makeFunc .. | .convert .. => false
  | .call { callee := .builtin b, .. } => match b with | .len | .max | .min | .cap => false | _ => true
  | _ => true

/-- an operation that acts: its value and the world behind it -/
def Loud (P : Program) (o : Oper) (a : Act) (w : World) (K : Act → World → Prop) : Prop :=
  match (execOp a.eval o).run P w with
  | .ok (.value v) w' => K (a.put o.dst v) w'
  | .ok .skip w' => K (a.put o.dst undef) w'
  | .ok (.enter f args) w' => Calls P f args w' (fun e w'' => ∃ v, e = .returned v ∧ K (a.put o.dst v) w'')
  | _ => False

theorem Loud.mono {P : Program} {o : Oper} {a : Act} {w : World} {K K' : Act → World → Prop} (h : ∀ a w, K a w → K' a w) (hh : Loud P o a w K) : Loud P o a w K' := by
  unfold Loud at *
  generalize (execOp a.eval o).run P w = r at *
  cases r with
  | ok n w' =>
    cases n <;> simp only at hh ⊢
    case enter f args => exact hh.mono fun e w'' ⟨v, he, hk⟩ => ⟨v, he, h _ _ hk⟩
    all_goals exact h _ _ hh
  | halt x w' => simp at hh

theorem Loud.wp {P : Program} {o : Oper} {a : Act} {w : World} {K : Act → World → Prop} {Q : Exit → Act → World → Prop} (hh : Loud P o a w K) : o.wp P a w K Q := by
  unfold Loud at hh
  unfold Oper.wp
  generalize (execOp a.eval o).run P w = r at *
  cases r with
  | ok n w' =>
    cases n <;> simp only [Oper.upon] at hh ⊢
    case enter f args => exact hh.mono fun e w'' ⟨v, he, hk⟩ => by subst he; exact hk
    all_goals exact hh
  | halt x w' => simp at hh

/-- the walk of a region's operations in one order -/
def Lex (P : Program) (ops : Array Oper) (dr : Bool) (C : World → Prop) (K : Exit → Act → World → Prop) : List Oper → Act → World → Prop
  | [], a, w => K .normal a w
  | o :: rest, a, w =>
    if Region.wanted o (yielded ops a.tmps) then
      (∃ v, (dr = true → isLoud o = false) ∧ (∀ w', (dr = false → w' = w) → C w' → (execOp a.eval o).run P w' = .ok (.value v) w') ∧ Lex P ops dr C K rest (a.put o.dst v) w) ∨
      ((dr = true → isLoud o = true) ∧ Loud P o a w (fun a' w' => C w' ∧ Lex P ops dr C K rest a' w'))
    else Lex P ops dr C K rest (a.put o.dst undef) w

theorem lex_wpList {P : Program} {ops : Array Oper} {C : World → Prop} {K : Exit → Act → World → Prop} : ∀ (l : List Oper) (a : Act) (w : World), C w → Lex P ops false C K l a w → wpList P ops K l a w
  | [], _, _, _, h => h
  | o :: rest, a, w, hC, h => by
    unfold Lex at h
    unfold wpList
    split
    · rename_i hw
      rw [if_pos hw] at h
      refine .inl ?_
      rcases h with ⟨v, -, hv, hk⟩ | ⟨-, hl⟩
      · unfold Oper.wp
        rw [hv w (fun _ => rfl) hC]
        exact lex_wpList rest _ _ hC hk
      · exact Loud.wp (hl.mono fun a' w' ⟨hc, hk⟩ => lex_wpList rest a' w' hc hk)
    · rename_i hw
      rw [if_neg hw] at h
      exact lex_wpList rest _ _ hC h

section drawn
variable {P : Program} {ops : Array Oper} {C : World → Prop} {K : Exit → Act → World → Prop}

def stepG (P : Program) (ops : Array Oper) (i : Nat) (K : Act → World → Prop) (a : Act) (w : World) : Prop :=
  match ops[i]? with
  | none => K a w
  | some o => if Region.wanted o (yielded ops a.tmps) then Loud P o a w K else K (a.put o.dst undef) w

/-- whatever order is picked from here on; each world on the way is one of C -/
def AnyI (P : Program) (ops : Array Oper) (C : World → Prop) (K : Exit → Act → World → Prop) : Nat → Array Bool → Act → World → Prop
  | 0, listed, a, w => C w ∧ Region.ready .any ops listed = [] ∧ K .normal a w
  | f + 1, listed, a, w => C w ∧ (Region.ready .any ops listed = [] → K .normal a w) ∧ ∀ i ∈ Region.ready .any ops listed, stepG P ops i (AnyI P ops C K f (listed.setIfInBounds i true)) a w

theorem AnyI.c : ∀ {f : Nat} {listed : Array Bool} {a : Act} {w : World}, AnyI P ops C K f listed a w → C w
  | 0, _, _, _, h => h.1
  | _ + 1, _, _, _, h => h.1

theorem stepG_mono {i : Nat} {a : Act} {w : World} {K K' : Act → World → Prop} (h : ∀ a w, K a w → K' a w) (hh : stepG P ops i K a w) : stepG P ops i K' a w := by
  unfold stepG at *
  split
  · exact h _ _ (by simpa [*] using hh)
  · rename_i o ho
    simp only [ho] at hh
    split
    · rename_i hw; simp only [hw, if_true] at hh; exact hh.mono h
    · rename_i hw; simp only [hw] at hh; exact h _ _ hh

theorem anyI_wpAny : ∀ (f : Nat) (listed : Array Bool) (a : Act) (w : World), AnyI P ops C K f listed a w → wpAny P .any ops K f listed a w
  | 0, _, _, _, h => ⟨h.2.1, h.2.2⟩
  | f + 1, listed, a, w, h => ⟨h.2.1, fun i hi => by
      have := h.2.2 i hi
      unfold stepG at this
      unfold wpOp
      split
      · rename_i ho; simp only [ho] at this; exact anyI_wpAny f _ _ _ this
      · rename_i o ho
        simp only [ho] at this
        split
        · rename_i hw; simp only [hw, if_true] at this
          exact .inl (Loud.wp (this.mono fun a' w' hk => anyI_wpAny f _ a' w' hk))
        · rename_i hw; simp only [hw] at this; exact anyI_wpAny f _ _ _ this⟩

/-- one value, in every world of C -/
def YieldsC (P : Program) (ops : Array Oper) (C : World → Prop) (o : Oper) (v : Value) (a : Act) : Prop :=
  (Region.wanted o (yielded ops a.tmps) = true ∧ ∀ w, C w → (execOp a.eval o).run P w = .ok (.value v) w) ∨ (Region.wanted o (yielded ops a.tmps) = false ∧ v = undef)

theorem YieldsC.of_same {o : Oper} {v : Value} {a a' : Act} (hy : YieldsC P ops C o v a) (he : execOp a'.eval o = execOp a.eval o)
    (hw : Region.wanted o (yielded ops a'.tmps) = Region.wanted o (yielded ops a.tmps)) : YieldsC P ops C o v a' := by
  unfold YieldsC at *; rw [he, hw]; exact hy

theorem YieldsC.stepG {i : Nat} {o : Oper} {v : Value} {a : Act} {w : World} (hi : ops[i]? = some o) (hy : YieldsC P ops C o v a) (hC : C w) {K : Act → World → Prop} (h : K (a.put o.dst v) w) : stepG P ops i K a w := by
  unfold Eng.stepG
  simp only [hi]
  rcases hy with ⟨hw, hv⟩ | ⟨hw, rfl⟩
  · simp only [hw, if_true, Loud, hv w hC]; exact h
  · simp only [hw, Bool.false_eq_true, if_false]; exact h

theorem stepG_put {j : Nat} {oi oj : Oper} {v : Value} (hj : ops[j]? = some oj) (hap : oi.apart ops oj = true) (hsi : ∀ cs b, oi.op ≠ .select cs b) (hsj : ∀ cs b, oj.op ≠ .select cs b)
    {K : Act → World → Prop} {a : Act} {w : World} (hy : YieldsC P ops C oi v a) (h : stepG P ops j K (a.put oi.dst v) w) :
    stepG P ops j (fun a' w' => YieldsC P ops C oi v a' ∧ K (a'.put oi.dst v) w') a w := by
  obtain ⟨h1, h2, h3⟩ := Oper.apart_spec hap
  have keep : ∀ (a : Act), YieldsC P ops C oi v a → ∀ u, YieldsC P ops C oi v (a.put oj.dst u) := fun a hy u =>
    hy.of_same (execOp_put oi hsi a oj.dst u h3) (wanted_put oi a oj.dst u h3)
  unfold stepG at *
  simp only [hj] at *
  rw [wanted_put oj a oi.dst v h1] at h
  split
  · rename_i hw
    simp only [hw, if_true] at h
    unfold Loud at *
    rw [execOp_put oj hsj a oi.dst v h1] at h
    generalize (execOp a.eval oj).run P w = r at *
    cases r with
    | ok n w' =>
      cases n <;> simp only at h ⊢
      case value u => exact ⟨keep a hy u, by rw [← Act.put_comm a v u h2]; exact h⟩
      case skip => exact ⟨keep a hy _, by rw [← Act.put_comm a v undef h2]; exact h⟩
      case enter f args => exact h.mono fun e w'' ⟨u, he, hk⟩ => ⟨u, he, keep a hy u, by rw [← Act.put_comm a v u h2]; exact hk⟩
    | halt x w' => simp at h
  · rename_i hw
    simp only [hw] at h
    exact ⟨keep a hy _, by rw [← Act.put_comm a v undef h2]; exact h⟩

theorem anyI_first {i : Nat} {oi : Oper} {v : Value} (hi : ops[i]? = some oi) (hsel : ∀ (j : Nat) (o : Oper) cs b, ops[j]? = some o → o.op ≠ .select cs b) :
    ∀ (fuel : Nat) (listed : Array Bool) (a : Act) (w : World),
      (∀ j oj, ops[j]? = some oj → j ≠ i → listed.getD j true = false → (∀ e ∈ oj.after, Region.binds .any e = true → e.on ≠ i) → oi.apart ops oj = true) →
      i ∈ Region.ready .any ops listed → YieldsC P ops C oi v a →
      AnyI P ops C K fuel (listed.setIfInBounds i true) (a.put oi.dst v) w → AnyI P ops C K (fuel + 1) listed a w := by
  intro fuel
  induction fuel with
  | zero =>
    intro listed a w _ hr hy H
    refine ⟨H.1, fun h => (by rw [h] at hr; cases hr), fun j hj => ?_⟩
    by_cases hji : j = i
    · subst hji; exact hy.stepG hi H.1 H
    · have := ready_mono hj hji
      rw [H.2.1] at this
      cases this
  | succ fuel ih =>
    intro listed a w hfree hr hy H
    refine ⟨H.1, fun h => (by rw [h] at hr; cases hr), fun j hj => ?_⟩
    by_cases hji : j = i
    · subst hji; exact hy.stepG hi H.1 H
    · have h1 := H.2.2 j (ready_mono hj hji)
      obtain ⟨hjun, oj, hoj, hall⟩ := mem_ready.1 hj
      have hnot : ∀ e ∈ oj.after, Region.binds .any e = true → e.on ≠ i := fun e he hb heq => by
        have h1 := hall e he hb
        have h0 := (mem_ready.1 hr).1
        rw [heq] at h1
        rcases Nat.lt_or_ge i listed.size with h' | h'
        · simp [h'] at h0 h1; rw [h0] at h1; cases h1
        · simp [Array.getElem?_eq_none h'] at h1
      have h2 := stepG_put hoj (hfree j oj hoj hji hjun hnot) (fun cs b => hsel i oi cs b hi) (fun cs b => hsel j oj cs b hoj) hy h1
      have hfree' : ∀ k ok, ops[k]? = some ok → k ≠ i → (listed.setIfInBounds j true).getD k true = false →
          (∀ e ∈ ok.after, Region.binds .any e = true → e.on ≠ i) → oi.apart ops ok = true := fun k ok hk hki hun hno => by
        refine hfree k ok hk hki ?_ hno
        by_cases hjk : j = k
        · subst hjk; exact hjun
        · rw [getD_set_ne true hjk] at hun; exact hun
      refine stepG_mono (fun a' w' h3 => ih (listed.setIfInBounds j true) a' w' hfree' (ready_mono hr (Ne.symm hji)) h3.1 ?_) h2
      rw [Array.setIfInBounds_comm _ _ hji]
      exact h3.2

/-- the check on an order: each operation that acts is the only one that may come up; each other may be taken first -/
def okLex (ops : Array Oper) : List Nat → Array Bool → Bool
  | [], listed => (Region.ready .any ops listed).isEmpty
  | k :: rest, listed =>
    (match ops[k]? with
     | none => false
     | some o => if isLoud o then (Region.ready .any ops listed) == [k] else (Region.ready .any ops listed).contains k && Region.free .any ops listed k) &&
    okLex ops rest (listed.setIfInBounds k true)

theorem lex_anyI (hs : Region.noSelect ops = true) : ∀ (π : List Nat) (l : List Oper) (listed : Array Bool) (a : Act) (w : World), C w → π.map (fun k => ops[k]?) = l.map some →
    okLex ops π listed = true → Lex P ops true C K l a w → AnyI P ops C K π.length listed a w
  | [], [], listed, a, w, hC, _, hok, h => by
    simp only [okLex, List.isEmpty_iff] at hok
    exact ⟨hC, hok, h⟩
  | k :: π, [], _, _, _, _, he, _, _ => by simp at he
  | [], _ :: _, _, _, _, _, he, _, _ => by simp at he
  | k :: π, o :: l, listed, a, w, hC, he, hok, h => by
    simp only [List.map_cons, List.cons.injEq] at he
    obtain ⟨hk, he⟩ := he
    simp only [okLex, hk, Bool.and_eq_true] at hok
    obtain ⟨hok1, hok2⟩ := hok
    have ih : ∀ a w, C w → Lex P ops true C K l a w → AnyI P ops C K π.length (listed.setIfInBounds k true) a w := fun a w hC h => lex_anyI hs π l _ a w hC he hok2 h
    unfold Lex at h
    cases hl : isLoud o with
    | false =>
      simp only [hl, Bool.false_eq_true, if_false, Bool.and_eq_true] at hok1
      obtain ⟨hr, hf⟩ := hok1
      have first : ∀ v, YieldsC P ops C o v a → Lex P ops true C K l (a.put o.dst v) w → AnyI P ops C K (k :: π).length listed a w := fun v hy hk' =>
        anyI_first hk (Region.noSelect_spec hs) π.length listed a w (Region.free_spec hk hf) (by simpa using hr) hy (ih _ _ hC hk')
      by_cases hw : Region.wanted o (yielded ops a.tmps) = true
      · rw [if_pos hw] at h
        rcases h with ⟨v, -, hv, hk'⟩ | ⟨hl', -⟩
        · exact first v (.inl ⟨hw, fun w' hC' => hv w' (by simp) hC'⟩) hk'
        · have := hl' rfl; rw [hl] at this; cases this
      · rw [if_neg hw] at h
        exact first undef (.inr ⟨by simpa using hw, rfl⟩) h
    | true =>
      simp only [hl, if_true, beq_iff_eq] at hok1
      refine ⟨hC, fun h0 => (by rw [h0] at hok1; cases hok1), fun i hi => ?_⟩
      rw [hok1] at hi
      obtain rfl : i = k := by simpa using hi
      unfold stepG
      simp only [hk]
      split
      · rename_i hw
        rw [if_pos hw] at h
        rcases h with ⟨v, hl', -⟩ | ⟨-, hL⟩
        · have := hl' rfl; rw [hl] at this; cases this
        · exact hL.mono fun a' w' ⟨hc, hk'⟩ => ih a' w' hc hk'
      · rename_i hw
        rw [if_neg hw] at h
        exact ih _ _ hC h

theorem wp_region_lex {id : Nat} {a : Act} {w : World} (π : List Nat) (l : List Oper) (hm : P.follows .mixedOrders = true) (hs : Region.noSelect ops = true) (hn : π.length = ops.size)
    (he : π.map (fun k => ops[k]?) = l.map some) (hok : okLex ops π (Array.replicate ops.size false) = true) (hC : C { w with drawn := w.drawn + 1 })
    (h : Lex P ops true C K l a { w with drawn := w.drawn + 1 }) : (Code.region id ops true).wp P K a w :=
  wp_region_any hm (anyI_wpAny _ _ _ _ (hn ▸ lex_anyI hs π l _ a _ hC he hok h))
end drawn
end Go.Eng
