/- The engine, part 13: rules by which a function of the program is walked. No condition. -/
import Derived.Test.YtgnkfegkdjfnjaaGreatEng12
namespace Go.Eng
/-! A region that draws its order, and whose last operation waits for all others: the worlds behind it need be none of C. -/
section bar
variable {P : Program} {ops : Array Oper} {C : World → Prop} {K : Exit → Act → World → Prop} {kb : Nat}

def AnyB (P : Program) (ops : Array Oper) (C : World → Prop) (kb : Nat) (K : Exit → Act → World → Prop) : Nat → Array Bool → Act → World → Prop
  | 0, listed, a, w => (¬ listed.getD kb false = true → C w) ∧ Region.ready .any ops listed = [] ∧ K .normal a w
  | f + 1, listed, a, w => (¬ listed.getD kb false = true → C w) ∧ (Region.ready .any ops listed = [] → K .normal a w) ∧ ∀ i ∈ Region.ready .any ops listed, stepG P ops i (AnyB P ops C kb K f (listed.setIfInBounds i true)) a w
theorem AnyB.c : ∀ {f : Nat} {listed : Array Bool} {a : Act} {w : World}, AnyB P ops C kb K f listed a w → ¬ listed.getD kb false = true → C w
  | 0, _, _, _, h => h.1
  | _ + 1, _, _, _, h => h.1
theorem anyB_wpAny : ∀ (f : Nat) (listed : Array Bool) (a : Act) (w : World), AnyB P ops C kb K f listed a w → wpAny P .any ops K f listed a w
  | 0, _, _, _, h => ⟨h.2.1, h.2.2⟩
  | f + 1, listed, a, w, h => ⟨h.2.1, fun i hi => by
      have := h.2.2 i hi
      unfold stepG at this
      unfold wpOp
      split
      · rename_i ho; simp only [ho] at this; exact anyB_wpAny f _ _ _ this
      · rename_i o ho
        simp only [ho] at this
        split
        · rename_i hw; simp only [hw, if_true] at this
          exact .inl (Loud.wp (this.mono fun a' w' hk => anyB_wpAny f _ a' w' hk))
        · rename_i hw; simp only [hw] at this; exact anyB_wpAny f _ _ _ this⟩
/-- what is listed, for that all is listed -/
def Down (ops : Array Oper) (listed : Array Bool) : Prop := ∀ (j : Nat) (o : Oper), ops[j]? = some o → listed.getD j false = true → ∀ e ∈ o.after, Region.binds .any e = true → listed.getD e.on false = true
theorem Down.set {listed : Array Bool} (h : Down ops listed) {i : Nat} (hi : i ∈ Region.ready .any ops listed) : Down ops (listed.setIfInBounds i true) := by
  intro j o hj hl e he hb
  by_cases hij : i = j
  · subst hij
    obtain ⟨_, o', ho', hall⟩ := mem_ready.1 hi
    rw [ho'] at hj; cases hj
    exact getD_set_true (hall e he hb)
  · rw [getD_set_ne false hij] at hl
    exact getD_set_true (h j o hj hl e he hb)
theorem Down.none (n : Nat) : Down ops (Array.replicate n false) := by
  intro j o _ hl
  simp [Array.getD_eq_getD_getElem?, Array.getElem?_replicate] at hl
  split at hl <;> simp at hl
def deps (ops : Array Oper) (j : Nat) : List Nat := match ops[j]? with
  | some o => (o.after.toList.filter (fun e => Region.binds .any e)).map (·.on)
  | none => []
def ancs (ops : Array Oper) : List Nat → List Nat → List Nat
  | [], D => D
  | j :: r, D => ancs ops r (if D.contains j then D ++ deps ops j else D)
theorem ancs_listed {listed : Array Bool} (hD : Down ops listed) : ∀ (l D : List Nat), (∀ j ∈ D, listed.getD j false = true) → ∀ j ∈ ancs ops l D, listed.getD j false = true
  | [], D, h => h
  | j :: r, D, h => by
    refine ancs_listed hD r _ ?_
    split
    · rename_i hc
      intro x hx
      rcases List.mem_append.1 hx with hx | hx
      · exact h x hx
      · unfold deps at hx
        split at hx
        · rename_i o ho
          rw [List.mem_map] at hx
          obtain ⟨e, he, rfl⟩ := hx
          rw [List.mem_filter] at he
          exact hD j o ho (h j (by simpa using hc)) e (by simpa using he.1) he.2
        · cases hx
    · exact h
theorem anyB_first {i : Nat} {oi : Oper} {v : Value} (hi : ops[i]? = some oi) (hsel : ∀ (j : Nat) (o : Oper) cs b, ops[j]? = some o → o.op ≠ .select cs b)
    (hkb : i ≠ kb) (hanc : ∀ listed, Down ops listed → listed.getD kb false = true → listed.getD i false = true) :
    ∀ (fuel : Nat) (listed : Array Bool) (a : Act) (w : World),
      (∀ j oj, ops[j]? = some oj → j ≠ i → listed.getD j true = false → (∀ e ∈ oj.after, Region.binds .any e = true → e.on ≠ i) → oi.apart ops oj = true) →
      Down ops listed → i ∈ Region.ready .any ops listed → YieldsC P ops C oi v a →
      AnyB P ops C kb K fuel (listed.setIfInBounds i true) (a.put oi.dst v) w → AnyB P ops C kb K (fuel + 1) listed a w := by
  intro fuel
  have hlow : ∀ listed, Down ops listed → i ∈ Region.ready .any ops listed → ¬ listed.getD kb false = true := fun listed hD hr hk => by
    have h1 := hanc listed hD hk
    have h0 := (mem_ready.1 hr).1
    rcases Nat.lt_or_ge i listed.size with h' | h'
    · simp [h'] at h0 h1; rw [h0] at h1; cases h1
    · simp [Array.getElem?_eq_none h'] at h1
  have hset : ∀ (listed : Array Bool), (listed.setIfInBounds i true).getD kb false = listed.getD kb false := fun listed => getD_set_ne false hkb
  induction fuel with
  | zero =>
    intro listed a w _ hD hr hy H
    have hC : C w := H.1 (by rw [hset]; exact hlow listed hD hr)
    refine ⟨fun _ => hC, fun h => (by rw [h] at hr; cases hr), fun j hj => ?_⟩
    by_cases hji : j = i
    · subst hji; exact hy.stepG hi hC H
    · have := ready_mono hj hji
      rw [H.2.1] at this
      cases this
  | succ fuel ih =>
    intro listed a w hfree hD hr hy H
    have hC : C w := H.1 (by rw [hset]; exact hlow listed hD hr)
    refine ⟨fun _ => hC, fun h => (by rw [h] at hr; cases hr), fun j hj => ?_⟩
    by_cases hji : j = i
    · subst hji; exact hy.stepG hi hC H
    · have h1 := H.2.2 j (ready_mono hj hji)
      obtain ⟨hjun, oj, hoj, hall⟩ := mem_ready.1 hj
      have hnot : ∀ e ∈ oj.after, Region.binds .any e = true → e.on ≠ i := fun e he hb heq => by
        have h1 := hall e he hb
        have h0 := (mem_ready.1 hr).1
        rw [heq] at h1
        rcases Nat.lt_or_ge i listed.size with h' | h'
        · simp [h'] at h0 h1; rw [h0] at h1; cases h1
        · simp [Array.getElem?_eq_none h'] at h1
      have h2 := stepG_put hoj (hfree j oj hoj hji hjun hnot) (fun cs b => hsel i oi cs b hi) (fun cs b => hsel j oj cs b hoj) hy h1
      have hfree' : ∀ k ok, ops[k]? = some ok → k ≠ i → (listed.setIfInBounds j true).getD k true = false →
          (∀ e ∈ ok.after, Region.binds .any e = true → e.on ≠ i) → oi.apart ops ok = true := fun k ok hk hki hun hno => by
        refine hfree k ok hk hki ?_ hno
        by_cases hjk : j = k
        · subst hjk; exact hjun
        · rw [getD_set_ne true hjk] at hun; exact hun
      refine stepG_mono (fun a' w' h3 => ih (listed.setIfInBounds j true) a' w' hfree' (hD.set hj) (ready_mono hr (Ne.symm hji)) h3.1 ?_) h2
      rw [Array.setIfInBounds_comm _ _ hji]
      exact h3.2
/-- the check on an order whose last operation is kb -/
def okBar (ops : Array Oper) (kb : Nat) (all : List Nat) : List Nat → Array Bool → Bool
  | [], listed => (Region.ready .any ops listed) == [kb] && ((match ops[kb]? with | some o => isLoud o | none => false) && (Region.ready .any ops (listed.setIfInBounds kb true)).isEmpty)
  | k :: rest, listed =>
    (match ops[k]? with
     | none => false
     | some o => if isLoud o then (Region.ready .any ops listed) == [k] else (Region.ready .any ops listed).contains k && (Region.free .any ops listed k && (!(Nat.beq k kb) && (ancs ops all [kb]).contains k))) &&
    okBar ops kb all rest (listed.setIfInBounds k true)
def kbar (P : Program) (ops : Array Oper) (D : World → Prop) (K : Exit → Act → World → Prop) (o : Oper) : Exit → Act → World → Prop := fun _ a w => Lex P ops true D K [o] a w
theorem lex_anyB {D : World → Prop} (hs : Region.noSelect ops = true) {ob : Oper} (hob : ops[kb]? = some ob) {all : List Nat} : ∀ (π : List Nat) (l : List Oper) (listed : Array Bool) (a : Act) (w : World), C w → Down ops listed → π.map (fun k => ops[k]?) = l.map some →
    okBar ops kb all π listed = true → Lex P ops true C (kbar P ops D K ob) l a w → AnyB P ops C kb K (π.length + 1) listed a w
  | [], [], listed, a, w, hC, hD, _, hok, h => by
    simp only [okBar, hob, Bool.and_eq_true, beq_iff_eq, List.isEmpty_iff] at hok
    obtain ⟨hr, hl, hr2⟩ := hok
    show AnyB P ops C kb K (0 + 1) listed a w
    refine ⟨fun _ => hC, fun e => (by rw [hr] at e; cases e), fun i hi => ?_⟩
    have hi0 := hi
    rw [hr] at hi
    obtain rfl : i = kb := by simpa using hi
    have hsz : i < listed.size := by
      have h0 := (mem_ready.1 hi0).1
      rcases Nat.lt_or_ge i listed.size with h' | h'
      · exact h'
      · simp [Array.getElem?_eq_none h'] at h0
    have hset : (listed.setIfInBounds i true).getD i false = true := by simp [hsz]
    have h : Lex P ops true D K [ob] a w := h
    unfold Lex at h
    unfold stepG
    simp only [hob]
    split
    · rename_i hw
      rw [if_pos hw] at h
      rcases h with ⟨v, hl', -⟩ | ⟨-, hL⟩
      · have := hl' rfl; rw [hl] at this; cases this
      · exact hL.mono fun a' w' ⟨_, hk'⟩ => ⟨fun hn => absurd hset hn, hr2, hk'⟩
    · rename_i hw
      rw [if_neg hw] at h
      exact ⟨fun hn => absurd hset hn, hr2, h⟩
  | k :: π, [], _, _, _, _, _, he, _, _ => by simp at he
  | [], _ :: _, _, _, _, _, _, he, _, _ => by simp at he
  | k :: π, o :: l, listed, a, w, hC, hD, he, hok, h => by
    simp only [List.map_cons, List.cons.injEq] at he
    obtain ⟨hk, he⟩ := he
    simp only [okBar, hk, Bool.and_eq_true] at hok
    obtain ⟨hok1, hok2⟩ := hok
    have ih : k ∈ Region.ready .any ops listed → ∀ a w, C w → Lex P ops true C (kbar P ops D K ob) l a w → AnyB P ops C kb K (π.length + 1) (listed.setIfInBounds k true) a w := fun hr a w hC h => lex_anyB hs hob π l _ a w hC (hD.set hr) he hok2 h
    unfold Lex at h
    cases hl : isLoud o with
    | false =>
      simp only [hl, Bool.false_eq_true, if_false, Bool.and_eq_true] at hok1
      obtain ⟨hr, hf, hne, han⟩ := hok1
      have hr : k ∈ Region.ready .any ops listed := by simpa using hr
      have hne : k ≠ kb := fun e => by subst e; simp at hne
      have hanc : ∀ listed, Down ops listed → listed.getD kb false = true → listed.getD k false = true := fun ls hDl hkl =>
        ancs_listed hDl all [kb] (fun j hj => by rw [List.mem_singleton] at hj; subst hj; exact hkl) k (by simpa using han)
      have first : ∀ v, YieldsC P ops C o v a → Lex P ops true C (kbar P ops D K ob) l (a.put o.dst v) w → AnyB P ops C kb K ((k :: π).length + 1) listed a w := fun v hy hk' =>
        anyB_first hk (Region.noSelect_spec hs) hne hanc (π.length + 1) listed a w (Region.free_spec hk hf) hD hr hy (ih hr _ _ hC hk')
      by_cases hw : Region.wanted o (yielded ops a.tmps) = true
      · rw [if_pos hw] at h
        rcases h with ⟨v, -, hv, hk'⟩ | ⟨hl', -⟩
        · exact first v (.inl ⟨hw, fun w' hC' => hv w' (by simp) hC'⟩) hk'
        · have := hl' rfl; rw [hl] at this; cases this
      · rw [if_neg hw] at h
        exact first undef (.inr ⟨by simpa using hw, rfl⟩) h
    | true =>
      simp only [hl, if_true, beq_iff_eq] at hok1
      refine ⟨fun _ => hC, fun h0 => (by rw [h0] at hok1; cases hok1), fun i hi => ?_⟩
      have hi0 := hi
      rw [hok1] at hi
      obtain rfl : i = k := by simpa using hi
      unfold stepG
      simp only [hk]
      split
      · rename_i hw
        rw [if_pos hw] at h
        rcases h with ⟨v, hl', -⟩ | ⟨-, hL⟩
        · have := hl' rfl; rw [hl] at this; cases this
        · exact hL.mono fun a' w' ⟨hc, hk'⟩ => ih hi0 a' w' hc hk'
      · rename_i hw
        rw [if_neg hw] at h
        exact ih hi0 _ _ hC h
end bar
section code
variable {C : Cx} {K : KK} {ρ : Env} {h : Heap}
/-- a region that draws its order but for its last operation -/
theorem c_breg {id : Nat} {ops : Array Oper} (I : Heap → Prop) (π : List Nat) (kb : Nat) {ob : Oper} (hm : C.P.follows .mixedOrders = true) (hob : ops[kb]? = some ob) (hI : I h)
    (hok : (Region.noSelect ops && (Nat.beq (π.length + 1) ops.size && (π.all (fun k => Nat.blt k ops.size) && okBar ops kb (kb :: π.reverse) π (Array.replicate ops.size false)))) = true)
    (k : SO C ops (kbar C.P ops (fun w' => Amb C.w0 w' ∧ (true = true → True)) K ob) true I (pickl ops.toList π) ρ h) : SC C K (.region id ops true) ρ h := fun a w ha hh hw => by
  simp only [Bool.and_eq_true] at hok
  have hA : Amb C.w0 { w with drawn := w.drawn + 1 } := ⟨hw.os, hw.tape, hw.output⟩
  have hn := Nat.eq_of_beq_eq_true hok.2.1
  refine wp_region_any hm (anyB_wpAny (kb := kb) (C := fun w' => Amb C.w0 w' ∧ (true = true → I w'.heap)) _ _ _ _ (hn ▸ lex_anyB (D := fun w' => Amb C.w0 w' ∧ (true = true → True)) hok.1 hob π _ _ a _ ⟨hA, fun _ => hh ▸ hI⟩ (Down.none _) (pickl_map ops π hok.2.2.1) (by rw [hn]; exact hok.2.2.2) ?_))
  exact k a _ ha hh hA
theorem x_bar {ops : Array Oper} {o : Oper} (k : SO C ops K true (fun _ => True) [o] ρ h) : SX C (kbar C.P ops (fun w' => Amb C.w0 w' ∧ (true = true → True)) K o) .normal ρ h := fun a w ha hh hw => k a w ha hh hw
end code
section op
variable {C : Cx} {ops : Array Oper} {K : KK} {dr : Bool} {I : Heap → Prop} {rest : List Oper} {ρ : Env} {h : Heap} {d : Nat} {ty : TypeId} {pos : String} {aft : Array Edge}
/-- a call whose value is known -/
theorem clv {f : Nat} {args : Array Operand} {ats : Array TypeId} {vs : List Value} {V : Value} {Q : Heap → Prop} (hf : Does C.P f vs h (fun v h' => v = V ∧ Q h')) (hp : args.toList.map (ev ρ) = vs.map some) (hN : Nat.blt d C.N = true)
    (k : ∀ h', Q h' → SO C ops K false I rest ((d, V) :: ρ) h') :
    SO C ops K false I (⟨some d, .call { callee := .value (.func f), args := args, argTypes := ats }, ty, pos, aft, none⟩ :: rest) ρ h :=
  cl hp hf hN (fun v h' ⟨e, q⟩ => by rw [e]; exact k h' q)
theorem glv_ {p : Op} {g : Nat × Bool} {G : Bool} {q : Prop} {V : Value} {Q : Heap → Prop} [Tr G q] (hw : ∀ a, Ag C.N ρ a → Region.wanted ⟨some d, p, ty, pos, aft, some g⟩ (yielded ops a.tmps) = G) (hN : Nat.blt d C.N = true)
    (step : q → ((∀ h', Q h' → SO C ops K dr I rest ((d, V) :: ρ) h') → SO C ops K dr I (⟨some d, p, ty, pos, aft, none⟩ :: rest) ρ h))
    (k : ∀ h', (q → Q h') → (¬ q → h' = h) → SO C ops K dr I rest ((d, cond G V undef) :: ρ) h') :
    SO C ops K dr I (⟨some d, p, ty, pos, aft, some g⟩ :: rest) ρ h :=
  gl_ (R := fun v h' => v = V ∧ Q h') hw hN (fun e kk => step e (fun h' q => kk V h' ⟨rfl, q⟩)) (fun v h' hr hz => by
    have := k h' (fun e => (hr e).2) hz
    cases hG : G with
    | false => rw [hG] at this; exact this
    | true =>
      rw [hG] at this
      have e := (hr ((Tr.iff (b := G) (p := q)).1 hG)).1
      rw [e]; exact this)
theorem gltv {p : Op} {j t : Nat} {b : Bool} {q : Prop} {V : Value} {Q : Heap → Prop} [Tr b q] (hj : (ops[j]?).bind (·.dst) = some t) (hb : get ρ t = some (.bool b)) (hN : Nat.blt d C.N = true)
    (step : q → ((∀ h', Q h' → SO C ops K dr I rest ((d, V) :: ρ) h') → SO C ops K dr I (⟨some d, p, ty, pos, aft, none⟩ :: rest) ρ h))
    (k : ∀ h', (q → Q h') → (¬ q → h' = h) → SO C ops K dr I rest ((d, cond b V undef) :: ρ) h') : SO C ops K dr I (⟨some d, p, ty, pos, aft, some (j, true)⟩ :: rest) ρ h :=
  glv_ (G := b) (fun a ha => by rw [wanted_t ha hj hb]; simp) hN step k
theorem glfv {p : Op} {j t : Nat} {b : Bool} {q : Prop} {V : Value} {Q : Heap → Prop} [Tr b q] (hj : (ops[j]?).bind (·.dst) = some t) (hb : get ρ t = some (.bool b)) (hN : Nat.blt d C.N = true)
    (step : ¬ q → ((∀ h', Q h' → SO C ops K dr I rest ((d, V) :: ρ) h') → SO C ops K dr I (⟨some d, p, ty, pos, aft, none⟩ :: rest) ρ h))
    (k : ∀ h', (¬ q → Q h') → (¬ ¬ q → h' = h) → SO C ops K dr I rest ((d, cond (!b) V undef) :: ρ) h') : SO C ops K dr I (⟨some d, p, ty, pos, aft, some (j, false)⟩ :: rest) ρ h :=
  glv_ (G := !b) (fun a ha => by rw [wanted_t ha hj hb]; cases b <;> rfl) hN step k
end op
end Go.Eng
