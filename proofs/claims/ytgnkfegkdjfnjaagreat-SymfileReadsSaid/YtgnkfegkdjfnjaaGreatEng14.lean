/- The engine, part 14: rules by which a function of the program is walked. No condition. -/
import Derived.Test.YtgnkfegkdjfnjaaGreatEng13
namespace Go.Eng
section op
variable {C : Cx} {ops : Array Oper} {K : KK} {dr : Bool} {I : Heap → Prop} {rest : List Oper} {ρ : Env} {h : Heap} {d : Nat} {ty : TypeId} {pos : String} {aft : Array Edge}
/-- structs of one type: are they alike? -/
class SE (P : Program) (t : TypeId) : Prop where
  guard : P.eqGuardType P.depth t = false
theorem nest {x y : Operand} {xt yt : TypeId} {xs ys : Array Value} {b : Bool} [hs : SE C.P xt] (hx : ev ρ x = some (.agg xs)) (hy : ev ρ y = some (.agg ys)) (he : ∀ w, (Op.equalIn 10000 xt (.agg xs) (.agg ys)).run C.P w = .ok b w) (hN : Nat.blt d C.N = true)
    (k : SO C ops K dr I rest ((d, .bool (!b)) :: ρ) h) : SO C ops K dr I (⟨some d, .binOp .neq xt x y yt, ty, pos, aft, none⟩ :: rest) ρ h :=
  o_val rfl rfl rfl hN (fun a w ha _ _ => by
    simp only [execOp, ha.ev hx, ha.ev hy]
    refine ex_v ?_
    rw [Sem.run_bind, run_eqGuard_agg _ _ _ _ _ _ _ hs.guard]
    simp only [Result.andThen_ok]
    rw [run_neq_struct, he w]; rfl) k
end op
end Go.Eng

namespace Go.Eng
/-! ### guarded calls of a known value, under a guard -/
section op
variable {C : Cx} {ops : Array Oper} {K : KK} {dr : Bool} {I : Heap → Prop} {rest : List Oper} {ρ : Env} {h : Heap} {d : Nat} {ty : TypeId} {pos : String} {aft : Array Edge}
theorem glt2v {p : Op} {j t : Nat} {G b : Bool} {q : Prop} {V : Value} {Q : Heap → Prop} [Tr (G && b) q] (hj : (ops[j]?).bind (·.dst) = some t) (hb : get ρ t = some (cond G (.bool b) undef)) (hN : Nat.blt d C.N = true)
    (step : q → ((∀ h', Q h' → SO C ops K dr I rest ((d, V) :: ρ) h') → SO C ops K dr I (⟨some d, p, ty, pos, aft, none⟩ :: rest) ρ h))
    (k : ∀ h', (q → Q h') → (¬ q → h' = h) → SO C ops K dr I rest ((d, cond (G && b) V undef) :: ρ) h') : SO C ops K dr I (⟨some d, p, ty, pos, aft, some (j, true)⟩ :: rest) ρ h :=
  glv_ (G := G && b) (fun a ha => by cases G with
    | false => exact wanted_u ha hj hb
    | true => rw [wanted_t ha hj hb]; simp) hN step k
theorem glf2v {p : Op} {j t : Nat} {G b : Bool} {q : Prop} {V : Value} {Q : Heap → Prop} [Tr (G && !b) q] (hj : (ops[j]?).bind (·.dst) = some t) (hb : get ρ t = some (cond G (.bool b) undef)) (hN : Nat.blt d C.N = true)
    (step : q → ((∀ h', Q h' → SO C ops K dr I rest ((d, V) :: ρ) h') → SO C ops K dr I (⟨some d, p, ty, pos, aft, none⟩ :: rest) ρ h))
    (k : ∀ h', (q → Q h') → (¬ q → h' = h) → SO C ops K dr I rest ((d, cond (G && !b) V undef) :: ρ) h') : SO C ops K dr I (⟨some d, p, ty, pos, aft, some (j, false)⟩ :: rest) ρ h :=
  glv_ (G := G && !b) (fun a ha => by cases G with
    | false => exact wanted_u ha hj hb
    | true => rw [wanted_t ha hj hb]; cases b <;> rfl) hN step k
/-- s[lo:], s[:hi] of a slice -/
theorem slf_slice {x y : Operand} {T E : TypeId} {q : IntKind} {i : Int} {n c s b o : Nat} [hT : UT C.P T (.slice E)] [hs : SZ C.P E s] (hx : ev ρ x = some (.slice (some ⟨b, o, none⟩) n c)) (hy : ev ρ y = some (.int q i)) (hi : 0 ≤ i ∧ i ≤ n) (hN : Nat.blt d C.N = true)
    (k : ∀ o', (i < c → o' = o + i.toNat * s) → SO C ops K dr I rest ((d, .slice (some ⟨b, o', none⟩) (n - i.toNat) (c - i.toNat)) :: ρ) h) : SO C ops K dr I (⟨some d, .slice T x (some y) none none, ty, pos, aft, none⟩ :: rest) ρ h :=
  o_val rfl rfl rfl hN (fun a w ha _ _ => by
    simp only [execOp, ha.ev hx, ha.ev hy, Option.map_some, Option.map_none]
    refine ex_v ?_
    have h2 : i.toNat ≤ n := by omega
    simp [Instr.sliceAt, Instr.slice, Instr.sliceBounds, Instr.sliceBound, asIntOf, run_underlying hT.eq, hs.run, hi.1, hi.2, add_eq]
    split <;> rfl) (k (if c = i.toNat then o else o + i.toNat * s) (fun e => if_neg (by omega)))
theorem slt_slice {x z : Operand} {T E : TypeId} {q : IntKind} {j : Int} {n c s b o : Nat} [hT : UT C.P T (.slice E)] [hs : SZ C.P E s] (hx : ev ρ x = some (.slice (some ⟨b, o, none⟩) n c)) (hz : ev ρ z = some (.int q j)) (hi : 0 ≤ j ∧ j ≤ c) (hN : Nat.blt d C.N = true)
    (k : SO C ops K dr I rest ((d, .slice (some ⟨b, o, none⟩) j.toNat c) :: ρ) h) : SO C ops K dr I (⟨some d, .slice T x none (some z) none, ty, pos, aft, none⟩ :: rest) ρ h :=
  o_val rfl rfl rfl hN (fun a w ha _ _ => by
    simp only [execOp, ha.ev hx, ha.ev hz, Option.map_some, Option.map_none]
    refine ex_v ?_
    simp [Instr.sliceAt, Instr.slice, Instr.sliceBounds, Instr.sliceBound, asIntOf, run_underlying hT.eq, hs.run, hi.1, hi.2, Addr.add]) k
end op

/-! ### results in cells -/
section res
variable {C : Cx} {K : KK} {ρ : Env} {h : Heap} {fn : Func} {R : Value → Heap → Prop}
theorem run_ldn {P : Program} {T n b o : Nat} {cs : List Value} [hT : LN P T n] (hn : cs.length = n) {w : World} (hc : rowAt w.heap b o cs) : (loadVar T ⟨b, o, none⟩).run P w = .ok (.agg cs.toArray) w := by
  have hl := run_loadCells_list (P := P) w ⟨b, o, none⟩ cs (fun j v hv => by rw [add_eq, cell_eq]; exact hc j v hv)
  rw [hn] at hl
  simp only [hT.run, Sem.run_bind, hl, Result.andThen_ok, Sem.run_pure]
theorem retc1 {e : Exit} (he : e = .normal ∨ e = .ret) {t T n b o : Nat} {cs : List Value} [hT : LN C.P T n] (hres : fn.results = #[.cell t T]) (hg : get ρ t = some (ptr b o)) (hn : cs.length = n) (hc : rowAt h b o cs) (hR : R (.agg cs.toArray) h) : SX C (kend fn C R) e ρ h :=
  e_of he (fun a w ha hh => by
    have h1 := ha.res hg
    have h1' : a.tmps[t]?.getD undef = ptr b o := by simpa using h1
    subst hh
    simp [results, hres, h1', asAddr, run_ldn (P := C.P) hn hc]) hR
theorem retc2 {e : Exit} (he : e = .normal ∨ e = .ret) {t u T n b o : Nat} {cs : List Value} {v : Value} [hT : LN C.P T n] (hres : fn.results = #[.cell t T, .tmp u]) (hg : get ρ t = some (ptr b o)) (hu : get ρ u = some v) (hn : cs.length = n) (hc : rowAt h b o cs) (hR : R (.tuple #[.agg cs.toArray, v]) h) : SX C (kend fn C R) e ρ h :=
  e_of he (fun a w ha hh => by
    have h1 := ha.res hg
    have h1' : a.tmps[t]?.getD undef = ptr b o := by simpa using h1
    have h2 := ha.res hu
    subst hh
    have h2' : a.tmps[u]?.getD undef = v := by simpa using h2
    simp [results, hres, h1', h2', asAddr, run_ldn (P := C.P) hn hc]) hR
end res

/-! ### a region that draws its order, where two operations that act may come up at once; its last operations (the tail) wait for all others -/
inductive OT where
  | leaf (π τ : List Nat)
  | fork (π : List Nat) (k1 : Nat) (t1 : OT) (k2 : Nat) (t2 : OT)
def OT.len : OT → Nat
  | .leaf π τ => τ.length + π.length
  | .fork π _ t1 _ _ => (t1.len + 1) + π.length
def OT.all (p : Nat → Bool) : OT → Bool
  | .leaf π τ => π.all p && τ.all p
  | .fork π k1 t1 k2 t2 => π.all p && (p k1 && (t1.all p && (p k2 && t2.all p)))
def loudAt (ops : Array Oper) (k : Nat) : Bool := match ops[k]? with
  | some o => isLoud o
  | none => false
/-- is k one for which the tail's first operation waits? -/
def before (ops : Array Oper) (ns : List Nat) (fl : Option Nat) (k : Nat) : Bool := match fl with
  | none => true
  | some kb => !(Nat.beq k kb) && (ancs ops ns [kb]).contains k
def okPre (ops : Array Oper) (ns : List Nat) (fl : Option Nat) (E : Array Bool → Bool) : List Nat → Array Bool → Bool
  | [], listed => E listed
  | k :: rest, listed =>
    (match ops[k]? with
     | none => false
     | some o => if isLoud o then (Region.ready .any ops listed) == [k] else (Region.ready .any ops listed).contains k && (Region.free .any ops listed k && before ops ns fl k)) &&
    okPre ops ns fl E rest (listed.setIfInBounds k true)
def okTail (ops : Array Oper) : List Nat → Array Bool → Bool
  | [], listed => (Region.ready .any ops listed).isEmpty
  | k :: r, listed => (Region.ready .any ops listed == [k]) && okTail ops r (listed.setIfInBounds k true)
def headIs (fl : Option Nat) : List Nat → Bool
  | [] => true
  | k :: _ => match fl with
    | some kb => Nat.beq kb k
    | none => false
def okT (ops : Array Oper) (ns : List Nat) (fl : Option Nat) : OT → Array Bool → Bool
  | .leaf π τ, listed => okPre ops ns fl (fun l => okTail ops τ l && headIs fl τ) π listed
  | .fork π k1 t1 k2 t2, listed => okPre ops ns fl (fun l => (Region.ready .any ops l == [k1, k2]) && (loudAt ops k1 && (loudAt ops k2 && (Nat.beq t1.len t2.len && (okT ops ns fl t1 (l.setIfInBounds k1 true) && okT ops ns fl t2 (l.setIfInBounds k2 true)))))) π listed
def LexT (P : Program) (ops : Array Oper) (C : World → Prop) (D : World → Prop) (K : Exit → Act → World → Prop) : OT → Act → World → Prop
  | .leaf π τ => Lex P ops true C (fun _ a w => Lex P ops false D K (pickl ops.toList τ) a w) (pickl ops.toList π)
  | .fork π k1 t1 k2 t2 => Lex P ops true C (fun _ a w => Lex P ops true C (fun _ a w => LexT P ops C D K t1 a w) [nth ops.toList k1] a w ∧ Lex P ops true C (fun _ a w => LexT P ops C D K t2 a w) [nth ops.toList k2] a w) (pickl ops.toList π)
section tree
variable {P : Program} {ops : Array Oper} {C D : World → Prop} {K : Exit → Act → World → Prop} {fl : Option Nat}
/-- the tail is on its way -/
def Bl (fl : Option Nat) (listed : Array Bool) : Prop := match fl with
  | none => False
  | some kb => listed.getD kb false = true
def AnyG (P : Program) (ops : Array Oper) (C : World → Prop) (fl : Option Nat) (K : Exit → Act → World → Prop) : Nat → Array Bool → Act → World → Prop
  | 0, listed, a, w => (¬ Bl fl listed → C w) ∧ Region.ready .any ops listed = [] ∧ K .normal a w
  | f + 1, listed, a, w => (¬ Bl fl listed → C w) ∧ (Region.ready .any ops listed = [] → K .normal a w) ∧ ∀ i ∈ Region.ready .any ops listed, stepG P ops i (AnyG P ops C fl K f (listed.setIfInBounds i true)) a w
theorem anyG_wpAny : ∀ (f : Nat) (listed : Array Bool) (a : Act) (w : World), AnyG P ops C fl K f listed a w → wpAny P .any ops K f listed a w
  | 0, _, _, _, h => ⟨h.2.1, h.2.2⟩
  | f + 1, listed, a, w, h => ⟨h.2.1, fun i hi => by
      have := h.2.2 i hi
      unfold stepG at this
      unfold wpOp
      split
      · rename_i ho; simp only [ho] at this; exact anyG_wpAny f _ _ _ this
      · rename_i o ho
        simp only [ho] at this
        split
        · rename_i hw; simp only [hw, if_true] at this
          exact .inl (Loud.wp (this.mono fun a' w' hk => anyG_wpAny f _ a' w' hk))
        · rename_i hw; simp only [hw] at this; exact anyG_wpAny f _ _ _ this⟩
theorem anyG_first {i : Nat} {oi : Oper} {v : Value} (hi : ops[i]? = some oi) (hsel : ∀ (j : Nat) (o : Oper) cs b, ops[j]? = some o → o.op ≠ .select cs b)
    (hset : ∀ listed, Bl fl (listed.setIfInBounds i true) → Bl fl listed) (hanc : ∀ listed, Down ops listed → Bl fl listed → listed.getD i false = true) :
    ∀ (fuel : Nat) (listed : Array Bool) (a : Act) (w : World),
      (∀ j oj, ops[j]? = some oj → j ≠ i → listed.getD j true = false → (∀ e ∈ oj.after, Region.binds .any e = true → e.on ≠ i) → oi.apart ops oj = true) →
      Down ops listed → i ∈ Region.ready .any ops listed → YieldsC P ops C oi v a →
      AnyG P ops C fl K fuel (listed.setIfInBounds i true) (a.put oi.dst v) w → AnyG P ops C fl K (fuel + 1) listed a w := by
  intro fuel
  have hlow : ∀ listed, Down ops listed → i ∈ Region.ready .any ops listed → ¬ Bl fl listed := fun listed hD hr hk => by
    have h1 := hanc listed hD hk
    have h0 := (mem_ready.1 hr).1
    rcases Nat.lt_or_ge i listed.size with h' | h'
    · simp [h'] at h0 h1; rw [h0] at h1; cases h1
    · simp [Array.getElem?_eq_none h'] at h1
  induction fuel with
  | zero =>
    intro listed a w _ hD hr hy H
    have hC : C w := H.1 (fun e => hlow listed hD hr (hset _ e))
    refine ⟨fun _ => hC, fun h => (by rw [h] at hr; cases hr), fun j hj => ?_⟩
    by_cases hji : j = i
    · subst hji; exact hy.stepG hi hC H
    · have := ready_mono hj hji
      rw [H.2.1] at this
      cases this
  | succ fuel ih =>
    intro listed a w hfree hD hr hy H
    have hC : C w := H.1 (fun e => hlow listed hD hr (hset _ e))
    refine ⟨fun _ => hC, fun h => (by rw [h] at hr; cases hr), fun j hj => ?_⟩
    by_cases hji : j = i
    · subst hji; exact hy.stepG hi hC H
    · have h1 := H.2.2 j (ready_mono hj hji)
      obtain ⟨hjun, oj, hoj, hall⟩ := mem_ready.1 hj
      have hnot : ∀ e ∈ oj.after, Region.binds .any e = true → e.on ≠ i := fun e he hb heq => by
        have h1 := hall e he hb
        have h0 := (mem_ready.1 hr).1
        rw [heq] at h1
        rcases Nat.lt_or_ge i listed.size with h' | h'
        · simp [h'] at h0 h1; rw [h0] at h1; cases h1
        · simp [Array.getElem?_eq_none h'] at h1
      have h2 := stepG_put hoj (hfree j oj hoj hji hjun hnot) (fun cs b => hsel i oi cs b hi) (fun cs b => hsel j oj cs b hoj) hy h1
      have hfree' : ∀ k ok, ops[k]? = some ok → k ≠ i → (listed.setIfInBounds j true).getD k true = false →
          (∀ e ∈ ok.after, Region.binds .any e = true → e.on ≠ i) → oi.apart ops ok = true := fun k ok hk hki hun hno => by
        refine hfree k ok hk hki ?_ hno
        by_cases hjk : j = k
        · subst hjk; exact hjun
        · rw [getD_set_ne true hjk] at hun; exact hun
      refine stepG_mono (fun a' w' h3 => ih (listed.setIfInBounds j true) a' w' hfree' (hD.set hj) (ready_mono hr (Ne.symm hji)) h3.1 ?_) h2
      rw [Array.setIfInBounds_comm _ _ hji]
      exact h3.2
theorem before_spec {ns : List Nat} {k : Nat} (h : before ops ns fl k = true) : (∀ listed, Bl fl (listed.setIfInBounds k true) → Bl fl listed) ∧ ∀ listed, Down ops listed → Bl fl listed → listed.getD k false = true := by
  cases fl with
  | none => exact ⟨fun _ h => h, fun _ _ h => h.elim⟩
  | some kb =>
    simp only [before, Bool.and_eq_true] at h
    have hne : k ≠ kb := fun e => by subst e; simp at h
    refine ⟨fun listed e => ?_, fun listed hD hk => ?_⟩
    · have e : (listed.setIfInBounds k true).getD kb false = true := e
      rw [getD_set_ne false hne] at e; exact e
    · exact ancs_listed hD ns [kb] (fun j hj => by rw [List.mem_singleton] at hj; subst hj; exact hk) k (by simpa using h.2)
theorem lex_pre (hs : Region.noSelect ops = true) {ns : List Nat} {E : Array Bool → Bool} {Kp : Exit → Act → World → Prop} {n : Nat} (hend : ∀ listed a w, Down ops listed → E listed = true → C w → Kp .normal a w → AnyG P ops C fl K n listed a w) :
    ∀ (π : List Nat) (l : List Oper) (listed : Array Bool) (a : Act) (w : World), Down ops listed → C w → π.map (fun k => ops[k]?) = l.map some → okPre ops ns fl E π listed = true → Lex P ops true C Kp l a w → AnyG P ops C fl K (n + π.length) listed a w
  | [], [], listed, a, w, hD, hC, _, hok, h => hend listed a w hD hok hC h
  | k :: π, [], _, _, _, _, _, he, _, _ => by simp at he
  | [], _ :: _, _, _, _, _, _, he, _, _ => by simp at he
  | k :: π, o :: l, listed, a, w, hD, hC, he, hok, h => by
    simp only [List.map_cons, List.cons.injEq] at he
    obtain ⟨hk, he⟩ := he
    simp only [okPre, hk, Bool.and_eq_true] at hok
    obtain ⟨hok1, hok2⟩ := hok
    have ih : k ∈ Region.ready .any ops listed → ∀ a w, C w → Lex P ops true C Kp l a w → AnyG P ops C fl K (n + π.length) (listed.setIfInBounds k true) a w := fun hr a w hC h => lex_pre hs hend π l _ a w (hD.set hr) hC he hok2 h
    unfold Lex at h
    cases hl : isLoud o with
    | false =>
      simp only [hl, Bool.false_eq_true, if_false, Bool.and_eq_true] at hok1
      obtain ⟨hr, hf, hb⟩ := hok1
      have hr : k ∈ Region.ready .any ops listed := by simpa using hr
      obtain ⟨b1, b2⟩ := before_spec hb
      have first : ∀ v, YieldsC P ops C o v a → Lex P ops true C Kp l (a.put o.dst v) w → AnyG P ops C fl K (n + (k :: π).length) listed a w := fun v hy hk' =>
        anyG_first hk (Region.noSelect_spec hs) b1 b2 (n + π.length) listed a w (Region.free_spec hk hf) hD hr hy (ih hr _ _ hC hk')
      by_cases hw : Region.wanted o (yielded ops a.tmps) = true
      · rw [if_pos hw] at h
        rcases h with ⟨v, -, hv, hk'⟩ | ⟨hl', -⟩
        · exact first v (.inl ⟨hw, fun w' hC' => hv w' (by simp) hC'⟩) hk'
        · have := hl' rfl; rw [hl] at this; cases this
      · rw [if_neg hw] at h
        exact first undef (.inr ⟨by simpa using hw, rfl⟩) h
    | true =>
      simp only [hl, if_true, beq_iff_eq] at hok1
      show AnyG P ops C fl K ((n + π.length) + 1) listed a w
      refine ⟨fun _ => hC, fun h0 => (by rw [h0] at hok1; cases hok1), fun i hi => ?_⟩
      have hi0 := hi
      rw [hok1] at hi
      obtain rfl : i = k := by simpa using hi
      unfold stepG
      simp only [hk]
      split
      · rename_i hw
        rw [if_pos hw] at h
        rcases h with ⟨v, hl', -⟩ | ⟨-, hL⟩
        · have := hl' rfl; rw [hl] at this; cases this
        · exact hL.mono fun a' w' ⟨hc, hk'⟩ => ih hi0 a' w' hc hk'
      · rename_i hw
        rw [if_neg hw] at h
        exact ih hi0 _ _ hC h
theorem one_step {k : Nat} (hk : loudAt ops k = true) {Kp : Exit → Act → World → Prop} {a : Act} {w : World} {G : Act → World → Prop} (hC : C w) (h : Lex P ops true C Kp [nth ops.toList k] a w) (hG : ∀ a w, C w → Kp .normal a w → G a w) : stepG P ops k G a w := by
  unfold loudAt at hk
  cases ho : ops[k]? with
  | none => rw [ho] at hk; cases hk
  | some o =>
    rw [ho] at hk
    have hl : isLoud o = true := hk
    have hlt : k < ops.toList.length := by have := (Array.getElem?_eq_some_iff.1 ho).1; simpa using this
    have hn : nth ops.toList k = o := by
      have h1 := nth_get ops.toList k hlt
      have h2 : ops.toList[k]? = some o := by simpa using ho
      rw [h2] at h1; exact (Option.some.inj h1).symm
    rw [hn] at h
    unfold Lex at h
    unfold stepG
    simp only [ho]
    split
    · rename_i hw
      rw [if_pos hw] at h
      rcases h with ⟨v, hl', -⟩ | ⟨-, hL⟩
      · have := hl' rfl; rw [hl] at this; cases this
      · exact hL.mono fun a' w' ⟨hc, hk'⟩ => hG a' w' hc hk'
    · rename_i hw
      rw [if_neg hw] at h
      exact hG _ _ hC h
theorem lex_tail {kb : Nat} (hd : ∀ w, D w) : ∀ (τ : List Nat) (l : List Oper) (listed : Array Bool) (a : Act) (w : World), Bl (some kb) listed → τ.map (fun k => ops[k]?) = l.map some → okTail ops τ listed = true → Lex P ops false D K l a w → AnyG P ops C (some kb) K τ.length listed a w
  | [], [], listed, a, w, hB, _, hok, h => ⟨fun e => absurd hB e, List.isEmpty_iff.1 hok, h⟩
  | k :: π, [], _, _, _, _, he, _, _ => by simp at he
  | [], _ :: _, _, _, _, _, he, _, _ => by simp at he
  | k :: τ, o :: l, listed, a, w, hB, he, hok, h => by
    simp only [List.map_cons, List.cons.injEq] at he
    obtain ⟨hk, he⟩ := he
    simp only [okTail, Bool.and_eq_true, beq_iff_eq] at hok
    obtain ⟨hr, hok⟩ := hok
    have ih : ∀ a w, Lex P ops false D K l a w → AnyG P ops C (some kb) K τ.length (listed.setIfInBounds k true) a w := fun a w h => lex_tail hd τ l _ a w (getD_set_true hB) he hok h
    refine ⟨fun e => absurd hB e, fun h0 => (by rw [h0] at hr; cases hr), fun i hi => ?_⟩
    rw [hr] at hi
    obtain rfl : i = k := by simpa using hi
    unfold Lex at h
    unfold stepG
    simp only [hk]
    split
    · rename_i hw
      rw [if_pos hw] at h
      rcases h with ⟨v, -, hv, hk'⟩ | ⟨-, hL⟩
      · simp only [Loud, hv w (fun _ => rfl) (hd w)]
        exact ih _ _ hk'
      · exact hL.mono fun a' w' ⟨_, hk'⟩ => ih a' w' hk'
    · rename_i hw
      rw [if_neg hw] at h
      exact ih _ _ h
theorem lex_end (hd : ∀ w, D w) : ∀ (τ : List Nat) (listed : Array Bool) (a : Act) (w : World), C w → τ.all (fun k => Nat.blt k ops.size) = true → okTail ops τ listed = true → headIs fl τ = true → Lex P ops false D K (pickl ops.toList τ) a w → AnyG P ops C fl K τ.length listed a w
  | [], listed, a, w, hC, _, hok, _, h => ⟨fun _ => hC, List.isEmpty_iff.1 hok, h⟩
  | k :: τ, listed, a, w, hC, ha, hok, hh, h => by
    cases fl with
    | none => simp [headIs] at hh
    | some kb =>
      obtain rfl : kb = k := Nat.eq_of_beq_eq_true hh
      have hm := pickl_map ops (kb :: τ) ha
      simp only [pickl, List.map_cons, List.cons.injEq] at hm
      obtain ⟨hk, he⟩ := hm
      simp only [okTail, Bool.and_eq_true, beq_iff_eq] at hok
      obtain ⟨hr, hok⟩ := hok
      refine ⟨fun _ => hC, fun h0 => (by rw [h0] at hr; cases hr), fun i hi => ?_⟩
      have hi0 := hi
      rw [hr] at hi
      obtain rfl : i = kb := by simpa using hi
      have hsz : i < listed.size := by
        have h0 := (mem_ready.1 hi0).1
        rcases Nat.lt_or_ge i listed.size with h' | h'
        · exact h'
        · simp [Array.getElem?_eq_none h'] at h0
      have hset : Bl (some i) (listed.setIfInBounds i true) := by simp [Bl, hsz]
      have ih : ∀ a w, Lex P ops false D K (pickl ops.toList τ) a w → AnyG P ops C (some i) K τ.length (listed.setIfInBounds i true) a w := fun a w h => lex_tail hd τ _ _ a w hset he hok h
      have h : Lex P ops false D K (nth ops.toList i :: pickl ops.toList τ) a w := h
      unfold Lex at h
      unfold stepG
      simp only [hk]
      split
      · rename_i hw
        rw [if_pos hw] at h
        rcases h with ⟨v, -, hv, hk'⟩ | ⟨-, hL⟩
        · simp only [Loud, hv w (fun _ => rfl) (hd w)]
          exact ih _ _ hk'
        · exact hL.mono fun a' w' ⟨_, hk'⟩ => ih a' w' hk'
      · rename_i hw
        rw [if_neg hw] at h
        exact ih _ _ h
theorem lexT_anyG (hs : Region.noSelect ops = true) {ns : List Nat} (hd : ∀ w, D w) : ∀ (T : OT) (listed : Array Bool) (a : Act) (w : World), Down ops listed → C w → T.all (fun k => Nat.blt k ops.size) = true → okT ops ns fl T listed = true → LexT P ops C D K T a w → AnyG P ops C fl K T.len listed a w
  | .leaf π τ, listed, a, w, hD, hC, ha, hok, h => by
    simp only [OT.all, Bool.and_eq_true] at ha
    exact lex_pre (n := τ.length) (C := C) (K := K) hs (fun listed a w _ hE hC hk => by
      simp only [Bool.and_eq_true] at hE
      exact lex_end hd τ listed a w hC ha.2 hE.1 hE.2 hk) π _ listed a w hD hC (pickl_map ops π ha.1) hok h
  | .fork π k1 t1 k2 t2, listed, a, w, hD, hC, ha, hok, h => by
    simp only [OT.all, Bool.and_eq_true] at ha
    obtain ⟨a0, a1, a2, a3, a4⟩ := ha
    exact lex_pre (n := t1.len + 1) (C := C) (K := K) hs (fun listed a w hD hE hC hk => by
      simp only [Bool.and_eq_true, beq_iff_eq] at hE
      obtain ⟨e1, e2, e3, e4, e5, e6⟩ := hE
      have e4 := Nat.eq_of_beq_eq_true e4
      refine ⟨fun _ => hC, fun h0 => (by rw [h0] at e1; cases e1), fun i hi => ?_⟩
      have hi0 := hi
      rw [e1] at hi
      simp only [List.mem_cons, List.not_mem_nil, or_false] at hi
      rcases hi with rfl | rfl
      · exact one_step e2 hC hk.1 (fun a w hC h => lexT_anyG hs hd t1 _ a w (hD.set hi0) hC a2 e5 h)
      · exact one_step e3 hC hk.2 (fun a w hC h => by rw [e4]; exact lexT_anyG hs hd t2 _ a w (hD.set hi0) hC a4 e6 h)) π _ listed a w hD hC (pickl_map ops π a0) hok h
end tree
section code
variable {C : Cx} {ops : Array Oper} {K : KK} {ρ : Env} {h : Heap} {I : Heap → Prop}
def CI (C : Cx) (I : Heap → Prop) (w' : World) : Prop := Amb C.w0 w' ∧ (true = true → I w'.heap)
/-- the tail's worlds: whatever they are, what a quiet operation there yields is asked of its own world alone -/
def ST (C : Cx) (ops : Array Oper) (I : Heap → Prop) (K : KK) (t : OT) (ρ : Env) (h : Heap) : Prop := ∀ a w, Ag C.N ρ a → w.heap = h → Amb C.w0 w → LexT C.P ops (CI C I) (fun _ => True) K t a w
def kT (C : Cx) (ops : Array Oper) (I : Heap → Prop) (K : KK) (t : OT) : KK := fun _ a w => LexT C.P ops (CI C I) (fun _ => True) K t a w
def kfork (C : Cx) (ops : Array Oper) (I : Heap → Prop) (K : KK) (k1 : Nat) (t1 : OT) (k2 : Nat) (t2 : OT) : KK := fun _ a w =>
  Lex C.P ops true (CI C I) (kT C ops I K t1) [nth ops.toList k1] a w ∧ Lex C.P ops true (CI C I) (kT C ops I K t2) [nth ops.toList k2] a w
def ktail (C : Cx) (ops : Array Oper) (K : KK) (τ : List Nat) : KK := fun _ a w => Lex C.P ops false (fun _ => True) K (pickl ops.toList τ) a w
theorem Lex.imp {P : Program} {ops : Array Oper} {D D' : World → Prop} {K : Exit → Act → World → Prop} : ∀ {l : List Oper} {a : Act} {w : World}, D w → (∀ w, D w → D' w) → Lex P ops false D K l a w → Lex P ops false D' K l a w
  | [], _, _, _, _, h => h
  | o :: l, a, w, hD, hDD, h => by
    unfold Lex at h ⊢
    split
    · rename_i hw
      rw [if_pos hw] at h
      rcases h with ⟨v, h1, h2, h3⟩ | ⟨h1, h2⟩
      · exact .inl ⟨v, h1, fun w' he _ => h2 w' he (by rw [he rfl]; exact hD), Lex.imp hD hDD h3⟩
      · exact .inr ⟨h1, h2.mono fun a' w' ⟨hd, hl⟩ => ⟨hDD _ hd, Lex.imp hd hDD hl⟩⟩
    · rename_i hw
      rw [if_neg hw] at h
      exact Lex.imp hD hDD h
theorem t_leaf {π τ : List Nat} (k : SO C ops (ktail C ops K τ) true I (pickl ops.toList π) ρ h) : ST C ops I K (.leaf π τ) ρ h := fun a w ha hh hw => k a w ha hh hw
theorem t_fork {π : List Nat} {k1 k2 : Nat} {t1 t2 : OT} (k : SO C ops (kfork C ops I K k1 t1 k2 t2) true I (pickl ops.toList π) ρ h) : ST C ops I K (.fork π k1 t1 k2 t2) ρ h := fun a w ha hh hw => k a w ha hh hw
theorem x_fork {k1 k2 : Nat} {t1 t2 : OT} (h1 : SO C ops (kT C ops I K t1) true I [nth ops.toList k1] ρ h) (h2 : SO C ops (kT C ops I K t2) true I [nth ops.toList k2] ρ h) : SX C (kfork C ops I K k1 t1 k2 t2) .normal ρ h := fun a w ha hh hw => ⟨h1 a w ha hh hw, h2 a w ha hh hw⟩
theorem x_kT {t : OT} (k : ST C ops I K t ρ h) : SX C (kT C ops I K t) .normal ρ h := fun a w ha hh hw => k a w ha hh hw
theorem x_tail {τ : List Nat} (k : SO C ops K false (fun _ => True) (pickl ops.toList τ) ρ h) : SX C (ktail C ops K τ) .normal ρ h := fun a w ha hh hw => Lex.imp ⟨hw, by simp⟩ (fun _ _ => trivial) (k a w ha hh hw)
/-- a region that draws its order, by a tree of orders -/
theorem c_treg {id : Nat} (I : Heap → Prop) (fl : Option Nat) (ns : List Nat) (T : OT) (hm : C.P.follows .mixedOrders = true) (hI : I h)
    (hok : (Region.noSelect ops && (Nat.beq T.len ops.size && (T.all (fun k => Nat.blt k ops.size) && okT ops ns fl T (Array.replicate ops.size false)))) = true)
    (k : ST C ops I K T ρ h) : SC C K (.region id ops true) ρ h := fun a w ha hh hw => by
  simp only [Bool.and_eq_true] at hok
  have hA : Amb C.w0 { w with drawn := w.drawn + 1 } := ⟨hw.os, hw.tape, hw.output⟩
  have hn := Nat.eq_of_beq_eq_true hok.2.1
  refine wp_region_any hm (anyG_wpAny (fl := fl) (C := CI C I) _ _ _ _ (hn ▸ lexT_anyG (D := fun _ => True) hok.1 (fun _ => trivial) T _ a _ (Down.none _) ⟨hA, fun _ => hh ▸ hI⟩ hok.2.2.1 (by rw [hn]; exact hok.2.2.2) ?_))
  exact k a _ ha hh hA
/-- one block turned, new or one of S -/
theorem Mod.upd {S : Nat → Prop} {h g g' : Heap} {b : Nat} {o : Obj} (x : Mod S h g) (u : Upd g b o g') (hb : S b ∨ h.size ≤ b) : Mod S h g' :=
  ⟨Nat.le_trans x.size u.mod.size, fun k hk hn => (u.mod.same k (Nat.lt_of_lt_of_le hk x.size) (fun e => by
    have e : k = b := e
    subst e
    rcases hb with hb | hb
    · exact hn hb
    · omega)).trans (x.same k hk hn)⟩
/-- what turned lies in new blocks, or in those of S -/
theorem Mod.andMod {S S' : Nat → Prop} {h g g' : Heap} (x : Mod S h g) (y : Mod S' g g') (hb : ∀ k, S' k → S k ∨ h.size ≤ k) : Mod S h g' :=
  ⟨Nat.le_trans x.size y.size, fun k hk hn => (y.same k (Nat.lt_of_lt_of_le hk x.size) (fun e => by
    rcases hb k e with hb | hb
    · exact hn hb
    · omega)).trans (x.same k hk hn)⟩
end code
/-! parts of a value that is built -/
theorem bm1 {ρ : Env} {i : Nat} {x : Operand} {v : Value} (h1 : ev ρ x = some v) : (#[(i, x)] : Array (Nat × Operand)).toList.map (fun p => (p.1, ev ρ p.2)) = [(i, v)].map (fun p => (p.1, some p.2)) := by simp [h1]
theorem bm2 {ρ : Env} {i j : Nat} {x y : Operand} {v u : Value} (h1 : ev ρ x = some v) (h2 : ev ρ y = some u) : (#[(i, x), (j, y)] : Array (Nat × Operand)).toList.map (fun p => (p.1, ev ρ p.2)) = [(i, v), (j, u)].map (fun p => (p.1, some p.2)) := by simp [h1, h2]
theorem bm3 {ρ : Env} {i j k : Nat} {x y z : Operand} {v u t : Value} (h1 : ev ρ x = some v) (h2 : ev ρ y = some u) (h3 : ev ρ z = some t) : (#[(i, x), (j, y), (k, z)] : Array (Nat × Operand)).toList.map (fun p => (p.1, ev ρ p.2)) = [(i, v), (j, u), (k, t)].map (fun p => (p.1, some p.2)) := by simp [h1, h2, h3]
end Go.Eng
