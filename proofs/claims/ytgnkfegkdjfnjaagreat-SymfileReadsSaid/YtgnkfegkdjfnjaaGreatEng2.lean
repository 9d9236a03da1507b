/- The engine, part 2: rules by which a function of the program is walked. No condition. -/
import Derived.Test.YtgnkfegkdjfnjaaGreatEng1
import Derived.Laws.Entries
import Derived.Laws.Strings
import Derived.Laws.CopyRow
import Derived.RowKit
namespace Go.Eng

/-- what stays the same through a walk: the program, the number of slots, the world at its begin -/
structure Cx where
  P : Program
  N : Nat
  w0 : World


/-! ## the tables' facts (each closed by the kernel, seat by seat) -/
class UT (P : Program) (T : TypeId) (d : outParam TypeDesc) : Prop where
  eq : P.underlying T = some d

abbrev KK := Exit → Act → World → Prop
abbrev ptr (b o : Nat) : Value := .pointer (some ⟨b, o, none⟩)
abbrev i64 (n : Int) : Value := .int .i64 n
abbrev str (l : List UInt8) : Value := .string ⟨l.toArray⟩

def SO (C : Cx) (ops : Array Oper) (K : KK) (dr : Bool) (I : Heap → Prop) (l : List Oper) (ρ : Env) (h : Heap) : Prop :=
  ∀ a w, Ag C.N ρ a → w.heap = h → Amb C.w0 w → Lex C.P ops dr (fun w' => Amb C.w0 w' ∧ (dr = true → I w'.heap)) K l a w
def SC (C : Cx) (K : KK) (c : Code) (ρ : Env) (h : Heap) : Prop := ∀ a w, Ag C.N ρ a → w.heap = h → Amb C.w0 w → c.wp C.P K a w
def SX (C : Cx) (K : KK) (e : Exit) (ρ : Env) (h : Heap) : Prop := ∀ a w, Ag C.N ρ a → w.heap = h → Amb C.w0 w → K e a w

/-- what a call of function f does: a value, and the heap behind it -/
def Does (P : Program) (f : Nat) (args : List Value) (h : Heap) (R : Value → Heap → Prop) : Prop :=
  (∃ fn, P.funcs[f]? = some fn ∧ (fn.name == "runtime.NumGoroutine") = false ∧ fn.body.isNone = false) ∧
  ∀ w, w.heap = h → Calls P f args.toArray w (fun e w' => ∃ v, e = .returned v ∧ Amb w w' ∧ R v w'.heap)

theorem Does.mono {P : Program} {f : Nat} {args : List Value} {h : Heap} {R R' : Value → Heap → Prop} (hf : Does P f args h R) (hr : ∀ v h', R v h' → R' v h') : Does P f args h R' :=
  ⟨hf.1, fun w hw => (hf.2 w hw).mono fun _ _ ⟨v, he, ha, hR⟩ => ⟨v, he, ha, hr _ _ hR⟩⟩

section code
variable {C : Cx} {K : KK} {ρ : Env} {h : Heap}

def kseq (P : Program) (y : Code) (K : KK) : KK := Exit.then (y.wp P K) K
def kblk (id : Nat) (K : KK) : KK := Exit.inBlock id K

theorem c_seq {x y : Code} (k : SC C (kseq C.P y K) x ρ h) : SC C K (.seq x y) ρ h := fun a w ha hh hw => wp_seq (k a w ha hh hw)
theorem c_blk {id : Nat} {c : Code} (k : SC C (kblk id K) c ρ h) : SC C K (.block id c) ρ h := fun a w ha hh hw => wp_block (k a w ha hh hw)
theorem c_skip (k : SX C K .normal ρ h) : SC C K .skip ρ h := fun a w ha hh hw => wp_skip (k a w ha hh hw)
theorem c_ret (k : SX C K .ret ρ h) : SC C K .ret ρ h := fun a w ha hh hw => wp_ret (k a w ha hh hw)
theorem c_exit {id : Nat} (k : SX C K (.exit id) ρ h) : SC C K (.exit id) ρ h := fun a w ha hh hw => wp_exit (k a w ha hh hw)
theorem x_seq {y : Code} (k : SC C K y ρ h) : SX C (kseq C.P y K) .normal ρ h := fun a w ha hh hw => k a w ha hh hw
theorem x_seq_ret {P : Program} {y : Code} (k : SX C K .ret ρ h) : SX C (kseq P y K) .ret ρ h := fun a w ha hh hw => k a w ha hh hw
theorem x_seq_exit {P : Program} {y : Code} {id : Nat} (k : SX C K (.exit id) ρ h) : SX C (kseq P y K) (.exit id) ρ h := fun a w ha hh hw => k a w ha hh hw
theorem x_blk {id : Nat} (k : SX C K .normal ρ h) : SX C (kblk id K) .normal ρ h := fun a w ha hh hw => k a w ha hh hw
theorem x_blk_ret {id : Nat} (k : SX C K .ret ρ h) : SX C (kblk id K) .ret ρ h := fun a w ha hh hw => k a w ha hh hw
theorem x_blk_hit {id : Nat} (k : SX C K .normal ρ h) : SX C (kblk id K) (.exit id) ρ h := fun a w ha hh hw => by
  show Exit.inBlock id K (.exit id) a w
  simp only [Exit.inBlock, if_true]; exact k a w ha hh hw
theorem x_blk_exit {id id' : Nat} (hne : Nat.beq id' id = false) (k : SX C K (.exit id') ρ h) : SX C (kblk id K) (.exit id') ρ h := fun a w ha hh hw => by
  show Exit.inBlock id K (.exit id') a w
  have : id' ≠ id := fun e => by subst e; simp at hne
  simp only [Exit.inBlock, if_neg this]; exact k a w ha hh hw

/-- what a Bool says -/
class Tr (b : Bool) (p : outParam Prop) : Prop where
  iff : b = true ↔ p
instance (priority := low) Tr.var (b : Bool) : Tr b (b = true) := ⟨Iff.rfl⟩
instance Tr.dec (p : Prop) [Decidable p] : Tr (decide p) p := ⟨by simp⟩
instance Tr.not (b : Bool) (p : Prop) [Tr b p] : Tr (!b) (¬ p) := ⟨by rw [← Tr.iff (b := b) (p := p)]; simp⟩
instance Tr.and (b c : Bool) (p q : Prop) [Tr b p] [Tr c q] : Tr (b && c) (p ∧ q) := ⟨by rw [← Tr.iff (b := b) (p := p), ← Tr.iff (b := c) (p := q)]; simp⟩
instance Tr.or (b c : Bool) (p q : Prop) [Tr b p] [Tr c q] : Tr (b || c) (p ∨ q) := ⟨by rw [← Tr.iff (b := b) (p := p), ← Tr.iff (b := c) (p := q)]; simp⟩
instance Tr.beq {α : Type} [BEq α] [LawfulBEq α] (x y : α) : Tr (x == y) (x = y) := ⟨by simp⟩
instance Tr.bne {α : Type} [BEq α] [LawfulBEq α] (x y : α) : Tr (x != y) (¬ x = y) := ⟨by simp⟩
theorem Tr.t {b : Bool} {p : Prop} [Tr b p] (hp : p) : b = true := (Tr.iff (b := b)).2 hp
theorem Tr.f {b : Bool} {p : Prop} [Tr b p] (hp : ¬ p) : b = false := by cases hb : b; rfl; exact absurd ((Tr.iff (b := b)).1 hb) hp

theorem c_cond {c : Operand} {x y : Code} {b : Bool} {p : Prop} (hc : ev ρ c = some (.bool b)) [Tr b p] (k1 : p → SC C K x ρ h) (k2 : ¬ p → SC C K y ρ h) : SC C K (.cond c x y) ρ h := fun a w ha hh hw => by
  refine wp_cond_split (ha.ev hc) (fun e => ?_) (fun e => ?_)
  · exact k1 ((Tr.iff (b := b)).1 e) a w ha hh hw
  · exact k2 (fun hp => by rw [(Tr.iff (b := b)).2 hp] at e; cases e) a w ha hh hw
theorem c_t {c : Operand} {x y : Code} {b : Bool} {p : Prop} (hc : ev ρ c = some (.bool b)) [Tr b p] (hp : p) (k1 : SC C K x ρ h) : SC C K (.cond c x y) ρ h := c_cond hc (fun _ => k1) (fun hn => absurd hp hn)
theorem c_f {c : Operand} {x y : Code} {b : Bool} {p : Prop} (hc : ev ρ c = some (.bool b)) [Tr b p] (hp : ¬ p) (k2 : SC C K y ρ h) : SC C K (.cond c x y) ρ h := c_cond hc (fun hn => absurd hn hp) (fun _ => k2)

theorem vb {A B : Prop} [Decidable A] [Decidable B] (h : A ↔ B) : Value.bool (decide A) = Value.bool (decide B) := by rw [decide_eq_decide.2 h]
theorem vbt {A : Prop} [Decidable A] (h : A) : Value.bool true = Value.bool (decide A) := by rw [decide_eq_true h]
theorem vbf {A : Prop} [Decidable A] (h : ¬ A) : Value.bool false = Value.bool (decide A) := by rw [decide_eq_false h]
theorem vi {k : IntKind} {a b : Int} (h : a = b) : Value.int k a = Value.int k b := by rw [h]
theorem vs {a b : List UInt8} (h : a = b) : str a = str b := by rw [h]
/-- forget slots -/
def Sub (ρ' ρ : Env) : Prop := match ρ' with
  | [] => True
  | p :: r => get ρ p.1 = some p.2 ∧ Sub r ρ
theorem Sub.get {ρ' ρ : Env} (hs : Sub ρ' ρ) : ∀ t v, get ρ' t = some v → get ρ t = some v := by
  induction ρ' with
  | nil => intro t v hg; simp [Eng.get] at hg
  | cons p r ih =>
    intro t v hg
    simp only [Eng.get] at hg
    cases hb : Nat.beq t p.1
    · simp only [hb, cond_false] at hg; exact ih hs.2 t v hg
    · simp only [hb, cond_true] at hg
      cases Nat.eq_of_beq_eq_true hb
      rw [← hg]; exact hs.1
theorem Ag.sub {N : Nat} {ρ ρ' : Env} {a : Act} (ha : Ag N ρ a) (hs : Sub ρ' ρ) : Ag N ρ' a := ⟨ha.defers, ha.size, fun t v hg => ha.slots t v (hs.get t v hg)⟩
theorem c_sub (ρ' : Env) {c : Code} (hs : Sub ρ' ρ) (k : SC C K c ρ' h) : SC C K c ρ h := fun a w ha hh hw => k a w (ha.sub hs) hh hw
theorem x_sub (ρ' : Env) {e : Exit} (hs : Sub ρ' ρ) (k : SX C K e ρ' h) : SX C K e ρ h := fun a w ha hh hw => k a w (ha.sub hs) hh hw
/-- keep the named slots alone -/
def keep (ts : List Nat) (ρ : Env) : Env := match ts with
  | [] => []
  | t :: r => match get ρ t with
    | some v => (t, v) :: keep r ρ
    | none => keep r ρ
theorem keep_sub (ts : List Nat) (ρ : Env) : Sub (keep ts ρ) ρ := by
  induction ts with
  | nil => trivial
  | cons t r ih =>
    unfold keep
    split
    · rename_i v hv; exact ⟨hv, ih⟩
    · exact ih

/-- a loop: the rounds hand on some x : α; what holds of it; what the slots and the heap are -/
def kloop {α : Type} (C : Cx) (env : α → Env) (hp : α → Heap) (good : α → Prop) (μ : α → Nat) (x : α) (K : KK) : KK :=
  Exit.then (fun a w => ∃ y, good y ∧ μ y < μ x ∧ Ag C.N (env y) a ∧ w.heap = hp y ∧ Amb C.w0 w) K
theorem c_loop {α : Type} (env : α → Env) (hp : α → Heap) (good : α → Prop) (μ : α → Nat) (x0 : α) {c : Code} (h0 : good x0) (hs : Sub (env x0) ρ) (hh : hp x0 = h)
    (k : ∀ x, good x → SC C (kloop C env hp good μ x K) c (env x) (hp x)) : SC C K (.loop c) ρ h := fun a w ha hw hA => by
  have := wp_loop (P := C.P) (Q := K) (c := c) (a := (a, w).1) (w := (a, w).2)
  intro b kk cs
  have key : ∀ (n : Nat) (x : α) (a : Act) (w : World), μ x = n → good x → Ag C.N (env x) a → w.heap = hp x → Amb C.w0 w →
      ∃ e a' w', K e a' w' ∧ Arrives C.P (lone (b.at a (.code c :: .inLoop c :: kk)) cs w) b kk cs e a' w' := by
    intro n
    induction n using Nat.strongRecOn with
    | _ n ih =>
      intro x a w hn hg ha hw hA
      obtain ⟨e, a₁, w₁, hq, harr⟩ := k x hg a w ha hw hA b (.inLoop c :: kk) cs
      cases e with
      | normal =>
        obtain ⟨y, hy, hlt, hya, hyw, hyA⟩ := hq
        obtain ⟨e', a', w', hK, hA'⟩ := ih (μ y) (hn ▸ hlt) y a₁ w₁ rfl hy hya hyw hyA
        exact ⟨e', a', w', hK, .of_steps (Steps.trans harr (.one step_inLoop)) hA'⟩
      | exit id => exact ⟨_, a₁, w₁, hq, .pass (x := .inLoop c) rfl (fun _ _ => .inl (by simp)) harr⟩
      | goto l => exact ⟨_, a₁, w₁, hq, .pass (x := .inLoop c) rfl (fun _ _ => .inl (by simp)) harr⟩
      | ret => exact ⟨_, a₁, w₁, hq, .pass (x := .inLoop c) rfl (fun _ _ => .inl (by simp)) harr⟩
      | panic ch => exact ⟨_, a₁, w₁, hq, .pass (x := .inLoop c) rfl (fun _ _ => .inl (by simp)) harr⟩
      | outgrown => exact ⟨_, a₁, w₁, hq, .pass (x := .inLoop c) rfl (fun _ _ => .inl (by simp)) harr⟩
  obtain ⟨e, a', w', hK, hA'⟩ := key (μ x0) x0 a w rfl h0 (ha.sub hs) (hw.trans hh.symm) hA
  exact ⟨e, a', w', hK, .of_steps (.one step_loop) hA'⟩
theorem x_loop {α : Type} {env : α → Env} {hp : α → Heap} {good : α → Prop} {μ : α → Nat} {x : α} (y : α) (hy : good y) (hlt : μ y < μ x) (hs : Sub (env y) ρ) (hh : h = hp y) :
    SX C (kloop C env hp good μ x K) .normal ρ h := fun _ _ ha hw hA => ⟨y, hy, hlt, ha.sub hs, hw.trans hh, hA⟩
theorem x_loop_ret {α : Type} {env : α → Env} {hp : α → Heap} {good : α → Prop} {μ : α → Nat} {x : α} (k : SX C K .ret ρ h) : SX C (kloop C env hp good μ x K) .ret ρ h := fun a w ha hh hw => k a w ha hh hw
theorem x_loop_exit {α : Type} {env : α → Env} {hp : α → Heap} {good : α → Prop} {μ : α → Nat} {x : α} {id : Nat} (k : SX C K (.exit id) ρ h) : SX C (kloop C env hp good μ x K) (.exit id) ρ h := fun a w ha hh hw => k a w ha hh hw

/-- a region in the text's order -/
theorem c_reg {id : Nat} {ops : Array Oper} (k : SO C ops K false (fun _ => True) ops.toList ρ h) : SC C K (.region id ops false) ρ h := fun a w ha hh hw =>
  wp_region_list (lex_wpList _ a w ⟨hw, by simp⟩ (k a w ha hh hw))
/-- operation number k of a list -/
def nth : List Oper → Nat → Oper
  | [], _ => default
  | o :: _, 0 => o
  | _ :: r, n + 1 => nth r n
def pickl (l : List Oper) : List Nat → List Oper
  | [] => []
  | k :: r => nth l k :: pickl l r
theorem nth_get : ∀ (l : List Oper) (k : Nat), k < l.length → l[k]? = some (nth l k)
  | [], k, h => by simp at h
  | o :: r, 0, _ => by simp [nth]
  | o :: r, k + 1, h => by simpa [nth] using nth_get r k (by simpa using h)
theorem pickl_map (ops : Array Oper) : ∀ (π : List Nat), π.all (fun k => Nat.blt k ops.size) = true → π.map (fun k => ops[k]?) = (pickl ops.toList π).map some
  | [], _ => rfl
  | k :: r, h => by
    simp only [List.all_cons, Bool.and_eq_true] at h
    have hk : k < ops.size := Nat.blt_eq.mp h.1
    simp only [List.map_cons, pickl, pickl_map ops r h.2]
    congr 1
    have := nth_get ops.toList k (by simpa using hk)
    simpa using this
/-- a region that draws its order -/
theorem c_dreg {id : Nat} {ops : Array Oper} (I : Heap → Prop) (π : List Nat) (hm : C.P.follows .mixedOrders = true) (hI : I h)
    (hok : (Region.noSelect ops && (Nat.beq π.length ops.size && (π.all (fun k => Nat.blt k ops.size) && okLex ops π (Array.replicate ops.size false)))) = true)
    (k : SO C ops K true I (pickl ops.toList π) ρ h) : SC C K (.region id ops true) ρ h := fun a w ha hh hw => by
  simp only [Bool.and_eq_true] at hok
  have hA : Amb C.w0 { w with drawn := w.drawn + 1 } := ⟨hw.os, hw.tape, hw.output⟩
  refine wp_region_lex (C := fun w' => Amb C.w0 w' ∧ (true = true → I w'.heap)) π _ hm hok.1 (Nat.eq_of_beq_eq_true hok.2.1) (pickl_map ops π hok.2.2.1) hok.2.2.2 ⟨hA, fun _ => hh ▸ hI⟩ ?_
  exact k a _ ha hh hA

/-! the function's two ends -/
def kend (fn : Func) (C : Cx) (R : Value → Heap → Prop) : KK := bodyPost C.P fn (fun e w' => ∃ v, e = .returned v ∧ Amb C.w0 w' ∧ R v w'.heap)

def argsEnv : Nat → List Value → Env
  | _, [] => []
  | i, v :: r => (i, v) :: argsEnv (i + 1) r
theorem get_argsEnv : ∀ (vs : List Value) (i t : Nat) (v : Value), get (argsEnv i vs) t = some v → i ≤ t ∧ vs[t - i]? = some v
  | [], i, t, v, hg => by simp [argsEnv, get] at hg
  | u :: r, i, t, v, hg => by
    simp only [argsEnv, get] at hg
    cases hb : Nat.beq t i
    · simp only [hb, cond_false] at hg
      obtain ⟨h1, h2⟩ := get_argsEnv r (i + 1) t v hg
      refine ⟨by omega, ?_⟩
      rw [show t - i = (t - (i + 1)) + 1 by omega]
      simpa using h2
    · simp only [hb, cond_true] at hg
      have := Nat.eq_of_beq_eq_true hb
      subst this
      exact ⟨Nat.le_refl _, by simpa using hg⟩

theorem fn_enter {P : Program} {f : Nat} {fn : Func} {c : Code} {args : List Value} {R : Value → Heap → Prop} {N : Nat} (hf : P.funcs[f]? = some fn) (hn : (fn.name == "runtime.NumGoroutine") = false)
    (hb : fn.body = some c) (hN : fn.ntmps = N) (hl : Nat.ble args.length N = true) (k : ∀ w0, SC ⟨P, N, w0⟩ (kend fn ⟨P, N, w0⟩ R) c (argsEnv 0 args) h) : Does P f args h R := by
  refine ⟨⟨fn, hf, hn, by simp [hb]⟩, fun w hw => ?_⟩
  refine calls_of_wp hf hb ?_
  refine k w _ w ⟨rfl, ?_, fun t v hg => ?_⟩ hw (Amb.refl w)
  · have := Nat.le_of_ble_eq_true hl
    simp [hN]; omega
  · obtain ⟨-, h2⟩ := get_argsEnv args 0 t v hg
    simp only [Nat.sub_zero] at h2
    have ht : t < args.length := (List.getElem?_eq_some_iff.1 h2).1
    rw [Array.getElem?_append_left (by simpa using ht)]
    simpa using h2

variable {fn : Func} {R : Value → Heap → Prop}
theorem e_of {e : Exit} (he : e = .normal ∨ e = .ret) {v : Value} (hr : ∀ a w, Ag C.N ρ a → w.heap = h → (results fn a.tmps).run C.P w = .ok v w) (hR : R v h) : SX C (kend fn C R) e ρ h := fun a w ha hh hw => by
  rcases he with rfl | rfl
  · exact ⟨ha.defers, v, hr a w ha hh, v, rfl, hw, hh ▸ hR⟩
  · exact ⟨ha.defers, v, hr a w ha hh, v, rfl, hw, hh ▸ hR⟩
theorem Ag.res {N : Nat} {a : Act} (ha : Ag N ρ a) {t : Nat} {v : Value} (hg : get ρ t = some v) : a.tmps.getD t undef = v := by
  have := ha.slots t v hg; simp [this]
theorem ret0 {e : Exit} (he : e = .normal ∨ e = .ret) (hres : fn.results = #[]) (hR : R (.tuple #[]) h) : SX C (kend fn C R) e ρ h :=
  e_of he (fun _ _ _ _ => results_none hres _ _ _) hR
theorem ret1 {e : Exit} (he : e = .normal ∨ e = .ret) {t : Nat} {v : Value} (hres : fn.results = #[.tmp t]) (hg : get ρ t = some v) (hR : R v h) : SX C (kend fn C R) e ρ h :=
  e_of he (fun a w ha _ => by rw [results_tmp hres, ha.res hg]) hR
theorem ret2 {e : Exit} (he : e = .normal ∨ e = .ret) {t u : Nat} {v v' : Value} (hres : fn.results = #[.tmp t, .tmp u]) (hg : get ρ t = some v) (hg' : get ρ u = some v') (hR : R (.tuple #[v, v']) h) : SX C (kend fn C R) e ρ h :=
  e_of he (fun a w ha _ => by rw [results_tmp2 hres, ha.res hg, ha.res hg']) hR
end code

/-! ## a place where ways meet again -/
section cut
variable {C : Cx} {K : KK} {ρ : Env} {h : Heap}
def kcut {α : Type} (C : Cx) (env : α → Env) (hp : α → Heap) (good : α → Prop) (K : KK) : KK := Exit.then (fun a w => ∃ y, good y ∧ Ag C.N (env y) a ∧ w.heap = hp y ∧ Amb C.w0 w) K
theorem c_cut {α : Type} (env : α → Env) (hp : α → Heap) (good : α → Prop) {x y : Code} (k : SC C (kcut C env hp good K) x ρ h) (k2 : ∀ z, good z → SC C K y (env z) (hp z)) : SC C K (.seq x y) ρ h := fun a w ha hh hw =>
  wp_seq (Code.wp_mono (fun e a' w' q => by
    cases e with
    | normal => obtain ⟨z, hz, h1, h2, h3⟩ := q; exact k2 z hz a' w' h1 h2 h3
    | exit id => exact q
    | goto l => exact q
    | ret => exact q
    | panic ch => exact q
    | outgrown => exact q) (k a w ha hh hw))
theorem x_cut {α : Type} {env : α → Env} {hp : α → Heap} {good : α → Prop} (y : α) (hy : good y) (hs : Sub (env y) ρ) (hh : h = hp y) : SX C (kcut C env hp good K) .normal ρ h := fun _ _ ha hw hA => ⟨y, hy, ha.sub hs, hw.trans hh, hA⟩
theorem x_cut_ret {α : Type} {env : α → Env} {hp : α → Heap} {good : α → Prop} (k : SX C K .ret ρ h) : SX C (kcut C env hp good K) .ret ρ h := fun a w ha hh hw => k a w ha hh hw
theorem x_cut_exit {α : Type} {env : α → Env} {hp : α → Heap} {good : α → Prop} {id : Nat} (k : SX C K (.exit id) ρ h) : SX C (kcut C env hp good K) (.exit id) ρ h := fun a w ha hh hw => k a w ha hh hw
end cut

/-! ## operations -/
section op
variable {C : Cx} {ops : Array Oper} {K : KK} {dr : Bool} {I : Heap → Prop} {rest : List Oper} {ρ : Env} {h : Heap} {d : Nat} {ty : TypeId} {pos : String} {aft : Array Edge}

theorem o_nil (k : SX C K .normal ρ h) : SO C ops K dr I [] ρ h := fun a w ha hh hw => k a w ha hh hw
theorem o_nil_keep (ts : List Nat) (k : SX C K .normal (keep ts ρ) h) : SO C ops K dr I [] ρ h := o_nil (x_sub _ (keep_sub ts ρ) k)

theorem o_val {o : Oper} {v : Value} (hg : o.guard = none) (hl : isLoud o = false) (hd : o.dst = some d) (hN : Nat.blt d C.N = true)
    (hv : ∀ a w, Ag C.N ρ a → (dr = false → w.heap = h) → (dr = true → I w.heap) → (execOp a.eval o).run C.P w = .ok (.value v) w)
    (k : SO C ops K dr I rest ((d, v) :: ρ) h) : SO C ops K dr I (o :: rest) ρ h := fun a w ha hh hw => by
  unfold Lex
  rw [if_pos (by simp [Region.wanted, hg])]
  refine .inl ⟨v, fun _ => hl, fun w' hdr hC => hv a w' ha (fun e => by rw [hdr e]; exact hh) hC.2, ?_⟩
  rw [hd]
  exact k _ w (ha.put hN v) hh hw

theorem ex_v {P : Program} {w w' : World} {s : Sem Value} {v : Value} (hs : s.run P w = .ok v w') : (do pure (Next.value (← s)) : Sem Next).run P w = .ok (.value v) w' := by simp [hs]
theorem ex_u {P : Program} {w w' : World} {s : Sem Unit} (hs : s.run P w = .ok () w') : (do s; pure Next.skip : Sem Next).run P w = .ok .skip w' := by simp [hs]

theorem o_act {o : Oper} {R : Value → Heap → Prop} (hg : o.guard = none) (hl : dr = true → isLoud o = true) (hN : ∀ d', o.dst = some d' → Nat.blt d' C.N = true)
    (hv : ∀ a w (K' : Act → World → Prop), Ag C.N ρ a → w.heap = h → Amb C.w0 w → (∀ v w', Amb C.w0 w' → R v w'.heap → K' (a.put o.dst v) w') → Loud C.P o a w K')
    (hI : dr = true → ∀ v h', R v h' → I h')
    (k : ∀ v h', R v h' → SO C ops K dr I rest (match o.dst with | some d' => (d', v) :: ρ | none => ρ) h') : SO C ops K dr I (o :: rest) ρ h := fun a w ha hh hw => by
  unfold Lex
  rw [if_pos (by simp [Region.wanted, hg])]
  refine .inr ⟨hl, hv a w _ ha hh hw fun v w' hw' hR => ⟨⟨hw', fun e => hI e v _ hR⟩, ?_⟩⟩
  have := k v w'.heap hR
  cases hd : o.dst with
  | none => rw [hd] at this; exact this _ w' ha rfl hw'
  | some d' => rw [hd] at this; exact this _ w' (ha.put (hN d' hd) v) rfl hw'

/-! guards -/
theorem gd {dst : Option Tmp} {p : Op} {j t : Nat} {want : Bool} (hj : (ops[j]?).bind (·.dst) = some t) (hb : get ρ t = some (.bool want)) (k : SO C ops K dr I (⟨dst, p, ty, pos, aft, none⟩ :: rest) ρ h) :
    SO C ops K dr I (⟨dst, p, ty, pos, aft, some (j, want)⟩ :: rest) ρ h := fun a w ha hh hw => by
  have hk := k a w ha hh hw
  unfold Lex at hk ⊢
  rw [if_pos (by simp [Region.wanted])] at hk
  rw [if_pos (by simp only [Region.wanted, yielded, hj, Option.bind_some]; rw [ha.slots t _ hb]; simp)]
  exact hk
theorem gs {p : Op} {j t : Nat} {want b : Bool} (hj : (ops[j]?).bind (·.dst) = some t) (hb : get ρ t = some (.bool b)) (hne : (b == want) = false) (hN : Nat.blt d C.N = true) (k : SO C ops K dr I rest ((d, undef) :: ρ) h) :
    SO C ops K dr I (⟨some d, p, ty, pos, aft, some (j, want)⟩ :: rest) ρ h := fun a w ha hh hw => by
  unfold Lex
  rw [if_neg (by simp only [Region.wanted, yielded, hj, Option.bind_some]; rw [ha.slots t _ hb]; simpa using hne)]
  exact k _ w (ha.put hN _) hh hw
/-- an operation's guard stands on one that was not done -/
theorem gsu {p : Op} {j t : Nat} {want : Bool} (hj : (ops[j]?).bind (·.dst) = some t) (hb : get ρ t = some undef) (hN : Nat.blt d C.N = true) (k : SO C ops K dr I rest ((d, undef) :: ρ) h) :
    SO C ops K dr I (⟨some d, p, ty, pos, aft, some (j, want)⟩ :: rest) ρ h := fun a w ha hh hw => by
  unfold Lex
  rw [if_neg (by simp only [Region.wanted, yielded, hj, Option.bind_some]; rw [ha.slots t _ hb]; simp [undef])]
  exact k _ w (ha.put hN _) hh hw
theorem Ag.cons {N t : Nat} {v : Value} {ρ : Env} {a : Act} (ha : Ag N ρ a) (hg : get ρ t = some v) : Ag N ((t, v) :: ρ) a :=
  ⟨ha.defers, ha.size, fun s u hs => by
    simp only [get] at hs
    cases hb : Nat.beq s t
    · simp only [hb, cond_false] at hs; exact ha.slots s u hs
    · simp only [hb, cond_true] at hs
      cases Nat.eq_of_beq_eq_true hb; cases hs; exact ha.slots _ _ hg⟩
/-- a slot's Bool is asked -/
theorem cs {l : List Oper} (t : Nat) {b : Bool} {p : Prop} (hb : get ρ t = some (.bool b)) [Tr b p] (k1 : p → SO C ops K dr I l ((t, .bool true) :: ρ) h) (k2 : ¬ p → SO C ops K dr I l ((t, .bool false) :: ρ) h) : SO C ops K dr I l ρ h := fun a w ha hh hw => by
  cases e : b with
  | true => subst e; exact k1 ((Tr.iff (b := true)).1 rfl) a w (ha.cons hb) hh hw
  | false => subst e; exact k2 (fun hp => by have := (Tr.iff (b := false)).2 hp; cases this) a w (ha.cons hb) hh hw
theorem ct {l : List Oper} (t : Nat) {b : Bool} {p : Prop} (hb : get ρ t = some (.bool b)) [Tr b p] (hp : p) (k1 : SO C ops K dr I l ((t, .bool true) :: ρ) h) : SO C ops K dr I l ρ h := cs t hb (fun _ => k1) (fun hn => absurd hp hn)
theorem cf {l : List Oper} (t : Nat) {b : Bool} {p : Prop} (hb : get ρ t = some (.bool b)) [Tr b p] (hp : ¬ p) (k1 : SO C ops K dr I l ((t, .bool false) :: ρ) h) : SO C ops K dr I l ρ h := cs t hb (fun hn => absurd hn hp) (fun _ => k1)
/-- a slot's value, otherwise spelled -/
theorem rv {l : List Oper} (t : Nat) {v v' : Value} (hg : get ρ t = some v) (e : v = v') (k : SO C ops K dr I l ((t, v') :: ρ) h) : SO C ops K dr I l ρ h := fun a w ha hh hw => k a w (ha.cons (by rw [← e]; exact hg)) hh hw

/-! ### moves -/
theorem mv {x : Operand} {v : Value} (hx : ev ρ x = some v) (hN : Nat.blt d C.N = true) (k : SO C ops K dr I rest ((d, v) :: ρ) h) : SO C ops K dr I (⟨some d, .move x, ty, pos, aft, none⟩ :: rest) ρ h :=
  o_val rfl rfl rfl hN (fun a w ha _ _ => by simp [execOp, ha.ev hx]) k
theorem asg {x : Operand} {v : Value} (hx : ev ρ x = some v) (hN : Nat.blt d C.N = true) (k : SO C ops K dr I rest ((d, v) :: ρ) h) : SO C ops K dr I (⟨some d, .assign x, ty, pos, aft, none⟩ :: rest) ρ h :=
  o_val rfl rfl rfl hN (fun a w ha _ _ => by simp [execOp, ha.ev hx]) k
theorem pkt {c x y : Operand} {v : Value} (hc : ev ρ c = some (.bool true)) (hx : ev ρ x = some v) (hN : Nat.blt d C.N = true) (k : SO C ops K dr I rest ((d, v) :: ρ) h) : SO C ops K dr I (⟨some d, .pick c x y, ty, pos, aft, none⟩ :: rest) ρ h :=
  o_val rfl rfl rfl hN (fun a w ha _ _ => by simp [execOp, ha.ev hx, ha.ev hc, asBool]) k
theorem pkf {c x y : Operand} {v : Value} (hc : ev ρ c = some (.bool false)) (hx : ev ρ y = some v) (hN : Nat.blt d C.N = true) (k : SO C ops K dr I rest ((d, v) :: ρ) h) : SO C ops K dr I (⟨some d, .pick c x y, ty, pos, aft, none⟩ :: rest) ρ h :=
  o_val rfl rfl rfl hN (fun a w ha _ _ => by simp [execOp, ha.ev hx, ha.ev hc, asBool]) k
theorem nck {x : Operand} {a0 : Addr} (hx : ev ρ x = some (.pointer (some a0))) (hN : Nat.blt d C.N = true) (k : SO C ops K dr I rest ((d, .pointer (some a0)) :: ρ) h) : SO C ops K dr I (⟨some d, .nilCheck x, ty, pos, aft, none⟩ :: rest) ρ h :=
  o_val rfl rfl rfl hN (fun a w ha _ _ => by simp [execOp, ha.ev hx]) k
theorem ext {x : Operand} {vs : Array Value} {i : Nat} {v : Value} (hx : ev ρ x = some (.tuple vs)) (hi : vs[i]? = some v) (hN : Nat.blt d C.N = true) (k : SO C ops K dr I rest ((d, v) :: ρ) h) : SO C ops K dr I (⟨some d, .extract x i, ty, pos, aft, none⟩ :: rest) ρ h :=
  o_val rfl rfl rfl hN (fun a w ha _ _ => by simp [execOp, ha.ev hx, Instr.extract, hi]) k
theorem mkf {f : Nat} {first captured : Array Operand} {vs us : List Value} (hx : first.toList.map (ev ρ) = vs.map some) (hy : captured.toList.map (ev ρ) = us.map some) (hN : Nat.blt d C.N = true)
    (k : SO C ops K dr I rest ((d, .func (.func f) vs.toArray us.toArray) :: ρ) h) : SO C ops K dr I (⟨some d, .makeFunc (.func f) first captured, ty, pos, aft, none⟩ :: rest) ρ h :=
  o_val rfl rfl rfl hN (fun a w ha _ _ => by
    have hm : ∀ (xs : List Operand) (vs : List Value), xs.map (ev ρ) = vs.map some → xs.map a.eval = vs := by
      intro xs
      induction xs with
      | nil => intro vs e; cases vs; rfl; simp at e
      | cons x xs ih =>
        intro vs e
        cases vs with
        | nil => simp at e
        | cons v vs =>
          simp only [List.map_cons, List.cons.injEq] at e
          rw [List.map_cons, ha.ev e.1, ih vs e.2]
    have e1 : first.map a.eval = vs.toArray := Array.ext' (by simpa using hm _ _ hx)
    have e2 : captured.map a.eval = us.toArray := Array.ext' (by simpa using hm _ _ hy)
    simp [execOp, Instr.makeFunc, e1, e2]) k

/-! ### numbers -/
theorem bop {p : BinOp} {xt yt : TypeId} {x y : Operand} {k' : IntKind} {m n : Int} {v : Value} (hx : ev ρ x = some (.int k' m)) (hy : ev ρ y = some (.int k' n))
    (hv : ∀ w, (binOp p xt (.int k' m) (.int k' n)).run C.P w = .ok v w) (hN : Nat.blt d C.N = true) (k : SO C ops K dr I rest ((d, v) :: ρ) h) : SO C ops K dr I (⟨some d, .binOp p xt x y yt, ty, pos, aft, none⟩ :: rest) ρ h :=
  o_val rfl rfl rfl hN (fun a w ha _ _ => by
    simp only [execOp, ha.ev hx, ha.ev hy]
    refine ex_v ?_
    simp only [Sem.run_bind]
    have : (eqGuard p xt x y (.int k' m) (.int k' n)).run C.P w = .ok () w := by
      unfold eqGuard; cases p <;> simp
    rw [this]; exact hv w) k
theorem run_arith {P : Program} (p : BinOp) (xt : TypeId) (k : IntKind) (m n r : Int) (w : World) (hp : p = .add ∧ r = m + n ∨ p = .sub ∧ r = m - n ∨ p = .mul ∧ r = m * n) : (binOp p xt (.int k m) (.int k n)).run P w = .ok (.int k (k.wrap r)) w := by
  rcases hp with ⟨rfl, rfl⟩ | ⟨rfl, rfl⟩ | ⟨rfl, rfl⟩ <;> simp [binOp, Op.intArith]
theorem w64 {r : Int} (hr : -9223372036854775808 ≤ r ∧ r ≤ 9223372036854775807) : IntKind.i64.wrap r = r := by rw [IntKind.wrap_i64]; omega
/-- + - * of int, not wrapped -/
theorem add {xt yt : TypeId} {x y : Operand} {m n : Int} (hx : ev ρ x = some (i64 m)) (hy : ev ρ y = some (i64 n)) (hr : -9223372036854775808 ≤ m + n ∧ m + n ≤ 9223372036854775807) (hN : Nat.blt d C.N = true)
    (k : SO C ops K dr I rest ((d, i64 (m + n)) :: ρ) h) : SO C ops K dr I (⟨some d, .binOp .add xt x y yt, ty, pos, aft, none⟩ :: rest) ρ h :=
  bop hx hy (fun w => by rw [run_arith .add xt .i64 m n _ w (.inl ⟨rfl, rfl⟩), w64 hr]) hN k
theorem sub {xt yt : TypeId} {x y : Operand} {m n : Int} (hx : ev ρ x = some (i64 m)) (hy : ev ρ y = some (i64 n)) (hr : -9223372036854775808 ≤ m - n ∧ m - n ≤ 9223372036854775807) (hN : Nat.blt d C.N = true)
    (k : SO C ops K dr I rest ((d, i64 (m - n)) :: ρ) h) : SO C ops K dr I (⟨some d, .binOp .sub xt x y yt, ty, pos, aft, none⟩ :: rest) ρ h :=
  bop hx hy (fun w => by rw [run_arith .sub xt .i64 m n _ w (.inr (.inl ⟨rfl, rfl⟩)), w64 hr]) hN k
theorem mul {xt yt : TypeId} {x y : Operand} {m n : Int} (hx : ev ρ x = some (i64 m)) (hy : ev ρ y = some (i64 n)) (hr : -9223372036854775808 ≤ m * n ∧ m * n ≤ 9223372036854775807) (hN : Nat.blt d C.N = true)
    (k : SO C ops K dr I rest ((d, i64 (m * n)) :: ρ) h) : SO C ops K dr I (⟨some d, .binOp .mul xt x y yt, ty, pos, aft, none⟩ :: rest) ρ h :=
  bop hx hy (fun w => by rw [run_arith .mul xt .i64 m n _ w (.inr (.inr ⟨rfl, rfl⟩)), w64 hr]) hN k
/-- .. wrapped, of any kind -/
theorem addw {xt yt : TypeId} {x y : Operand} {q : IntKind} {m n : Int} (hx : ev ρ x = some (.int q m)) (hy : ev ρ y = some (.int q n)) (hN : Nat.blt d C.N = true)
    (k : SO C ops K dr I rest ((d, .int q (q.wrap (m + n))) :: ρ) h) : SO C ops K dr I (⟨some d, .binOp .add xt x y yt, ty, pos, aft, none⟩ :: rest) ρ h :=
  bop hx hy (fun w => run_arith .add xt q m n _ w (.inl ⟨rfl, rfl⟩)) hN k
theorem subw {xt yt : TypeId} {x y : Operand} {q : IntKind} {m n : Int} (hx : ev ρ x = some (.int q m)) (hy : ev ρ y = some (.int q n)) (hN : Nat.blt d C.N = true)
    (k : SO C ops K dr I rest ((d, .int q (q.wrap (m - n))) :: ρ) h) : SO C ops K dr I (⟨some d, .binOp .sub xt x y yt, ty, pos, aft, none⟩ :: rest) ρ h :=
  bop hx hy (fun w => run_arith .sub xt q m n _ w (.inr (.inl ⟨rfl, rfl⟩))) hN k
theorem mulw {xt yt : TypeId} {x y : Operand} {q : IntKind} {m n : Int} (hx : ev ρ x = some (.int q m)) (hy : ev ρ y = some (.int q n)) (hN : Nat.blt d C.N = true)
    (k : SO C ops K dr I rest ((d, .int q (q.wrap (m * n))) :: ρ) h) : SO C ops K dr I (⟨some d, .binOp .mul xt x y yt, ty, pos, aft, none⟩ :: rest) ρ h :=
  bop hx hy (fun w => run_arith .mul xt q m n _ w (.inr (.inr ⟨rfl, rfl⟩))) hN k
theorem quo {xt yt : TypeId} {x y : Operand} {q : IntKind} {m n : Int} (hx : ev ρ x = some (.int q m)) (hy : ev ρ y = some (.int q n)) (h0 : n ≠ 0) (hN : Nat.blt d C.N = true)
    (k : SO C ops K dr I rest ((d, .int q (q.wrap (m.tdiv n))) :: ρ) h) : SO C ops K dr I (⟨some d, .binOp .quo xt x y yt, ty, pos, aft, none⟩ :: rest) ρ h :=
  bop hx hy (fun w => by simp [binOp, Op.intDiv, h0]) hN k
theorem rem {xt yt : TypeId} {x y : Operand} {q : IntKind} {m n : Int} (hx : ev ρ x = some (.int q m)) (hy : ev ρ y = some (.int q n)) (h0 : n ≠ 0) (hN : Nat.blt d C.N = true)
    (k : SO C ops K dr I rest ((d, .int q (m.tmod n)) :: ρ) h) : SO C ops K dr I (⟨some d, .binOp .rem xt x y yt, ty, pos, aft, none⟩ :: rest) ρ h :=
  bop hx hy (fun w => by simp [binOp, Op.intDiv, h0]) hN k
def bits2 (p : BinOp) (q : IntKind) (m n : Int) : Int :=
  let a := BitVec.ofInt q.bits m
  let b := BitVec.ofInt q.bits n
  q.wrap (match p with | .and => (a &&& b).toNat | .or => (a ||| b).toNat | .xor => (a ^^^ b).toNat | _ => (a &&& ~~~b).toNat)
theorem bit {p : BinOp} {xt yt : TypeId} {x y : Operand} {q : IntKind} {m n : Int} (hp : p = .and ∨ p = .or ∨ p = .xor ∨ p = .andNot) (hx : ev ρ x = some (.int q m)) (hy : ev ρ y = some (.int q n)) (hN : Nat.blt d C.N = true)
    (k : SO C ops K dr I rest ((d, .int q (bits2 p q m n)) :: ρ) h) : SO C ops K dr I (⟨some d, .binOp p xt x y yt, ty, pos, aft, none⟩ :: rest) ρ h :=
  bop hx hy (fun w => by rcases hp with rfl | rfl | rfl | rfl <;> simp [binOp, Op.intBits, bits2]) hN k
theorem shl {xt yt : TypeId} {x y : Operand} {q q' : IntKind} {m n : Int} (hx : ev ρ x = some (.int q m)) (hy : ev ρ y = some (.int q' n)) (h0 : 0 ≤ n) (hN : Nat.blt d C.N = true)
    (k : SO C ops K dr I rest ((d, .int q (q.wrap (m * 2 ^ (min n.toNat q.bits)))) :: ρ) h) : SO C ops K dr I (⟨some d, .binOp .shl xt x y yt, ty, pos, aft, none⟩ :: rest) ρ h :=
  o_val rfl rfl rfl hN (fun a w ha _ _ => by
    simp only [execOp, ha.ev hx, ha.ev hy]
    refine ex_v ?_
    have : ¬ n < 0 := by omega
    simp [eqGuard, binOp, Op.shift, this]) k
theorem shr {xt yt : TypeId} {x y : Operand} {q q' : IntKind} {m n : Int} (hx : ev ρ x = some (.int q m)) (hy : ev ρ y = some (.int q' n)) (h0 : 0 ≤ n) (hN : Nat.blt d C.N = true)
    (k : SO C ops K dr I rest ((d, .int q (m.fdiv (2 ^ (min n.toNat q.bits)))) :: ρ) h) : SO C ops K dr I (⟨some d, .binOp .shr xt x y yt, ty, pos, aft, none⟩ :: rest) ρ h :=
  o_val rfl rfl rfl hN (fun a w ha _ _ => by
    simp only [execOp, ha.ev hx, ha.ev hy]
    refine ex_v ?_
    have : ¬ n < 0 := by omega
    simp [eqGuard, binOp, Op.shift, this]) k
section cmp
variable {xt yt : TypeId} {x y : Operand} {q : IntKind} {m n : Int}
theorem eqi (hx : ev ρ x = some (.int q m)) (hy : ev ρ y = some (.int q n)) (hN : Nat.blt d C.N = true) (k : SO C ops K dr I rest ((d, .bool (m == n)) :: ρ) h) : SO C ops K dr I (⟨some d, .binOp .eql xt x y yt, ty, pos, aft, none⟩ :: rest) ρ h :=
  bop hx hy (fun w => by simp [binOp, Op.intCmp]) hN k
theorem nei (hx : ev ρ x = some (.int q m)) (hy : ev ρ y = some (.int q n)) (hN : Nat.blt d C.N = true) (k : SO C ops K dr I rest ((d, .bool (m != n)) :: ρ) h) : SO C ops K dr I (⟨some d, .binOp .neq xt x y yt, ty, pos, aft, none⟩ :: rest) ρ h :=
  bop hx hy (fun w => by simp [binOp, Op.intCmp]) hN k
theorem lti (hx : ev ρ x = some (.int q m)) (hy : ev ρ y = some (.int q n)) (hN : Nat.blt d C.N = true) (k : SO C ops K dr I rest ((d, .bool (decide (m < n))) :: ρ) h) : SO C ops K dr I (⟨some d, .binOp .lss xt x y yt, ty, pos, aft, none⟩ :: rest) ρ h :=
  bop hx hy (fun w => by simp [binOp, Op.intCmp]) hN k
theorem lei (hx : ev ρ x = some (.int q m)) (hy : ev ρ y = some (.int q n)) (hN : Nat.blt d C.N = true) (k : SO C ops K dr I rest ((d, .bool (decide (m ≤ n))) :: ρ) h) : SO C ops K dr I (⟨some d, .binOp .leq xt x y yt, ty, pos, aft, none⟩ :: rest) ρ h :=
  bop hx hy (fun w => by simp [binOp, Op.intCmp]) hN k
theorem gti (hx : ev ρ x = some (.int q m)) (hy : ev ρ y = some (.int q n)) (hN : Nat.blt d C.N = true) (k : SO C ops K dr I rest ((d, .bool (decide (n < m))) :: ρ) h) : SO C ops K dr I (⟨some d, .binOp .gtr xt x y yt, ty, pos, aft, none⟩ :: rest) ρ h :=
  bop hx hy (fun w => by simp [binOp, Op.intCmp]) hN k
theorem gei (hx : ev ρ x = some (.int q m)) (hy : ev ρ y = some (.int q n)) (hN : Nat.blt d C.N = true) (k : SO C ops K dr I rest ((d, .bool (decide (n ≤ m))) :: ρ) h) : SO C ops K dr I (⟨some d, .binOp .geq xt x y yt, ty, pos, aft, none⟩ :: rest) ρ h :=
  bop hx hy (fun w => by simp [binOp, Op.intCmp]) hN k
end cmp
theorem nt {x : Operand} {xt : TypeId} {b : Bool} (hx : ev ρ x = some (.bool b)) (hN : Nat.blt d C.N = true) (k : SO C ops K dr I rest ((d, .bool (!b)) :: ρ) h) : SO C ops K dr I (⟨some d, .unOp .not xt x, ty, pos, aft, none⟩ :: rest) ρ h :=
  o_val rfl rfl rfl hN (fun a w ha _ _ => by simp [execOp, ha.ev hx, Op.unary]) k
theorem ng {x : Operand} {xt : TypeId} {q : IntKind} {n : Int} (hx : ev ρ x = some (.int q n)) (hN : Nat.blt d C.N = true) (k : SO C ops K dr I rest ((d, .int q (q.wrap (-n))) :: ρ) h) : SO C ops K dr I (⟨some d, .unOp .neg xt x, ty, pos, aft, none⟩ :: rest) ρ h :=
  o_val rfl rfl rfl hN (fun a w ha _ _ => by simp [execOp, ha.ev hx, Op.unary, Op.intArith]) k
theorem run_eqIn_bool {P : Program} {t : TypeId} (hT : P.underlying t = some .bool) (n : Nat) (b c : Bool) (w : World) : (Op.equalIn (n + 1) t (.bool b) (.bool c)).run P w = .ok (b == c) w := by
  simp [Op.equalIn, run_underlying hT]
theorem run_eqIn_pn {P : Program} {t T : TypeId} (hT : P.underlying t = some (.pointer T)) (n : Nat) (a0 : Option Addr) (w : World) : (Op.equalIn (n + 1) t (.pointer a0) (.pointer none)).run P w = .ok a0.isNone w := by
  cases a0 <;> simp [Op.equalIn, run_underlying hT]
theorem run_eq {P : Program} {t : TypeId} {x y : Value} {b : Bool} {w : World} (h : ∀ n, (Op.equalIn (n + 1) t x y).run P w = .ok b w) : (Op.equal t x y).run P w = .ok b w := h 9999
/-- == of bools -/
theorem eqb {x y : Operand} {xt yt : TypeId} {b c : Bool} [hT : UT C.P xt .bool] (hx : ev ρ x = some (.bool b)) (hy : ev ρ y = some (.bool c)) (hN : Nat.blt d C.N = true) (k : SO C ops K dr I rest ((d, .bool (b == c)) :: ρ) h) : SO C ops K dr I (⟨some d, .binOp .eql xt x y yt, ty, pos, aft, none⟩ :: rest) ρ h :=
  o_val rfl rfl rfl hN (fun a w ha _ _ => by
    simp only [execOp, ha.ev hx, ha.ev hy]
    refine ex_v ?_
    simp [eqGuard, binOp, run_eq (fun n => run_eqIn_bool hT.eq n b c w)]) k
theorem neb {x y : Operand} {xt yt : TypeId} {b c : Bool} [hT : UT C.P xt .bool] (hx : ev ρ x = some (.bool b)) (hy : ev ρ y = some (.bool c)) (hN : Nat.blt d C.N = true) (k : SO C ops K dr I rest ((d, .bool (!(b == c))) :: ρ) h) : SO C ops K dr I (⟨some d, .binOp .neq xt x y yt, ty, pos, aft, none⟩ :: rest) ρ h :=
  o_val rfl rfl rfl hN (fun a w ha _ _ => by
    simp only [execOp, ha.ev hx, ha.ev hy]
    refine ex_v ?_
    simp [eqGuard, binOp, run_eq (fun n => run_eqIn_bool hT.eq n b c w)]) k
/-- == of a pointer and nil -/
theorem eqpn {x y : Operand} {xt yt T : TypeId} {a0 : Option Addr} [hT : UT C.P xt (.pointer T)] (hx : ev ρ x = some (.pointer a0)) (hy : ev ρ y = some (.pointer none)) (hN : Nat.blt d C.N = true) (k : SO C ops K dr I rest ((d, .bool a0.isNone) :: ρ) h) : SO C ops K dr I (⟨some d, .binOp .eql xt x y yt, ty, pos, aft, none⟩ :: rest) ρ h :=
  o_val rfl rfl rfl hN (fun a w ha _ _ => by
    simp only [execOp, ha.ev hx, ha.ev hy]
    refine ex_v ?_
    simp [eqGuard, binOp, run_eq (fun n => run_eqIn_pn hT.eq n a0 w)]) k
theorem nepn {x y : Operand} {xt yt T : TypeId} {a0 : Option Addr} [hT : UT C.P xt (.pointer T)] (hx : ev ρ x = some (.pointer a0)) (hy : ev ρ y = some (.pointer none)) (hN : Nat.blt d C.N = true) (k : SO C ops K dr I rest ((d, .bool (!a0.isNone)) :: ρ) h) : SO C ops K dr I (⟨some d, .binOp .neq xt x y yt, ty, pos, aft, none⟩ :: rest) ρ h :=
  o_val rfl rfl rfl hN (fun a w ha _ _ => by
    simp only [execOp, ha.ev hx, ha.ev hy]
    refine ex_v ?_
    simp [eqGuard, binOp, run_eq (fun n => run_eqIn_pn hT.eq n a0 w)]) k
/-- a number's kind turned -/
theorem cvi {x : Operand} {s t : TypeId} {ds : TypeDesc} {q q' : IntKind} {n : Int} [hs : UT C.P s ds] [ht : UT C.P t (.int q')] (hx : ev ρ x = some (.int q n)) (hN : Nat.blt d C.N = true) (k : SO C ops K dr I rest ((d, .int q' (q'.wrap n)) :: ρ) h) : SO C ops K dr I (⟨some d, .convert s t x, ty, pos, aft, none⟩ :: rest) ρ h :=
  o_val rfl rfl rfl hN (fun a w ha _ _ => by
    simp only [execOp, ha.ev hx]
    refine ex_v ?_
    simp only [convert, Sem.run_bind, run_underlying hs.eq, run_underlying ht.eq, Result.andThen_ok]
    cases ds <;> simp [Conv.intToInt]) k

/-! ### texts -/
theorem toList_mk (l : List UInt8) : (⟨l.toArray⟩ : ByteArray).toList = l := by simp [ByteArray.toList_eq]
end op
end Go.Eng
