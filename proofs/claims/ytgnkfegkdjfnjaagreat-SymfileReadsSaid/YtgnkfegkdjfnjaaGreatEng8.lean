/- The engine, part 8: rules by which a function of the program is walked. No condition. -/
import Derived.Test.YtgnkfegkdjfnjaaGreatEng7
import Derived.Laws.StructEq
namespace Go.Eng
open Go.WideMaps (KeyLaw)
open Go.MapKept (Stamped)
open Go.ChangeMaps (setBlock)

theorem set_upd {w : World} {b : Nat} {o o' : Obj} (hb : w.heap[b]? = some o) : Upd w.heap b o' (setBlock w b o').heap := by
  obtain ⟨h1, h2⟩ := MapKept.heap_set (o' := o') hb
  exact ⟨h1, by simp [setBlock], ⟨by simp [setBlock], fun k _ hn => h2 k hn⟩⟩

class MK (P : Program) (t : TypeId) (k : outParam TypeId) : Prop where
  ht : ∃ e, P.underlying t = some (.map k e) ∧ ∀ u : World, (zeroValue e).run P u = .ok (i64 0) u
  K : KeyLaw P k

section op
variable {C : Cx} {ops : Array Oper} {K : KK} {dr : Bool} {I : Heap → Prop} {rest : List Oper} {ρ : Env} {h : Heap} {d : Nat} {ty : TypeId} {pos : String} {aft : Array Edge}

theorem mkm {T : TypeId} (hI : dr = true → ∀ h', New h (.map #[] 0) h' → I h') (hN : Nat.blt d C.N = true) (k : ∀ h', New h (.map #[] 0) h' → SO C ops K dr I rest ((d, .map (some h.size)) :: ρ) h') :
    SO C ops K dr I (⟨some d, .makeMap T none, ty, pos, aft, none⟩ :: rest) ρ h :=
  o_new rfl rfl rfl hN (fun a w ha hh => by
    subst hh
    exact ex_v rfl) hI k
theorem lk_ {T k : TypeId} {x y : Operand} {m : Nat} {f : Value → Int} {key : Value} [hT : MK C.P T k] (hx : ev ρ x = some (.map (some m))) (hy : ev ρ y = some key) (hk : (keyOf C.P k key).isSome = true)
    (hm : ∀ h', (dr = false → h' = h) → (dr = true → I h') → MapIs C.P k h' m f) (hN : Nat.blt d C.N = true) (kk : SO C ops K dr I rest ((d, i64 (f key)) :: ρ) h) :
    SO C ops K dr I (⟨some d, .lookup T x y false, ty, pos, aft, none⟩ :: rest) ρ h :=
  o_val rfl rfl rfl hN (fun a w ha h1 h2 => by
    obtain ⟨es, clock, hb, hM⟩ := hm w.heap h1 h2
    obtain ⟨e, ht, hz⟩ := hT.ht
    obtain ⟨kl, hkl⟩ := Option.isSome_iff_exists.1 hk
    simp only [execOp, ha.ev hx, ha.ev hy]
    exact ex_v (run_lk hT.K ht hz hb hM hkl)) kk
theorem lk {T k : TypeId} {x y : Operand} {m : Nat} {f : Value → Int} {key : Value} [hT : MK C.P T k] (hx : ev ρ x = some (.map (some m))) (hy : ev ρ y = some key) (hk : (keyOf C.P k key).isSome = true)
    (hm : MapIs C.P k h m f) (hN : Nat.blt d C.N = true) (kk : SO C ops K false I rest ((d, i64 (f key)) :: ρ) h) :
    SO C ops K false I (⟨some d, .lookup T x y false, ty, pos, aft, none⟩ :: rest) ρ h :=
  lk_ hx hy hk (fun h' e _ => by rw [e rfl]; exact hm) hN kk
theorem lkI {T k : TypeId} {x y : Operand} {m : Nat} {f : Value → Int} {key : Value} [hT : MK C.P T k] (hx : ev ρ x = some (.map (some m))) (hy : ev ρ y = some key) (hk : (keyOf C.P k key).isSome = true)
    (hm : ∀ h', I h' → MapIs C.P k h' m f) (hN : Nat.blt d C.N = true) (kk : SO C ops K true I rest ((d, i64 (f key)) :: ρ) h) :
    SO C ops K true I (⟨some d, .lookup T x y false, ty, pos, aft, none⟩ :: rest) ρ h :=
  lk_ hx hy hk (fun h' _ e => hm h' (e rfl)) hN kk
theorem me {T k : TypeId} {x y : Operand} {m : Nat} {f : Value → Int} {key : Value} [hT : MK C.P T k] (hx : ev ρ x = some (.map (some m))) (hy : ev ρ y = some key) (hk : (keyOf C.P k key).isSome = true)
    (hm : MapIs C.P k h m f) (hI : dr = true → ∀ h', MapIs C.P k h' m f → Mod (· = m) h h' → I h') (hN : Nat.blt d C.N = true)
    (kk : ∀ (st : Nat) h', MapIs C.P k h' m f → Pend h' m key st → Mod (· = m) h h' → SO C ops K dr I rest ((d, .tuple #[i64 (f key), i64 (st : Nat)]) :: ρ) h') :
    SO C ops K dr I (⟨some d, .mapEntry T x y, ty, pos, aft, none⟩ :: rest) ρ h :=
  o_act (R := fun v h' => ∃ st : Nat, v = .tuple #[i64 (f key), i64 (st : Nat)] ∧ MapIs C.P k h' m f ∧ Pend h' m key st ∧ Mod (· = m) h h') rfl (fun _ => rfl) (fun d' e => by cases e; exact hN)
    (fun a w K' ha hh hw hkk => by
      subst hh
      obtain ⟨es, clock, hb, hM⟩ := hm
      obtain ⟨e, ht, hz⟩ := hT.ht
      obtain ⟨kl, hkl⟩ := Option.isSome_iff_exists.1 hk
      obtain ⟨st, es', clock', hr, hM', j, e0, hj, hk', hst⟩ := run_me hT.K ht hz hb hM hkl
      have u := set_upd (o' := .map es' clock') hb
      unfold Loud
      rw [show (execOp a.eval ⟨some d, .mapEntry T x y, ty, pos, aft, none⟩).run C.P w = .ok (.value (.tuple #[i64 (f key), i64 (st : Nat)])) (setBlock w m (.map es' clock')) from by
        simp only [execOp, ha.ev hx, ha.ev hy]; exact ex_v hr]
      exact hkk _ _ ⟨hw.os, hw.tape, hw.output⟩ ⟨st, rfl, ⟨es', clock', u.at_, hM'⟩, ⟨es', clock', j, e0, u.at_, hM'.1.2.1, hj, hk', hst⟩, u.mod⟩)
    (fun e v h' ⟨_, _, h1, _, h3⟩ => hI e h' h1 h3) (fun v h' ⟨st, hv, h1, h2, h3⟩ => by rw [hv]; exact kk st h' h1 h2 h3)
theorem es {T k : TypeId} {x y z : Operand} {m st : Nat} {f : Value → Int} {key : Value} {v : Int} (hx : ev ρ x = some (.map (some m))) (hy : ev ρ y = some (i64 (st : Nat))) (hz : ev ρ z = some (i64 v))
    (hm : MapIs C.P k h m f) (hp : Pend h m key st) (hI : dr = true → ∀ h', MapIs C.P k h' m (upd f key v) → Mod (· = m) h h' → I h')
    (kk : ∀ h', MapIs C.P k h' m (upd f key v) → Mod (· = m) h h' → SO C ops K dr I rest ρ h') :
    SO C ops K dr I (⟨none, .entryStore T x y z, ty, pos, aft, none⟩ :: rest) ρ h :=
  o_act (R := fun _ h' => MapIs C.P k h' m (upd f key v) ∧ Mod (· = m) h h') rfl (fun _ => rfl) (fun d' e => by cases e)
    (fun a w K' ha hh hw hkk => by
      subst hh
      obtain ⟨es, clock, hb, hM⟩ := hm
      obtain ⟨es2, clock2, j, e0, hb2, hn, hj, hke, hst⟩ := hp
      rw [hb] at hb2; cases hb2
      subst hke hst
      have hr := run_es (P := C.P) (t := T) hb hM hj v
      have u := set_upd (o' := .map (es.modify j fun x => { x with val := i64 v }) clock) hb
      unfold Loud
      rw [show (execOp a.eval ⟨none, .entryStore T x y z, ty, pos, aft, none⟩).run C.P w = .ok .skip (setBlock w m (.map (es.modify j fun x => { x with val := i64 v }) clock)) from by
        simp only [execOp, ha.ev hx, ha.ev hy, ha.ev hz, Sem.run_bind, hr, Result.andThen_ok]; rfl]
      exact hkk undef _ ⟨hw.os, hw.tape, hw.output⟩ ⟨⟨_, _, u.at_, hM.set hj v⟩, u.mod⟩)
    (fun e _ h' ⟨h1, h3⟩ => hI e h' h1 h3) (fun _ h' ⟨h1, h3⟩ => kk h' h1 h3)
theorem mup_ {o : Op} {T k : TypeId} {x y z : Operand} {m : Nat} {f : Value → Int} {key : Value} {v : Int} [hT : MK C.P T k] (ho : o = .mapUpdate T x y z ∨ o = .insert T x y z) (hx : ev ρ x = some (.map (some m))) (hy : ev ρ y = some key) (hk : (keyOf C.P k key).isSome = true) (hz : ev ρ z = some (i64 v))
    (hm : MapIs C.P k h m f) (hI : dr = true → ∀ h', MapIs C.P k h' m (upd f key v) → Mod (· = m) h h' → I h')
    (kk : ∀ h', MapIs C.P k h' m (upd f key v) → Mod (· = m) h h' → SO C ops K dr I rest ρ h') :
    SO C ops K dr I (⟨none, o, ty, pos, aft, none⟩ :: rest) ρ h :=
  o_act (R := fun _ h' => MapIs C.P k h' m (upd f key v) ∧ Mod (· = m) h h') rfl (fun _ => by rcases ho with rfl | rfl <;> rfl) (fun d' e => by cases e)
    (fun a w K' ha hh hw hkk => by
      subst hh
      obtain ⟨es, clock, hb, hM⟩ := hm
      obtain ⟨e, ht, -⟩ := hT.ht
      obtain ⟨kl, hkl⟩ := Option.isSome_iff_exists.1 hk
      obtain ⟨es', clock', hr, hM'⟩ := run_mu hT.K ht hb hM hkl v
      have u := set_upd (o' := .map es' clock') hb
      unfold Loud
      rw [show (execOp a.eval ⟨none, o, ty, pos, aft, none⟩).run C.P w = .ok .skip (setBlock w m (.map es' clock')) from by
        rcases ho with rfl | rfl <;> (simp only [execOp, ha.ev hx, ha.ev hy, ha.ev hz, Sem.run_bind, hr, Result.andThen_ok]; rfl)]
      exact hkk undef _ ⟨hw.os, hw.tape, hw.output⟩ ⟨⟨_, _, u.at_, hM'⟩, u.mod⟩)
    (fun e _ h' ⟨h1, h3⟩ => hI e h' h1 h3) (fun _ h' ⟨h1, h3⟩ => kk h' h1 h3)
theorem mup {T k : TypeId} {x y z : Operand} {m : Nat} {f : Value → Int} {key : Value} {v : Int} [hT : MK C.P T k] (hx : ev ρ x = some (.map (some m))) (hy : ev ρ y = some key) (hk : (keyOf C.P k key).isSome = true) (hz : ev ρ z = some (i64 v))
    (hm : MapIs C.P k h m f) (hI : dr = true → ∀ h', MapIs C.P k h' m (upd f key v) → Mod (· = m) h h' → I h')
    (kk : ∀ h', MapIs C.P k h' m (upd f key v) → Mod (· = m) h h' → SO C ops K dr I rest ρ h') :
    SO C ops K dr I (⟨none, .mapUpdate T x y z, ty, pos, aft, none⟩ :: rest) ρ h := mup_ (.inl rfl) hx hy hk hz hm hI kk
theorem ins {T k : TypeId} {x y z : Operand} {m : Nat} {f : Value → Int} {key : Value} {v : Int} [hT : MK C.P T k] (hx : ev ρ x = some (.map (some m))) (hy : ev ρ y = some key) (hk : (keyOf C.P k key).isSome = true) (hz : ev ρ z = some (i64 v))
    (hm : MapIs C.P k h m f) (hI : dr = true → ∀ h', MapIs C.P k h' m (upd f key v) → Mod (· = m) h h' → I h')
    (kk : ∀ h', MapIs C.P k h' m (upd f key v) → Mod (· = m) h h' → SO C ops K dr I rest ρ h') :
    SO C ops K dr I (⟨none, .insert T x y z, ty, pos, aft, none⟩ :: rest) ρ h := mup_ (.inr rfl) hx hy hk hz hm hI kk

/-! ### == of a slice and nil, != of structs, max -/
theorem run_eqIn_sn {P : Program} {t e : TypeId} (hT : P.underlying t = some (.slice e)) (n : Nat) (a0 : Option Addr) (k c : Nat) (w : World) : (Op.equalIn (n + 1) t (.slice a0 k c) (.slice none 0 0)).run P w = .ok a0.isNone w := by
  cases a0 <;> simp [Op.equalIn, run_underlying hT]
theorem eqsn {x y : Operand} {xt yt E : TypeId} {a0 : Option Addr} {n c : Nat} [hT : UT C.P xt (.slice E)] (hx : ev ρ x = some (.slice a0 n c)) (hy : ev ρ y = some (.slice none 0 0)) (hN : Nat.blt d C.N = true) (k : SO C ops K dr I rest ((d, .bool a0.isNone) :: ρ) h) :
    SO C ops K dr I (⟨some d, .binOp .eql xt x y yt, ty, pos, aft, none⟩ :: rest) ρ h :=
  o_val rfl rfl rfl hN (fun a w ha _ _ => by
    simp only [execOp, ha.ev hx, ha.ev hy]
    refine ex_v ?_
    simp [eqGuard, binOp, run_eq (fun n' => run_eqIn_sn hT.eq n' a0 n c w)]) k
theorem max2 {x y : Operand} {t1 t2 : TypeId} {q : IntKind} {m n : Int} (hx : ev ρ x = some (.int q m)) (hy : ev ρ y = some (.int q n)) (hN : Nat.blt d C.N = true) (k : SO C ops K dr I rest ((d, .int q (max m n)) :: ρ) h) :
    SO C ops K dr I (⟨some d, .call { callee := .builtin .max, args := #[x, y], argTypes := #[t1, t2] }, ty, pos, aft, none⟩ :: rest) ρ h :=
  o_val rfl rfl rfl hN (fun a w ha _ _ => by
    simp only [execOp, resolve, invoke, builtin, Sem.run_bind, Sem.run_pure, Result.andThen_ok, List.map_toArray, List.map_cons, List.map_nil, ha.ev hx, ha.ev hy]
    have : (if n > m then n else m) = max m n := by rw [Int.max_def]; split <;> split <;> omega
    simp [Builtin.max_, Builtin.max2, this]) k
end op
end Go.Eng
