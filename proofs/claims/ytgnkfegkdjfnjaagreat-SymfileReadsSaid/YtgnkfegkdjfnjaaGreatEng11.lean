/- The engine, part 11: rules by which a function of the program is walked. No condition. -/
import Derived.Test.YtgnkfegkdjfnjaaGreatEng10
import Derived.Laws.IdiomStrings
namespace Go.Eng
/-- below N nothing turned since h0, and the heap reaches so far -/
structure At (N : Nat) (h0 h : Heap) : Prop where
  n : N ≤ h.size
  k : Keep N h0 h
theorem At.refl {N : Nat} {h : Heap} (hn : N ≤ h.size) : At N h h := ⟨hn, Keep.refl _ _⟩
theorem At.mod {S : Nat → Prop} {N : Nat} {h0 h h' : Heap} (a : At N h0 h) (x : Mod S h h') (hS : ∀ k, S k → N ≤ k) : At N h0 h' := ⟨Nat.le_trans a.n x.size, a.k.trans (x.keep a.n hS)⟩
theorem At.ext {N : Nat} {h0 h h' : Heap} (a : At N h0 h) (x : Ext h h') : At N h0 h' := a.mod x (fun _ e => e.elim)
theorem At.upd {N : Nat} {h0 h h' : Heap} {b : Nat} {o : Obj} (a : At N h0 h) (u : Upd h b o h') (hb : N ≤ b) : At N h0 h' := a.mod u.mod (fun k e => by rw [show k = b from e]; exact hb)

theorem At.toExt {h g : Heap} (a : At h.size h g) : Ext h g := ⟨a.n, fun k hk _ => a.k k hk⟩
theorem ones {vs : Array Value} (h : vs.toList.all (·.oneCell') = true) : ∀ v ∈ vs.toList, v.oneCell' = true := List.all_eq_true.1 h

theorem SliceAt.el {α : Type} {N : Nat} {h0 h : Heap} {sz : Nat} {R : Heap → α → List Value → Prop} {a : Option Addr} {n c : Nat} {xs : List α} (s : SliceAt N h0 sz R (.slice a n c) xs) (k : At N h0 h) {i : Nat} {x : α} (hx : xs[i]? = some x) :
    ∃ b o cs, a = some ⟨b, o, none⟩ ∧ b < N ∧ cs.length = sz ∧ rowAt h b (o + i * sz) cs ∧ R h0 x cs := by
  obtain ⟨_, a', c', he, hi⟩ := s
  cases he
  obtain ⟨b, o, cs, h1, h2, h3, h4, h5⟩ := hi i x hx
  exact ⟨b, o, cs, h1, h2, h3, k.k.row h2 h4, h5⟩

section op
variable {C : Cx} {ops : Array Oper} {K : KK} {dr : Bool} {I : Heap → Prop} {rest : List Oper} {ρ : Env} {h : Heap} {d : Nat} {ty : TypeId} {pos : String} {aft : Array Edge}

theorem a1 {x : Operand} {v : Value} (h1 : ev ρ x = some v) : (#[x] : Array Operand).toList.map (ev ρ) = [v].map some := by simp [h1]
theorem a2 {x y : Operand} {v u : Value} (h1 : ev ρ x = some v) (h2 : ev ρ y = some u) : (#[x, y] : Array Operand).toList.map (ev ρ) = [v, u].map some := by simp [h1, h2]
theorem a3 {x y z : Operand} {v u t : Value} (h1 : ev ρ x = some v) (h2 : ev ρ y = some u) (h3 : ev ρ z = some t) : (#[x, y, z] : Array Operand).toList.map (ev ρ) = [v, u, t].map some := by simp [h1, h2, h3]
theorem bytesRow_row (l : List UInt8) (cap : Nat) : ∀ (j : Nat) v, (bcells l)[j]? = some v → (bytesRow ⟨l.toArray⟩ cap)[j]? = some v := by
  intro j v hv
  have hj : j < l.length := by have := (List.getElem?_eq_some_iff.1 hv).1; simpa [bcells] using this
  unfold bytesRow
  rw [Array.getElem?_append_left (by simpa using hj)]
  simp only [bcells, List.getElem?_map] at hv
  simpa using hv
/-- a text's bytes, in new memory -/
theorem cvb {x : Operand} {s t e : TypeId} {l : List UInt8} [hs : UT C.P s .string] [ht : UT C.P t (.slice e)] [he : UT C.P e (.int .u8)] (hx : ev ρ x = some (str l)) (hN : Nat.blt d C.N = true)
    (k : ∀ (c : Nat) h', Ext h h' → rowAt h' h.size 0 (bcells l) → SO C ops K false I rest ((d, .slice (some ⟨h.size, 0, none⟩) l.length c) :: ρ) h') :
    SO C ops K false I (⟨some d, .convert s t x, ty, pos, aft, none⟩ :: rest) ρ h :=
  o_act (R := fun v h' => ∃ c : Nat, v = .slice (some ⟨h.size, 0, none⟩) l.length c ∧ Ext h h' ∧ rowAt h' h.size 0 (bcells l)) rfl (fun e => by cases e) (fun d' e => by cases e; exact hN)
    (fun a w K' ha hh hw hk => by
      subst hh
      have hr := run_bytes_of_string w s t e ⟨l.toArray⟩ hs.eq ht.eq he.eq
      unfold Loud
      simp only [execOp, ha.ev hx, Sem.run_bind, hr, Result.andThen_ok]
      refine hk _ _ ⟨hw.os, hw.tape, hw.output⟩ ⟨_, rfl, (New.push w.heap _).ext, ?_⟩
      have hat := (New.push w.heap (.cells (bytesRow ⟨l.toArray⟩ (grownCap w (ByteArray.mk l.toArray).size 0 e)) e ((bytesRow ⟨l.toArray⟩ (grownCap w (ByteArray.mk l.toArray).size 0 e)).size, (bytesRow ⟨l.toArray⟩ (grownCap w (ByteArray.mk l.toArray).size 0 e)).size + 1))).at_
      intro j v hv
      have := cellAt_blk (o := 0 + j) hat
      refine Eq.trans this ?_
      rw [Nat.zero_add]
      exact bytesRow_row l _ j v hv)
    (fun e => by cases e) (fun v h' ⟨c, hv, h1, h2⟩ => by rw [hv]; exact k c h' h1 h2)
theorem clfp {g : Operand} {args : Array Operand} {ats : Array TypeId} {f : Nat} {us vs : List Value} {v : Value} (hg : ev ρ g = some (.func (.func f) ([] : List Value).toArray us.toArray)) (hp : args.toList.map (ev ρ) = vs.map some)
    (hf : Does C.P f (vs ++ us) h (fun v' h' => h' = h ∧ v' = v)) (hN : Nat.blt d C.N = true) (k : SO C ops K false I rest ((d, v) :: ρ) h) :
    SO C ops K false I (⟨some d, .call { callee := .value g, args := args, argTypes := ats }, ty, pos, aft, none⟩ :: rest) ρ h :=
  cll (first := []) hg hp hf hN nofun (fun v' h' ⟨e1, e2⟩ => by rw [e1, e2]; exact k)
end op
end Go.Eng
