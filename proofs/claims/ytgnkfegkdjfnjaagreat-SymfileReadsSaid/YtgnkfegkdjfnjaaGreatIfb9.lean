/- The copies of types and interfaces, in blocks apart. No condition but what each theorem says. -/
import Derived.Test.YtgnkfegkdjfnjaaGreatIfb1
namespace Go.Proofs.YtgnkfegkdjfnjaaGreat
open Go Go.Eng

/-- a type's row, its number and its lists in blocks of their own (β tells whose a block is) -/
def TyO (B : Nat → Prop) (β : Nat → Nat) (v : Value) (h : Heap) (p : Ty × Nat) (cs : List Value) : Prop := p.1.fits ∧ ∃ vf vp, cs = tyCells p.1 vf vp ∧ OwnS h 86 3 (fldR h) vf p.1.fields ∧ OwnS h 88 2 (parR h) vp p.1.params ∧
  (∀ b, ownB vf b → β b = 2 * p.2 ∧ B b ∧ ¬ ownB v b) ∧ ∀ b, ownB vp b → β b = 2 * p.2 + 1 ∧ B b ∧ ¬ ownB v b
theorem TyO.mod {B B' : Nat → Prop} {β β' : Nat → Nat} {v v' : Value} {S : Nat → Prop} {h h' : Heap} {p : Ty × Nat} {cs : List Value} (a : TyO B β v h p cs) (m : Go.Eng.Mod S h h') (hS : ∀ b, b < h.size → B b → ¬ ownB v b → (β b = 2 * p.2 ∨ β b = 2 * p.2 + 1) → ¬ S b ∧ β' b = β b ∧ ¬ ownB v' b ∧ B' b) : TyO B' β' v' h' p cs := by
  obtain ⟨hf, vf, vp, hc, h1, h2, h3, h4⟩ := a
  have l1 : ∀ b, ownB vf b → b < h.size := by obtain ⟨_, o⟩ := h1.own; exact o.lt
  have l2 : ∀ b, ownB vp b → b < h.size := by obtain ⟨_, o⟩ := h2.own; exact o.lt
  refine ⟨hf, vf, vp, hc, OwnS.mono h1 m (fun b e => (hS b (l1 b e) (h3 b e).2.1 (h3 b e).2.2 (.inl (h3 b e).1)).1) (fun _ _ r => r), OwnS.mono h2 m (fun b e => (hS b (l2 b e) (h4 b e).2.1 (h4 b e).2.2 (.inr (h4 b e).1)).1) (fun _ _ r => r), fun b e => ?_, fun b e => ?_⟩
  · obtain ⟨k1, k2, k3⟩ := h3 b e
    obtain ⟨-, g2, g3, g4⟩ := hS b (l1 b e) k2 k3 (.inl k1)
    exact ⟨by rw [g2]; exact k1, g4, g3⟩
  · obtain ⟨k1, k2, k3⟩ := h4 b e
    obtain ⟨-, g2, g3, g4⟩ := hS b (l2 b e) k2 k3 (.inr k1)
    exact ⟨by rw [g2]; exact k1, g4, g3⟩
structure TysO (B : Nat → Prop) (β : Nat → Nat) (h : Heap) (v : Value) (xs : List Ty) : Prop where
  own : OwnS h 52 10 (TyO B β v h) v xs.zipIdx
  low : ∀ b, ownB v b → B b
theorem TysO.lt {B : Nat → Prop} {β : Nat → Nat} {h : Heap} {v : Value} {xs : List Ty} (a : TysO B β h v xs) : ∀ b, ownB v b → b < h.size := by
  obtain ⟨_, o⟩ := a.own.own; exact o.lt
theorem TysO.mod {B B' : Nat → Prop} {β : Nat → Nat} {S : Nat → Prop} {h h' : Heap} {v : Value} {xs : List Ty} (a : TysO B β h v xs) (m : Go.Eng.Mod S h h') (hS : ∀ b, b < h.size → B b → ¬ S b ∧ B' b) : TysO B' β h' v xs :=
  ⟨OwnS.mono a.own m (fun b e => (hS b (a.lt b e) (a.low b e)).1) (fun _ _ r => r.mod m (fun b h1 h2 h3 _ => ⟨(hS b h1 h2).1, rfl, h3, (hS b h1 h2).2⟩)), fun b e => (hS b (a.lt b e) (a.low b e)).2⟩
theorem TyO.tyB {B : Nat → Prop} {β : Nat → Nat} {v : Value} {h : Heap} {p : Ty × Nat} {cs : List Value} (a : TyO B β v h p cs) (hl : p.1.fields.length ≤ maxLen ∧ p.1.params.length ≤ maxLen) : TyB (fun b => ¬ ownB v b ∧ B b) h p.1 cs := by
  obtain ⟨hf, vf, vp, hc, h1, h2, h3, h4⟩ := a
  exact ⟨hf, vf, vp, hc, h1.sliceB hl.1 (fun b e => ⟨(h3 b e).2.2, (h3 b e).2.1⟩), h2.sliceB hl.2 (fun b e => ⟨(h4 b e).2.2, (h4 b e).2.1⟩)⟩
theorem TysO.own_ {B : Nat → Prop} {β : Nat → Nat} {h : Heap} {v : Value} {xs : List Ty} (a : TysO B β h v xs) (hl : ∀ x ∈ xs, x.fields.length ≤ maxLen ∧ x.params.length ≤ maxLen) : TysOwn B h v xs := by
  obtain ⟨css, o, h1, h2, h3⟩ := a.own
  have hlen : xs.zipIdx.length = xs.length := List.length_zipIdx
  refine ⟨⟨css, by rw [hlen] at o; exact o, by omega, h2, fun i x cs hx hc => ?_⟩, a.low⟩
  have := h3 i (x, i) cs (by rw [List.getElem?_zipIdx, hx]; simp) hc
  exact this.tyB (hl x (List.mem_of_getElem? hx))

/-- an interface in blocks of its own, each list apart -/
def FaceO (N : Nat) (h : Heap) (v : Value) (f : Face) : Prop := ∃ vu vt vo β M, ∃ T : Nat → Prop, v = .agg #[str f.name, .int .u32 f.key, vu, vt, vo] ∧ TysO T β h vt f.types ∧ OwnS h 48 2 (usedR h) vu f.uses ∧ OwnS h 58 7 (objR h) vo f.objs ∧
  (∀ b, T b → N ≤ b ∧ ¬ ownB vu b ∧ ¬ ownB vo b) ∧ (∀ b, ownB vu b → N ≤ b ∧ ¬ ownB vo b) ∧ (∀ b, ownB vo b → N ≤ b ∧ M ≤ b) ∧ (∀ b, T b → b < M) ∧ N ≤ M ∧ M ≤ h.size
end Go.Proofs.YtgnkfegkdjfnjaaGreat
