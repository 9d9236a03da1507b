/- The walks of the reference's trimmer. No condition but what each theorem says. -/
import Derived.Test.YtgnkfegkdjfnjaaGreatIfb1
namespace Go.Proofs.YtgnkfegkdjfnjaaGreat
open Go Go.Eng

def plCells (P : Nat → Nat) (n : Nat) : List Value := (List.range n).map (fun i => i64 (P i : Int))
theorem pl_at (P : Nat → Nat) {n : Nat} {a : Int} (h : 0 ≤ a ∧ a < n) : (plCells P n)[a.toNat]? = some (i64 (P a.toNat : Int)) := by
  unfold plCells; rw [List.getElem?_map, List.getElem?_range (by omega)]; rfl
theorem pl_set (P : Nat → Nat) {n a v : Nat} : (plCells P n).set a (i64 (v : Int)) = plCells (putP P a v) n := by
  refine List.ext_getElem? fun j => ?_
  unfold plCells
  by_cases hj : j < n
  · rw [List.getElem?_map, List.getElem?_range hj]
    by_cases e : a = j
    · subst e; rw [List.getElem?_set_self (by simpa using hj)]; simp [putP]
    · rw [List.getElem?_set_ne e, List.getElem?_map, List.getElem?_range hj]; simp [putP_ne _ _ (Ne.symm e)]
  · rw [List.getElem?_eq_none (by simp; omega), List.getElem?_eq_none (by simp; omega)]
structure RCtx (t : List Ty) (N : Nat) (h0 : Heap) (m bp : Nat) (vt : Value) : Prop where
  old : TypesAt N h0 vt t
  len : t.length ≤ 256
  size : ∀ x ∈ t, x.fields.length ≤ 64 ∧ x.params.length ≤ 64
  refs : RefsIn t
  m_ : N ≤ m
  bp_ : N ≤ bp
  ne : m ≠ bp
section
variable {t : List Ty} {N : Nat} {h0 : Heap} {m bp : Nat} {vt : Value} {s1 s : VS} {hS g g' : Heap} {voS vo : Value}
end
section
variable (t : List Ty) (N : Nat) (h0 : Heap) (m bp : Nat) (vt : Value)
end
end Go.Proofs.YtgnkfegkdjfnjaaGreat
