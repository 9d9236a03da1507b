/- The engine, part 6: rules by which a function of the program is walked. No condition. -/
import Derived.Test.YtgnkfegkdjfnjaaGreatEng5
import Derived.WideKeyArgs
import Derived.Deep.Slices
import Derived.Deep.Fields
import Derived.ChangeArms
namespace Go.Eng
open Go.WideShapes Go.ChangeShapes Go.Deep

section
variable {H : Type} {enc : TypeId × Value → H} {P : Program} {base : Nat}
theorem Grow.same {W W' : World} (g : Grow W W') {p : MemPlace} (hp : p.block < W.heap.size) : W.sameAt W' p := by
  cases p with
  | cell b o => simp only [World.sameAt, World.cell?, g.x.same b hp (fun e => e)]
  | map b => exact g.x.same b hp (fun e => e)
/-- an argument reads as it read -/
theorem Grow.stays {t : TypeId} (hl : laidOutB P = true) (hr : P.readableRec t = true) (hrow : t < P.types.size) {W W' : World} (g : Grow W W') {sp : Nat → Bool} {v : Value} {d : DataW H} {ps : List MemPlace}
    (h : DataW.Trod enc P W base (fun _ => true) true t v d ps) (hlt : ∀ p ∈ ps, p.block < W.heap.size) (hs : ∀ p ∈ ps, sp p.block = true) : DataW.Trod enc P W' base sp true t v d ps :=
  WideElems.Trod_stays hl hr hrow h (fun p hp => g.same (hlt p hp)) hs

theorem cell_at {w : World} {a : Addr} {v : Value} (h : w.cell? a = some v) : a.spot = none ∧ a.block < w.heap.size ∧ cellAt w.heap a.block a.off = some v := by
  unfold World.cell? at h
  unfold cellAt
  cases hb : w.heap[a.block]? with
  | none => rw [hb] at h; cases h
  | some o =>
    rw [hb] at h
    cases o with
    | cells c t fr =>
      simp only at h ⊢
      cases hs : a.spot with
      | none => rw [hs] at h; exact ⟨rfl, lt_of_get hb, by simpa using h⟩
      | some k => rw [hs] at h; simp at h
    | map _ _ => cases h
    | _ => cases h
/-- a slice's elements, by cells -/
theorem open_elems {W : World} {spare : Nat → Bool} {held : Bool} {t e : TypeId} {v : Value} {d : DataW H} {ps : List MemPlace} (ht : P.underlying t = some (.slice e)) (hC : 0 < P.cellsOf e)
    (hv : v.cells = #[v]) (h : DataW.Trod enc P W base spare held t v d ps) :
    ∃ (a : Option Addr) (len cap : Nat), v = .slice a len cap ∧ len ≤ cap ∧ cap ≤ maxLen ∧ (a = none → len = 0 ∧ cap = 0) ∧ ∀ i, i < len → ∃ b o n x, a = some ⟨b, o, none⟩ ∧ b < W.heap.size ∧ ∃ cs : List Value, cs.length = P.cellsOf e ∧
      (∀ j, j < P.cellsOf e → cellAt W.heap b (o + i * P.cellsOf e + j) = cs[j]?) ∧ DataW.trod enc P W base spare held n e cs = some x := by
  obtain ⟨fuel, hf⟩ := h
  rw [hv] at hf
  rcases open_slice ht hf with ⟨h0, -⟩ | ⟨a, len, cap, m, n, D, Pl, hcs, hb, hl, hm, hmm, hx, hi⟩
  · simp at h0; subst h0
    exact ⟨none, 0, 0, rfl, Nat.le_refl _, by decide, fun _ => ⟨rfl, rfl⟩, fun i hi => by omega⟩
  · simp at hcs; subst hcs
    refine ⟨some a, len, cap, rfl, hl, hm, nofun, fun i hil => ?_⟩
    have hml : len ≤ m := by rw [hmm]; split <;> omega
    have hsp : a.spot = none ∧ a.block < W.heap.size := by
      obtain ⟨cs0, hc0, -⟩ := hi 0 (by omega)
      obtain ⟨_, hl0, hat0⟩ := World.cells?_some hc0
      have h0 := hat0 0 hC
      rw [add_add] at h0
      have hv0 : cs0[0]? = some cs0[0] := List.getElem?_eq_getElem (by omega)
      rw [hv0] at h0
      have := cell_at h0
      simp [Addr.add] at this
      exact ⟨this.1, this.2.1⟩
    obtain ⟨cs, hc, htr⟩ := hi i (by omega)
    obtain ⟨_, hl1, hat⟩ := World.cells?_some hc
    obtain ⟨ab, ao, as⟩ := a
    simp only at hsp
    obtain ⟨rfl, hlt⟩ := hsp
    refine ⟨ab, ao, n, _, rfl, hlt, cs, hl1, fun j hj => ?_, htr⟩
    have := hat j hj
    rw [add_add, add_eq, cell_eq] at this
    rw [← this, Nat.add_assoc]
end
end Go.Eng
