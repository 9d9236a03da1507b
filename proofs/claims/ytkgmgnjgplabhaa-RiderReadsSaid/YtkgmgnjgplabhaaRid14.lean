/- A slice of things, opened to cells; the law RiderBack's walk at the row's argument. No condition but what each theorem says. -/
import Derived.Test.YtkgmgnjgplabhaaEng6
import Derived.Test.YtkgmgnjgplabhaaRid13
import Derived.RowKit2
namespace Go.Proofs.Ytkgmgnjgplabhaa
open Go Go.Eng Go.WideShapes Go.ChangeShapes

def vint : Option Value → Int
  | some (.int _ n) => n
  | _ => 0
def vstr : Option Value → List UInt8
  | some (.string s) => s.data.toList
  | _ => []
def itemOf (h : Heap) (b o i : Nat) : Item := ⟨vint (cellAt h b (o + i * 3 + 0)), vint (cellAt h b (o + i * 3 + 1)), vstr (cellAt h b (o + i * 3 + 2))⟩
theorem items_open {H : Type} {enc : TypeId × Value → H} {W : World} {base : Nat} {spare : Nat → Bool} {held : Bool} {r : Reach} {b0 : Nat} {v : Value} {d : DataW H} {ps : List MemPlace}
    (hval : Value.okWide Try.prog W r b0 33 v) (h : DataW.Trod enc Try.prog W base spare held 33 v d ps) :
    ∃ a xs c, v = .slice a (List.length (α := Item) xs) c ∧ ItemsAt W.heap a xs := by
  have hv : v.cells = #[v] := by
    unfold Value.okWide at hval
    rw [Try.underlying33] at hval
    simp only at hval
    cases v <;> first | rfl | (simp [Cell.okWide, Cell.ok, Try.underlying33] at hval)
  have hC : Try.prog.cellsOf 39 = 3 := by kernel_rfl
  obtain ⟨a, len, cap, rfl, hl, hm, hn, hi⟩ := open_elems Try.underlying33 (by rw [hC]; decide) hv h
  rw [hC] at hi
  cases len with
  | zero => exact ⟨a, [], cap, rfl, fun i x hx => by simp at hx⟩
  | succ m =>
    obtain ⟨b, o, -, -, rfl, -⟩ := hi 0 (by omega)
    refine ⟨some ⟨b, o, none⟩, (List.range (m + 1)).map (itemOf W.heap b o), cap, by simp, fun i x hx => ?_⟩
    rw [List.getElem?_map] at hx
    obtain ⟨k, hk, rfl⟩ := Option.map_eq_some_iff.1 hx
    obtain ⟨hil, rfl⟩ := List.getElem?_eq_some_iff.1 hk
    simp only [List.length_range] at hil
    simp only [List.getElem_range]
    obtain ⟨b', o', n, y, he, hb, cs, hlen, hcs, htr⟩ := hi i hil
    cases he
    obtain ⟨ys, n', -, hy, -, hyl, hf⟩ := DataW.trod_struct Try.underlying39 htr
    have f0 := hf 0 _ rfl
    have f1 := hf 1 _ rfl
    have f2 := hf 2 _ rfl
    have g0 := hcs 0 (by omega)
    have g1 := hcs 1 (by omega)
    have g2 := hcs 2 (by omega)
    match cs, hlen with
    | [c0, c1, c2], _ =>
      match ys, hyl with
      | [y0, y1, y2], _ =>
        obtain ⟨n0, e0, -, -⟩ := DataW.trod_int Try.underlying3 f0
        obtain ⟨n1, e1, -, w1⟩ := DataW.trod_int Try.underlying3 f1
        obtain ⟨s2, e2, -, -⟩ := DataW.trod_string Try.underlying9 f2
        have k1 : Try.prog.cellsOf 3 = 1 := by kernel_rfl
        have k2 : Try.prog.cellsOf 9 = 1 := by kernel_rfl
        simp [k1] at e0
        simp [k1] at e1
        simp [k2] at e2
        subst e0 e1 e2
        simp only [List.getElem?_cons_zero, List.getElem?_cons_succ] at g0 g1 g2
        refine ⟨?_, b, o, rfl, hb, ?_, ?_, ?_⟩
        · simp only [itemOf, g1, vint]; exact int_fits w1
        · simp only [itemOf, g0, vint]
        · simp only [itemOf, g1, vint]
        · simp only [itemOf, g2, vstr]
end Go.Proofs.Ytkgmgnjgplabhaa
