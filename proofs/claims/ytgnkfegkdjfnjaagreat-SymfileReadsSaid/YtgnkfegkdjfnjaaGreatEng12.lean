/- The engine, part 12: rules by which a function of the program is walked. No condition. -/
import Derived.Test.YtgnkfegkdjfnjaaGreatEng11
import Derived.Laws.MakeOwn
namespace Go.Eng
/-- an element type of one cell, an int -/
class EI (P : Program) (e : TypeId) : Prop where
  out : ∃ i, P.info? e = some i ∧ i.zero = some (i64 0) ∧ i.size = 1 ∧ i.bytes = 8
theorem ei_of {P : Program} {e : TypeId} (hi : (P.info? e).map (fun i => (i.zero, i.size, i.bytes)) = some (some (i64 0), 1, 8)) : EI P e := by
  cases h : P.info? e with
  | none => rw [h] at hi; cases hi
  | some i =>
    rw [h] at hi
    simp only [Option.map_some, Option.some.injEq, Prod.mk.injEq] at hi
    exact ⟨⟨i, h, hi.1, hi.2.1, hi.2.2⟩⟩
theorem made_ints (n : Nat) : madeCells (i64 0).cells n = (List.replicate n (i64 0)).toArray := by
  have h1 : (i64 0).cells = #[i64 0] := rfl
  rw [h1]
  apply Array.ext
  · simp [madeCells]
  · intro i h1 h2
    simp [madeCells]
    rw [Nat.mod_one]; rfl
section op
variable {C : Cx} {ops : Array Oper} {K : KK} {dr : Bool} {I : Heap → Prop} {rest : List Oper} {ρ : Env} {h : Heap} {d : Nat} {ty : TypeId} {pos : String} {aft : Array Edge}
theorem mks {T E : TypeId} {x y : Operand} {n : Nat} [hT : UT C.P T (.slice E)] [hE : EI C.P E] (hx : ev ρ x = some (i64 (n : Nat))) (hy : ev ρ y = some (i64 (n : Nat))) (hn : n ≤ 1000000)
    (hI : dr = true → ∀ h', New h (.cells (List.replicate n (i64 0)).toArray E) h' → I h') (hN : Nat.blt d C.N = true)
    (k : ∀ h', New h (.cells (List.replicate n (i64 0)).toArray E) h' → SO C ops K dr I rest ((d, .slice (some ⟨h.size, 0, none⟩) n n) :: ρ) h') :
    SO C ops K dr I (⟨some d, .makeSlice T x y, ty, pos, aft, none⟩ :: rest) ρ h :=
  o_new rfl rfl rfl hN (fun a w ha hh => by
    subst hh
    obtain ⟨i, hi, hz, hs, hb⟩ := hE.out
    simp only [execOp, ha.ev hx, ha.ev hy]
    refine ex_v ?_
    have r := run_makeSlice (P := C.P) w T E i (i64 0) hT.eq hi hz .i64 .i64 (n : Int) (n : Int) (by omega) (Int.le_refl _) (by rw [hs]; omega) (by rw [hb]; omega) (by omega)
    rw [hs, Nat.mul_one, Int.toNat_natCast, made_ints] at r
    exact r) hI k
end op
end Go.Eng
