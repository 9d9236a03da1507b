/- The walk of the reference's trim. No condition but what each theorem says. -/
import Derived.Test.YtgnkfegkdjfnjaaGreatIfb8
import Derived.Test.YtgnkfegkdjfnjaaGreatIfb9
namespace Go.Proofs.YtgnkfegkdjfnjaaGreat
open Go Go.Eng

theorem TysO.at_ {B : Nat → Prop} {β : Nat → Nat} {N : Nat} {h : Heap} {v : Value} {xs : List Ty} (a : TysO B β h v xs) (hl : ∀ x ∈ xs, x.fields.length ≤ maxLen ∧ x.params.length ≤ maxLen) (hx : xs.length ≤ maxLen) (hB : ∀ b, B b → b < N) : TypesAt N h v xs := by
  have o := a.own_ hl
  refine OwnS.at_ (R := tyR N) (OwnS.mono o.own (Go.Eng.Mod.refl (fun _ => False) h) (fun _ _ e => e) (fun x cs r => ?_)) hx (fun k e => hB k (a.low k e))
  obtain ⟨hf, vf, vp, hc, h1, h2⟩ := r
  exact ⟨hf, vf, vp, hc, h1.at_ (fun b _ e => hB b e.2), h2.at_ (fun b _ e => hB b e.2)⟩
theorem tyB_bare {N : Nat} {B : Nat → Prop} {h h' : Heap} {x : Ty} {cs : List Value} (a : tyR N h x cs) (h1 : x.fields = []) (h2 : x.params = []) : TyB B h' x cs := by
  obtain ⟨hf, vf, vp, hc, hF, hP⟩ := a
  rw [h1] at hF
  rw [h2] at hP
  obtain ⟨af, cf, rfl⟩ := hF.form
  obtain ⟨ap, cp, rfl⟩ := hP.form
  exact ⟨hf, _, _, hc, by rw [h1]; exact ⟨Nat.zero_le _, af, cf, rfl, fun i x e => by simp at e⟩, by rw [h2]; exact ⟨Nat.zero_le _, ap, cp, rfl, fun i x e => by simp at e⟩⟩
theorem bare_eq {x : Ty} {j : Int} (hb : BareP x j) : x = basicTy j := by
  obtain ⟨⟨⟨⟨⟨⟨⟨⟨⟨e1, e2⟩, e3⟩, e4⟩, e5⟩, e6⟩, e7⟩, e8⟩, e9⟩, e10⟩ := hb
  have e9 : x.fields = [] := List.length_eq_zero_iff.1 (by omega)
  have e10 : x.params = [] := List.length_eq_zero_iff.1 (by omega)
  obtain ⟨x1, x2, x3, x4, x5, x6, x7, x8, x9, x10⟩ := x
  simp only at e1 e2 e3 e4 e5 e6 e7 e8 e9 e10
  rw [e1, e2, e3, e4, e5, e6, e7, e8, e9, e10]; rfl
theorem take7 {t : List Ty} {S : VS} (hT : Trims t S) : t.take 7 = basic := by
  have hl := hT.len
  refine List.ext_getElem? fun j => ?_
  by_cases hj : j < 7
  · rw [List.getElem?_take_of_lt hj]
    have hx : t[j]? = some (t[j]'(by omega)) := List.getElem?_eq_getElem _
    rw [basic_at (by omega), hx, bare_eq (bare_at hT (by omega) hx)]
  · rw [List.getElem?_eq_none (by simp; omega), List.getElem?_eq_none (by simp [basic]; omega)]
theorem tyR_ones {N : Nat} {h : Heap} : ∀ (x : Ty) cs, tyR N h x cs → ∀ u ∈ cs, u.oneCell' = true := by
  intro x cs ⟨_, vf, vp, hc, hF, hP⟩
  obtain ⟨af, cf, rfl⟩ := hF.form
  obtain ⟨ap, cp, rfl⟩ := hP.form
  subst hc
  exact tyCells_ones rfl rfl
theorem basic_nil : ∀ x ∈ basic, x.fields = [] ∧ x.params = [] := by simp [basic, basicTy]
theorem own_cap {h : Heap} {E sz n cap g : Nat} {xs : List Value} (o : Owns h E sz (.slice (some ⟨g, 0, none⟩) n cap) n xs) : n ≤ cap := by
  rcases o.2 with ⟨e, _⟩ | ⟨g', cap', cur, e, hg, h1, -⟩
  · cases e
  · cases e; exact h1
theorem imp_low {t : List Ty} {name : Bytes} (hN : NodesP t) {i : Nat} (hi : i ≤ 7) : ∀ x ∈ t.take i, x.form = 9 → x.mod ≠ name → 0 ≤ x.desc := by
  intro x hx h9
  obtain ⟨j, hj⟩ := List.mem_iff_getElem?.1 hx
  have hjl := (List.getElem?_eq_some_iff.1 hj).1
  rw [List.length_take] at hjl
  rw [List.getElem?_take_of_lt (by omega)] at hj
  rcases hN j x hj with ⟨h6, hb⟩ | ⟨h6, -⟩
  · have hf : x.form = j := hb.1.1.1.1.1.1.1.1.1
    omega
  · omega
end Go.Proofs.YtgnkfegkdjfnjaaGreat
