/- The engine, part 5: rules by which a function of the program is walked. No condition. -/
import Derived.Test.YtgnkfegkdjfnjaaGreatEng4
import Derived.ChangeSame
import Derived.RowKit2
namespace Go.Eng
open Go.WideShapes Go.ChangeShapes

/-- the world grew: of what was there nothing turned -/
structure Grow (w w' : World) : Prop where
  os : w'.os = w.os
  output : w'.output = w.output
  x : Ext w.heap w'.heap
theorem Grow.kept {w w' : World} (g : Grow w w') (may : MemPlace → Prop) : w.keptBut w' may := by
  refine ⟨g.os, g.output, fun i hi => ?_⟩
  rw [g.x.same i hi (fun e => e)]
  split
  · rename_i c t fr c' t' fr' h1 h2
    rw [h1] at h2; cases h2
    exact ⟨rfl, rfl, rfl, fun _ _ => rfl⟩
  · rename_i es c es' c' h1 h2
    rw [h1] at h2; cases h2
    exact .inr ⟨rfl, rfl⟩
  · rfl
theorem Grow.frozen {w w' : World} (g : Grow w w') {a : Addr} (ha : a.block < w.heap.size) : w'.frozen? a = w.frozen? a := by
  simp only [World.frozen?, g.x.same a.block ha (fun e => e)]

/-- a law that reads its arguments and leaves them leaves what the row asks -/
theorem post_grow {H : Type} {enc : TypeId × Value → H} {P : Program} {f : Func} {s : ChangeSpec} {apart fresh handsOn again : Bool} {W W' : World} {args : Array Value} {v : Value} {ds gs : List (DataW H)} {before : List MemPlace}
    (hW : DataW.Whole enc P f.params.toList s.vars apart W args.toList ds gs before)
    (hres : ∀ (b : Nat) (sp : Nat → Bool) (hd : Bool), DataW.TrodAll enc P W' b sp hd f.resultTypes.toList (v.resultList f.resultTypes.size) (s.fn H (ds ++ gs)).results [])
    (hargs : ∀ sp : Nat → Bool, (∀ p ∈ before, sp p.block = true) → DataW.TrodAll enc P W' 0 sp true f.params.toList args.toList (s.fn H (ds ++ gs)).args before)
    (hvars : s.vars = []) (hv2 : (s.fn H (ds ++ gs)).vars = []) (g : Grow W W')
    (hok : ∀ (j : Nat) (t : TypeId) (r : Value), f.resultTypes[j]? = some t → (v.resultList f.resultTypes.size)[j]? = some r → Value.okWide P W' .any 0 t r) :
    s.post enc P f apart fresh handsOn again W args v W' := by
  have hlt := hW.lt
  have hold : ∀ p ∈ before, (fun b => decide (b < W.heap.size)) p.block = true := fun p hp => by simpa using hlt p hp
  have hvs : ∀ sp : Nat → Bool, DataW.TrodVars enc P W' sp s.vars (s.fn H (ds ++ gs)).vars [] := fun sp => by rw [hvars, hv2]; exact rfl
  refine ⟨ds, gs, before, [], before, [], hW, hres _ _ _, hargs _ hold, hvs _, g.kept _, fun _ => ?_⟩
  obtain ⟨_, _, _, _, _, hz, hn⟩ := hW
  refine ⟨hok, _, _, ([] ++ before) ++ [], ⟨[] ++ before, [], trodAll_append (hargs _ (fun _ _ => rfl)) (hres _ _ _), hvs _, rfl, ?_, ?_⟩, ?_⟩
  · intro b off hp
    have hp' : MemPlace.cell b off ∈ before := by simpa using hp
    rw [g.frozen (hlt _ hp')]
    exact hz b off hp'
  · intro ha; simpa using hn ha
  · intro p hp _; simpa using hp

theorem Does.grow {P : Program} {f : Nat} {args : List Value} {w : World} {v0 : Value} (hf : Does P f args w.heap (fun v h' => v = v0 ∧ Ext w.heap h')) :
    Calls P f args.toArray w (fun e w' => e = .returned v0 ∧ Grow w w') :=
  (hf.2 w rfl).mono fun _ _ ⟨_, he, ha, hr⟩ => ⟨by rw [he, hr.1], ha.os, ha.output, hr.2⟩
theorem str_bytes (a : ByteArray) : Value.string a = str a.data.toList := by cases a; rfl
theorem int_fits {n : Int} (h : (Lit.int .i64 n).wf = true) : -9223372036854775808 ≤ n ∧ n ≤ 9223372036854775807 := by
  have h1 : IntKind.i64.min = -9223372036854775808 := by decide
  have h2 : IntKind.i64.max = 9223372036854775807 := by decide
  simp [Lit.wf, h1, h2] at h; omega
end Go.Eng
