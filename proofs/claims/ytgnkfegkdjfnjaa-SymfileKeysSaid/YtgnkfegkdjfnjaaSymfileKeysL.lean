/- The statement SymfileKeys. No condition but what the statement says. -/
import Derived.Test.YtgnkfegkdjfnjaaRows
import Derived.WalkKit
import Derived.ProofKit
import Derived.SizedLaws
import Derived.OpenShut
import Derived.ShutString
import Derived.Test.YtgnkfegkdjfnjaaEng6
import Derived.Test.YtgnkfegkdjfnjaaSdf
namespace Go.Proofs.Ytgnkfegkdjfnjaa.symfileKeys
open Go.Eng Go.ChangeShapes Go.WideShapes Go.ChangeAt Go.RowKit
open Go.ChangeMaps (open_string shut_string)
set_option linter.unusedVariables false

theorem own : ownKnob Try.prog.godebug = none := by kernel_rfl
theorem hlay : laidOutB Try.prog = true := by kernel_rfl

set_option maxRecDepth 100000 in
theorem lifted (os : Os) (started : os.Started) (H : Type) (enc : TypeId × Value → H) :
    ReturnsInHanded {} Try.checked os 13 .any (Rows.symfileKeysSpec.pre6 enc Try.prog Try.f13 Rows.symfileKeysRow.domain false) (Rows.symfileKeysSpec.post enc Try.prog Try.f13 false true false false) := by
  refine returnsInHanded_of_change_sized (C := Try.checked) own started (by kernel_rfl) Try.func13
    (ChangeSpec.witness6 (enc := enc) (C := Try.checked) false ⟨#[], #[.agg #[.string ByteArray.empty, .int .u32 0, .slice none 0 0, .slice none 0 0, .slice none 0 0], .int .u32 0], []⟩ 8 (by kernel_rfl) (by kernel_rfl) (by kernel_rfl) (by kernel_rfl)) ?_
  intro W base args ds gs before hval0 hW hcnd hsz _
  have hval : ∀ (j : Nat) t v, Try.f13.params[j]? = some t → args[j]? = some v → Value.okWide Try.prog W .any base t v := hval0
  have hW' := hW
  obtain ⟨p, q, hA0, hV, rfl, hfz, hnd⟩ := hW
  have hA : DataW.TrodAll enc Try.prog W 0 (fun _ => true) true Try.f13.params.toList args.toList ds p := hA0
  rw [Try.params13] at hA hval
  obtain ⟨v0, vs0, d0, ds0, p0, q0, hargs, rfl, rfl, h0, r0⟩ := trodAll_cons hA
  obtain ⟨v1, vs1, d1, ds1, p1, q1, rfl, rfl, rfl, h1, r1⟩ := trodAll_cons r0
  obtain ⟨rfl, rfl, rfl⟩ := trodAll_nil r1
  obtain rfl : args = #[v0, v1] := by cases args; simp_all
  obtain ⟨rfl, rfl⟩ := trodVars_none hV
  have o0 := hval 0 27 v0 rfl rfl
  have z0 : Sz Try.prog 27 d0 := sz_each hsz (j := 0) (by kernel_rfl) rfl
  have o1 := hval 1 22 v1 rfl rfl
  have z1 : Sz Try.prog 22 d1 := sz_each hsz (j := 1) (by kernel_rfl) rfl
  obtain ⟨a1, rfl, rfl, rfl, w1⟩ := open_int Try.underlying22 o1 h1
  clear hA0 hval0
  have hlt := hW'.lt
  have walk : Calls Try.prog 13 #[v0, .int .u32 a1] W (fun e W' => e = .returned (.bool true) ∧ Grow W W') := by
    obtain ⟨f, hF, hS⟩ := face_open h0 z0
    exact (keysL_fn hF hS (by have := bounds_u32 w1; unfold inU32; omega)).grow
  refine walk.mono fun e W' ⟨he, hg⟩ => ?_
  subst he
  exact ⟨_, rfl, post_grow hW' (fun _ _ _ => (trodAll_cons_mk (shut_bool Try.underlying4 _) trodAll_mk0)) (fun sp hsp => by
    have := (trodAll_cons_mk (hg.stays hlay (by kernel_rfl) (of_decide_eq_true (by kernel_rfl)) h0 (fun x hx => hlt x (by simp [hx])) (fun x hx => hsp x (by simp [hx]))) (trodAll_cons_mk (shut_int Try.underlying22 w1) trodAll_mk0))
    show DataW.TrodAll enc Try.prog W' 0 sp true [27, 22] [v0, .int .u32 a1] [d0, .lit (.int .u32 a1)] _
    simpa using this
    ) rfl rfl hg (ok_one (by kernel_rfl) rfl (okWide_bool_mk Try.underlying4 _))⟩

theorem over : Rows.symfileKeysRow.holds Try.pinned (OpenSpec.ofChange Rows.symfileKeysSpec) :=
  OpenClaim.holds_of_wide 13 Try.f13 rfl rfl rfl rfl rfl rfl rfl ⟨rfl, rfl, rfl, rfl, rfl⟩ rfl rfl rfl rfl rfl (by kernel_rfl) Try.func13 (by kernel_rfl)
    (of_decide_eq_true (by kernel_rfl)) (by unfold Func.isWrapper; first | (rw [if_pos (by decide +kernel)]; kernel_rfl) | (rw [if_neg (by decide +kernel)]; exact ⟨rfl, rfl⟩))
    (fun os started H enc _ => lifted os started H enc)

theorem proved : Rows.SymfileKeysSaid := over
end Go.Proofs.Ytgnkfegkdjfnjaa.symfileKeys
