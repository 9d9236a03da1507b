/- The statement SymfileReads. No condition but what the statement says. -/
import Derived.Test.YtgnkfegkdjfnjaaGreatRows
import Derived.WalkKit
import Derived.ProofKit
import Derived.SizedLaws
import Derived.OpenShut
import Derived.ShutString
import Derived.Test.YtgnkfegkdjfnjaaGreatEng6
import Derived.Test.YtgnkfegkdjfnjaaGreatSrf
namespace Go.Proofs.YtgnkfegkdjfnjaaGreat.symfileReads
open Go.Eng Go.ChangeShapes Go.WideShapes Go.ChangeAt Go.RowKit
open Go.ChangeMaps (open_string shut_string)
set_option linter.unusedVariables false

theorem own : ownKnob Tryz.prog.godebug = none := by kernel_rfl
theorem hlay : laidOutB Tryz.prog = true := by kernel_rfl

set_option maxRecDepth 100000 in
theorem lifted (os : Os) (started : os.Started) (H : Type) (enc : TypeId × Value → H) :
    ReturnsInHanded {} Tryz.checked os 3 .any (Rows.symfileReadsSpec.pre6 enc Tryz.prog Tryz.f3 Rows.symfileReadsRow.domain false) (Rows.symfileReadsSpec.post enc Tryz.prog Tryz.f3 false true false false) := by
  refine returnsInHanded_of_change_sized (C := Tryz.checked) own started (by kernel_rfl) Tryz.func3
    (ChangeSpec.witness6 (enc := enc) (C := Tryz.checked) false ⟨#[], #[.string ByteArray.empty], []⟩ 8 (by kernel_rfl) (by kernel_rfl) (by kernel_rfl) (by kernel_rfl)) ?_
  intro W base args ds gs before hval0 hW hcnd hsz _
  have hval : ∀ (j : Nat) t v, Tryz.f3.params[j]? = some t → args[j]? = some v → Value.okWide Tryz.prog W .any base t v := hval0
  have hW' := hW
  obtain ⟨p, q, hA0, hV, rfl, hfz, hnd⟩ := hW
  have hA : DataW.TrodAll enc Tryz.prog W 0 (fun _ => true) true Tryz.f3.params.toList args.toList ds p := hA0
  rw [Tryz.params3] at hA hval
  obtain ⟨v0, vs0, d0, ds0, p0, q0, hargs, rfl, rfl, h0, r0⟩ := trodAll_cons hA
  obtain ⟨rfl, rfl, rfl⟩ := trodAll_nil r0
  obtain rfl : args = #[v0] := by cases args; simp_all
  obtain ⟨rfl, rfl⟩ := trodVars_none hV
  have o0 := hval 0 9 v0 rfl rfl
  have z0 : Sz Tryz.prog 9 d0 := sz_each hsz (j := 0) (by kernel_rfl) rfl
  obtain ⟨a0, rfl, rfl, rfl, w0⟩ := open_string Tryz.underlying9 o0 h0
  clear hA0 hval0
  have hlt := hW'.lt
  have walk : Calls Tryz.prog 3 #[.string a0] W (fun e W' => e = .returned (.bool true) ∧ Grow W W') := by
    simp only [str_bytes]
    exact (readsL_fn).grow
  refine walk.mono fun e W' ⟨he, hg⟩ => ?_
  subst he
  exact ⟨_, rfl, post_grow hW' (fun _ _ _ => (trodAll_cons_mk (shut_bool Tryz.underlying4 _) trodAll_mk0)) (fun sp hsp => by
    have : DataW.TrodAll enc Tryz.prog W' 0 sp true [9] [.string a0] [.lit (.string a0.data.toList)] [] := (trodAll_cons_mk (shut_string Tryz.underlying9 w0) trodAll_mk0)
    show DataW.TrodAll enc Tryz.prog W' 0 sp true [9] [.string a0] [.lit (.string a0.data.toList)] _
    simpa using this
    ) rfl rfl hg (ok_one (by kernel_rfl) rfl (okWide_bool_mk Tryz.underlying4 _))⟩

theorem over : Rows.symfileReadsRow.holds Tryz.pinned (OpenSpec.ofChange Rows.symfileReadsSpec) :=
  OpenClaim.holds_of_wide 3 Tryz.f3 rfl rfl rfl rfl rfl rfl rfl ⟨rfl, rfl, rfl, rfl, rfl⟩ rfl rfl rfl rfl rfl (by kernel_rfl) Tryz.func3 (by kernel_rfl)
    (of_decide_eq_true (by kernel_rfl)) (by unfold Func.isWrapper; first | (rw [if_pos (by decide +kernel)]; kernel_rfl) | (rw [if_neg (by decide +kernel)]; exact ⟨rfl, rfl⟩))
    (fun os started H enc _ => lifted os started H enc)

theorem proved : Rows.SymfileReadsSaid := over
end Go.Proofs.YtgnkfegkdjfnjaaGreat.symfileReads
