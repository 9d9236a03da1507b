/- What wakes the symbol files' laws; the laws of writing. No condition but what each theorem says. -/
import Derived.Test.YtgnkfegkdjfnjaaGreatSyp7
namespace Go.Proofs.YtgnkfegkdjfnjaaGreat
open Go Go.Eng

def faceA : Face := ⟨[65], 1, [], basic, []⟩
theorem basic_low {j : Nat} {x : Ty} (h : basic[j]? = some x) : j < 7 ∧ x = basicTy j := by
  have hl : j < 7 := (List.getElem?_eq_some_iff.1 h).1
  rw [basic_at (by omega)] at h
  exact ⟨hl, (Option.some.inj h).symm⟩
theorem basic_tgood : TGood basic := by
  refine ⟨⟨by decide, by decide⟩, fun j y hj => ?_, fun a ha => ?_, ?_, fun x hx h9 => ?_⟩
  · obtain ⟨h, rfl⟩ := basic_low hj
    exact .inl ⟨by omega, by simp [BareP, basicTy]⟩
  · refine .mk fun e he => ?_
    have hx : basic[a]? = some (basicTy a) := basic_at (by have : a < 7 := ha; omega)
    rw [edges, hx] at he
    have ha : a < 7 := ha
    have e1 : ¬ ((basicTy a).form = 7 ∨ (basicTy a).form = 8) := by show ¬ ((a : Int) = 7 ∨ (a : Int) = 8); omega
    have e2 : ¬ (basicTy a).form = 9 := by show ¬ (a : Int) = 9; omega
    simp only at he
    rw [if_neg e1, if_neg e2] at he
    cases he
  · rw [show recs basic = [] from rfl]; exact .nil
  · obtain ⟨j, hj⟩ := List.mem_iff_getElem?.1 hx
    obtain ⟨h, rfl⟩ := basic_low hj
    have h9 : (j : Int) = 9 := h9; omega
theorem basic_all {P : Ty → Prop} (h : ∀ j : Nat, j < 7 → P (basicTy j)) : ∀ x ∈ basic, P x := fun x hx => by
  obtain ⟨j, hj⟩ := List.mem_iff_getElem?.1 hx
  obtain ⟨h7, rfl⟩ := basic_low hj
  exact h j h7
theorem good_A : FGood faceA := by
  refine ⟨⟨⟨plain_word, by decide, by decide, basic_tgood⟩, ⟨by simp [faceA], fun u hu => by simp [faceA] at hu⟩, ⟨basic_all (fun j _ => .inl rfl), ?_⟩, by simp [faceA], fun o ho => by simp [faceA] at ho⟩, num_none (basic_all (fun j hj h9 => by have h9 : (j : Int) = 9 := h9; omega))⟩
  rw [show tkeys faceA.types = [] from rfl]; exact .nil
theorem enc_A {s : Bytes} {e : Int} (h : EncR faceA s e) : s = [83, 80, 83, 89, 0, 65, 0, 1, 0, 0, 0, 0, 0, 0] ∧ e = 0 := by
  rcases h with ⟨-, rfl, rfl⟩ | ⟨h, -, -⟩
  · exact ⟨by decide, by decide⟩
  · exact absurd good_A h
theorem good_P0 : FGood { plainF with key := 0 } := plain_good
theorem key_P {k e : Int} (h : KeyR plainF k e) : e = 0 ∧ k ≠ 0 := by
  obtain ⟨s, e', hE, h⟩ := h
  have he : e' = 0 := by
    rcases hE with ⟨-, -, rfl⟩ | ⟨h, -, -⟩
    · decide
    · exact absurd good_P0 h
  rcases h with ⟨h, -, -⟩ | ⟨-, rfl, rfl⟩
  · exact absurd he h
  · have := hash_pos s
    exact ⟨rfl, by omega⟩
theorem wakes17_fn {h : Heap} : Does Tryz.prog 4 [] h (fun v h' => v = .bool true ∧ Ext h h') := by
  have k0 : At h.size h h := At.refl (Nat.le_refl _)
  refine fn_enter (N := 30) Tryz.func4 (by kernel_rfl) rfl rfl rfl (fun w0 => ?_)
  refine c_seq ?_; refine c_reg ?_; refine asg rfl rfl ?_; refine o_nil ?_; refine x_seq ?_; refine c_seq ?_; refine c_reg ?_
  refine cl (vs := []) rfl (basic13_fn) rfl (fun v1 h1 r1 => ?_)
  obtain ⟨hB, x1, l1⟩ := r1
  obtain ⟨a1, c1, rfl⟩ := OwnS.form (show OwnS _ _ _ _ _ basic from hB)
  have T1 := basic_own (B := fun _ => True) hB (fun _ _ => trivial)
  have hc1 := ownS_cap T1.own
  have F1 : FaceV h1.size h1 (faceC faceA none 0 a1 c1 none 0) faceA := ⟨_, _, _, rfl, by decide, (show inU32 1 by unfold inU32; decide), ⟨by decide, none, 0, rfl, fun i x e => by simp [faceA] at e⟩, T1.at_ (by decide), ⟨by decide, none, 0, rfl, fun i x e => by simp [faceA] at e⟩⟩
  have k_1 := (k0.ext x1)
  refine bld (vs := [(0, str [65]), (1, .int .u32 1), (3, .slice a1 basic.length c1)]) (v := faceC faceA none 0 a1 c1 none 0) rfl (fun _ => by kernel_rfl) rfl (cl (vs := [faceC faceA none 0 a1 c1 none 0]) rfl ((encode_fn F1 (fun _ _ _ _ _ _ e => by cases e; exact hc1))) rfl (fun v2 h2 r2 => ?_))
  obtain ⟨s, e, rfl, hE, x2⟩ := r2
  obtain ⟨rfl, rfl⟩ := enc_A hE
  have k_2 := (k_1.ext x2)
  refine mv rfl rfl (ext rfl rfl rfl (ext rfl rfl rfl (asg rfl rfl (asg rfl rfl ?_))))
  refine o_nil ?_; refine x_seq ?_; refine c_seq ?_; refine c_reg ?_; refine cl (vs := []) rfl (plainC_fn) rfl (fun v3 h3 r3 => ?_)
  obtain ⟨p3, x3, hc3⟩ := r3
  have k_3 := (k_2.ext x3)
  refine cl (vs := [v3]) rfl ((key_fn p3 hc3)) rfl (fun v4 h4 r4 => ?_)
  obtain ⟨k, e4, rfl, hK, x4⟩ := r4
  obtain ⟨rfl, hk⟩ := key_P hK
  have k_4 := (k_3.ext x4)
  refine mv rfl rfl (ext rfl rfl rfl (ext rfl rfl rfl (asg rfl rfl (asg rfl rfl ?_))))
  refine o_nil ?_; refine x_seq ?_; refine c_seq ?_; refine c_reg ?_
  refine mv rfl rfl (eqi rfl rfl rfl (mv rfl rfl (gd rfl rfl (mv rfl rfl (gd rfl rfl (eqs rfl rfl rfl (pkt rfl rfl rfl (mv rfl rfl (gd rfl rfl (mv rfl rfl (gd rfl rfl (eqi rfl rfl rfl ?_))))))))))))
  refine pkt rfl rfl rfl (mv rfl rfl (gd rfl rfl (mv rfl rfl (gd rfl rfl (nei rfl rfl rfl (pkt rfl rfl rfl (asg rfl rfl ?_)))))))
  refine o_nil ?_; refine x_seq ?_; refine c_ret ?_; refine ret1 (.inr rfl) rfl rfl ?_
  exact ⟨congrArg Value.bool (by simpa using hk), (k_4).toExt⟩
end Go.Proofs.YtgnkfegkdjfnjaaGreat
