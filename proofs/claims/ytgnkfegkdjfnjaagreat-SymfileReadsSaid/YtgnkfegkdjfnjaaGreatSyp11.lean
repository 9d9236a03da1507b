/- What is written of an interface fits; the law that different interfaces have different bytes. No condition but what each theorem says. -/
import Derived.Test.YtgnkfegkdjfnjaaGreatSyp10
import Derived.Test.YtgnkfegkdjfnjaaGreatIfc1
namespace Go.Proofs.YtgnkfegkdjfnjaaGreat
open Go Go.Eng

theorem nil_ok : R.textOk [] := ⟨by decide, by decide⟩
theorem word_ok {s : Bytes} (h : WordP s) : R.textOk s := by
  refine ⟨Nat.le_trans h.2.1 (by decide), fun e => ?_⟩
  obtain ⟨i, hi⟩ := List.mem_iff_getElem?.1 e
  have hl := (List.getElem?_eq_some_iff.1 hi).1
  have := h.2.2.2 i hl
  rw [hi] at this
  revert this
  simp only [Option.getD_some]
  unfold letterP digitP
  decide
theorem strp_ok {s : Bytes} (h : StrP s) : R.textOk s := ⟨h.1, fun e => h.2 0 e (.inl (by decide))⟩
theorem flag_ok (b : Bool) : okI (.byte (flagV b)) := by cases b <;> exact ⟨by decide, by decide⟩
theorem sgn_fit {x : Int} (h : 0 ≤ x ∧ x < 4294967296) : R.fit32 (sgn32 x) := by unfold sgn32 R.fit32; split <;> omega
theorem ref_fit {t : List Ty} (hl : t.length ≤ 256) {r : Int} (h : 0 ≤ r ∧ r < t.length) : R.fit32 r := by unfold R.fit32; omega
theorem tyIts_ok {t : List Ty} (hl : t.length ≤ 256) {x : Ty} (hk : FormedP t x) (hr : ∀ r ∈ refsTy x, 0 ≤ r ∧ r < t.length) (hs : x.fields.length ≤ 64 ∧ x.params.length ≤ 64) : allOk (tyIts x) := by
  obtain ⟨hk, hn⟩ := hk
  have hfn : ∀ f ∈ x.fields, WordP f.name := by
    rcases hk with ⟨-, -, -, -, -, e, -⟩ | ⟨-, -, -, -, -, -, e, -⟩ | ⟨-, ⟨-, -, -, -, hf⟩, -⟩ | ⟨-, -, -, -, -, -, e, -⟩ | ⟨-, -, -, -, -, -, e⟩
    · rw [e]; simp
    · rw [e]; simp
    · exact fun f hf' => (hf f hf').1
    · rw [e]; simp
    · rw [e]; simp
  have hform : 7 ≤ x.form ∧ x.form ≤ 11 := by
    rcases hk with ⟨e, -⟩ | ⟨e, -⟩ | ⟨e, -⟩ | ⟨e, -⟩ | ⟨e, -⟩ <;> omega
  have hlen : 0 ≤ x.len ∧ x.len ≤ 4096 := by
    rcases hk with ⟨-, ⟨h1, h2, -⟩, -⟩ | ⟨-, -, h1, -⟩ | ⟨-, -, h1, -⟩ | ⟨-, -, h1, -⟩ | ⟨-, -, h1, -⟩ <;> omega
  have hdesc : -1 ≤ x.desc ∧ x.desc < 64 := by
    rcases hk with ⟨-, -, -, -, e, -⟩ | ⟨-, -, -, -, -, e, -⟩ | ⟨-, ⟨-, -, h1, h2, -⟩, -⟩ | ⟨-, -, -, -, -, e, -⟩ | ⟨-, -, -, -, -, e, -⟩ <;> omega
  have hmn : R.textOk x.mod ∧ R.textOk x.name := by
    rcases hn with ⟨⟨e1, e2⟩, -⟩ | ⟨e1, e2⟩
    · rw [e1, e2]; exact ⟨nil_ok, nil_ok⟩
    · refine ⟨word_ok e1, ?_⟩
      rcases e2 with e2 | ⟨e2, -⟩
      · exact word_ok e2
      · rw [e2]; exact nil_ok
  simp only [tyIts, List.cons_append, List.nil_append, allOk_cons, allOk_append]
  refine ⟨⟨by omega, by omega⟩, hmn.1, hmn.2, by unfold okI R.fit32; omega, ref_fit hl (hr _ ref_e), ref_fit hl (hr _ ref_b), ref_fit hl (hr _ ref_r), by unfold okI R.fit32; omega, by unfold okI R.fit32; omega, fun i hi => ?_, by unfold okI R.fit32; omega, fun i hi => ?_⟩
  · obtain ⟨f, hf, hi⟩ := List.mem_flatMap.1 hi
    simp only [fldIts, List.mem_cons, List.not_mem_nil, or_false] at hi
    rcases hi with rfl | rfl | rfl
    · exact word_ok (hfn f hf)
    · exact flag_ok _
    · exact ref_fit hl (hr _ (ref_f hf))
  · obtain ⟨p, hp, hi⟩ := List.mem_flatMap.1 hi
    simp only [parIts, List.mem_cons, List.not_mem_nil, or_false] at hi
    rcases hi with rfl | rfl
    · exact flag_ok _
    · exact ref_fit hl (hr _ (ref_p hp))
theorem obIts_ok {t : List Ty} (hl : t.length ≤ 256) {o : Ob} (h : ObjP t o) : allOk (obIts o) ∧ setOk o.val := by
  obtain ⟨hn, ht, hz, hc⟩ := h
  have hcls : 1 ≤ o.cls ∧ o.cls ≤ 4 ∧ 0 ≤ o.n ∧ o.n < 64 := by
    rcases hc with ⟨h1, -, -, h4⟩ | ⟨h1, h2, -⟩ | ⟨h1, -, h2, h3⟩ | ⟨h1, -, h2, h3⟩ <;> omega
  have hv : (0 ≤ o.val.form ∧ o.val.form ≤ 6) ∧ R.fit32 (numV o.val) ∧ R.textOk o.val.text ∧ setOk o.val := by
    have zero : o.val.form = 0 ∧ o.val.n = 0 ∧ o.val.text = [] → (0 ≤ o.val.form ∧ o.val.form ≤ 6) ∧ R.fit32 (numV o.val) ∧ R.textOk o.val.text ∧ setOk o.val := fun ⟨e1, e2, e3⟩ => by
      refine ⟨by omega, ?_, by rw [e3]; exact nil_ok, fun e => by omega⟩
      unfold numV; rw [if_neg (by omega), e2]; unfold R.fit32; omega
    rcases hc with ⟨h1, hC, -⟩ | ⟨h1, -⟩ | ⟨h1, -⟩ | ⟨h1, -⟩
    · rcases hC with ⟨e1, e2, e3⟩ | ⟨e1, hN⟩
      · refine ⟨by omega, ?_, strp_ok e3, fun e => by omega⟩
        unfold numV; rw [if_neg (by omega), e2]; unfold R.fit32; omega
      · have hw : 0 ≤ IntKind.u32.wrap o.val.n ∧ IntKind.u32.wrap o.val.n < 4294967296 := by simp only [IntKind.wrap, IntKind.bits, IntKind.signed]; simp; omega
        refine ⟨by unfold NumP at hN; omega, ?_, by rw [e1]; exact nil_ok, fun e => by unfold NumP at hN; omega⟩
        unfold numV
        split
        · exact sgn_fit hw
        · unfold NumP FitsP at hN; unfold R.fit32; omega
    · exact zero (hz.resolve_left (by omega))
    · exact zero (hz.resolve_left (by omega))
    · exact zero (hz.resolve_left (by omega))
  obtain ⟨v1, v2, v3, v4⟩ := hv
  refine ⟨?_, v4⟩
  simp only [obIts, allOk_cons]
  exact ⟨⟨by omega, by omega⟩, word_ok hn, ref_fit hl ht, ⟨by omega, by omega⟩, v2, v3, by unfold okI R.fit32; omega, fun i hi => by cases hi⟩
theorem faceIts_ok {f : Face} (h : FGood f) (hk : inU32 f.key) (hu : ∀ u ∈ f.uses, inU32 u.key) : allOk (faceIts f) := by
  obtain ⟨⟨⟨h1, h2, h3, h4⟩, h5, h6, h7⟩, -⟩ := h
  have hl := h4.1.2
  have hr := h4.2.1.refs h4.1.1
  have hs := h4.2.1.sized
  simp only [faceIts, List.cons_append, List.nil_append, allOk_cons, allOk_append]
  refine ⟨⟨by decide, by decide⟩, word_ok h1, hk, by unfold okI R.fit32; omega, fun i hi => ?_, by unfold okI R.fit32; omega, fun i hi => ?_, by unfold okI R.fit32; omega, fun i hi => ?_⟩
  · obtain ⟨u, hu', hi⟩ := List.mem_flatMap.1 hi
    simp only [usedIts, List.mem_cons, List.not_mem_nil, or_false] at hi
    rcases hi with rfl | rfl
    · exact word_ok (h5.2 u hu')
    · exact hu u hu'
  · obtain ⟨x, hx, hi⟩ := List.mem_flatMap.1 hi
    obtain ⟨j, hj⟩ := List.mem_iff_getElem?.1 hx
    rw [List.getElem?_drop] at hj
    have hf : FormedP f.types x := by
      rcases h4.2.1 _ x hj with ⟨e, -⟩ | ⟨-, hb⟩
      · omega
      · exact hb
    exact tyIts_ok hl hf (by have := hr (7 + j); rwa [refsAt_of hj] at this) (hs x (List.mem_of_getElem? hj)) i hi
  · obtain ⟨o, ho, hi⟩ := List.mem_flatMap.1 hi
    exact (obIts_ok hl (h7.2 o ho)).1 i hi
theorem uses_key {N : Nat} {h : Heap} {v : Value} {f : Face} (a : FaceV N h v f) : ∀ u ∈ f.uses, inU32 u.key := by
  obtain ⟨vu, vt, vo, rfl, -, -, hU, -⟩ := a
  intro u hu
  obtain ⟨i, hi⟩ := List.mem_iff_getElem?.1 hu
  obtain ⟨_, a, c, -, hr⟩ := hU
  obtain ⟨_, _, _, -, -, -, -, hR⟩ := hr i u hi
  exact hR.2.2
theorem enc_bad {f : Face} {s : Bytes} {e : Int} (h : EncR f s e) (he : e ≠ 0) : s = [] := by
  rcases h with ⟨-, rfl, rfl⟩ | ⟨-, rfl, -⟩
  · unfold outB outE at *
    split at he
    · rename_i c; rw [if_pos c]
    · rename_i c
      rw [if_neg c]
      split at he
      · rename_i c2; rw [if_pos c2]
      · exact absurd rfl he
  · rfl
theorem enc_good {f : Face} {s : Bytes} (h : EncR f s 0) (hk : inU32 f.key) (hu : ∀ u ∈ f.uses, inU32 u.key) : FGood f ∧ s = E (faceIts f) := by
  rcases h with ⟨hg, rfl, he⟩ | ⟨-, -, he⟩
  · refine ⟨hg, ?_⟩
    have := putAll_ok (faceIts f) ([], false) (faceIts_ok hg hk hu)
    rw [this] at he ⊢
    unfold outE at he
    unfold outB
    simp only [List.nil_append, Bool.false_eq_true, if_false] at he ⊢
    split at he
    · omega
    · rename_i c; rw [if_neg c]
  · omega
theorem enc_inj {f g : Face} {s : Bytes} (a : EncR f s 0) (b : EncR g s 0) (hk : inU32 f.key) (hu : ∀ u ∈ f.uses, inU32 u.key) (hk' : inU32 g.key) (hu' : ∀ u ∈ g.uses, inU32 u.key) : f = g := by
  obtain ⟨g1, e1⟩ := enc_good a hk hu
  obtain ⟨g2, e2⟩ := enc_good b hk' hu'
  exact pre_face (faceIts_ok g1 hk hu) (faceIts_ok g2 hk' hu') (fun o ho => (obIts_ok g1.1.1.2.2.2.1.2 (g1.1.2.2.2.2 o ho)).2) (fun o ho => (obIts_ok g2.1.1.2.2.2.1.2 (g2.1.2.2.2.2 o ho)).2)
    (take7 (needed_ok g1.1).1) (take7 (needed_ok g2.1).1) (e1.symm.trans e2)
end Go.Proofs.YtgnkfegkdjfnjaaGreat
