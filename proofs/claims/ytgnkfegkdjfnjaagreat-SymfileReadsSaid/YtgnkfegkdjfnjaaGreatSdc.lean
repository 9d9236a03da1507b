/- What was written is read as it was: plain. Bytes cut off, or with one more behind: plain. No condition but what each theorem says. -/
import Derived.Test.YtgnkfegkdjfnjaaGreatSdb
namespace Go.Proofs.YtgnkfegkdjfnjaaGreat
/-! What was written is read as it was: plain. No condition but what each theorem says. -/
section
open Go Go.Eng

theorem dec_enc {f : Face} {s : Bytes} (h : EncR f s 0) (hk : inU32 f.key) (hu : ∀ u ∈ f.uses, inU32 u.key) : DecOk s ∧ (pFace s (pText s (0, false)).2).1 = f := by
  obtain ⟨hg, hs⟩ := enc_good h hk hu
  have h7 : 7 ≤ f.types.length := hg.1.1.2.2.2.1.1
  obtain ⟨h1, h2⟩ := face_takes hs (faceIts_ok hg hk hu) (fun o ho => (obIts_ok hg.1.1.2.2.2.1.2 (hg.1.2.2.2.2 o ho)).2) (take7 (needed_ok hg.1).1) h7
  exact ⟨⟨h1, by rw [h2], by rw [h2]; exact h⟩, by rw [h2]⟩
theorem DecR.of_enc {f g : Face} {s : Bytes} {e : Int} (d : DecR s g e) (h : EncR f s 0) (hk : inU32 f.key) (hu : ∀ u ∈ f.uses, inU32 u.key) : e = 0 ∧ g = f := by
  obtain ⟨h1, h2⟩ := dec_enc h hk hu
  rcases d with ⟨e0, -, hg⟩ | ⟨-, -, hn⟩
  · exact ⟨e0, hg.trans h2⟩
  · exact absurd h1 hn
theorem DecR.enc {g : Face} {s : Bytes} (d : DecR s g 0) : EncR g s 0 := by
  rcases d with ⟨-, hd, hg⟩ | ⟨e0, -⟩
  · rw [hg]; exact hd.2.2
  · omega
theorem enc_len {f : Face} {s : Bytes} {e : Int} (h : EncR f s e) : s.length ≤ 131072 := by
  rcases h with ⟨-, rfl, -⟩ | ⟨-, rfl, -⟩
  · unfold outB
    split
    · exact Nat.zero_le _
    · split
      · exact Nat.zero_le _
      · omega
  · exact Nat.zero_le _
end

/-! Bytes cut off, or with one more behind: plain. No condition but what each theorem says. -/
section
open Go Go.Eng

theorem pre_faceR {f g : Face} {r r' : Bytes} (hf : allOk (faceIts f)) (hg : allOk (faceIts g)) (sf : ∀ o ∈ f.objs, setOk o.val) (sg : ∀ o ∈ g.objs, setOk o.val) (h : E (faceIts f) ++ r = E (faceIts g) ++ r') : r = r' := by
  simp only [faceIts, List.cons_append, List.nil_append, allOk_cons, allOk_append] at hf hg
  simp only [faceIts, List.cons_append, List.nil_append, E_cons, E_append, List.append_assoc] at h
  obtain ⟨x1, x2, x3, x4, x5, x6, x7, x8, x9⟩ := hf
  obtain ⟨y1, y2, y3, y4, y5, y6, y7, y8, y9⟩ := hg
  obtain ⟨-, h_1⟩ := pre_text x1 y1 h
  obtain ⟨e2, h_2⟩ := pre_text x2 y2 h_1
  obtain ⟨e3, h_3⟩ := pre_word x3 y3 h_2
  obtain ⟨e4, h_4⟩ := pre_num x4 y4 h_3
  obtain ⟨e5, h_5⟩ := pre_list pre_used _ _ _ _ (by omega) (ok_mem x5) (ok_mem y5) h_4
  obtain ⟨e6, h_6⟩ := pre_num x6 y6 h_5
  obtain ⟨e7, h_7⟩ := pre_list pre_ty _ _ _ _ (by rw [List.length_drop, List.length_drop]; omega) (ok_mem x7) (ok_mem y7) h_6
  obtain ⟨e8, h_8⟩ := pre_num x8 y8 h_7
  exact (pre_list pre_ob _ _ _ _ (by omega) (fun o ho => ⟨ok_mem x9 o ho, sf o ho⟩) (fun o ho => ⟨ok_mem y9 o ho, sg o ho⟩) h_8).2
theorem enc_rest {f g : Face} {s t r r' : Bytes} (a : EncR f s 0) (b : EncR g t 0) (hk : inU32 f.key) (hu : ∀ u ∈ f.uses, inU32 u.key) (hk' : inU32 g.key) (hu' : ∀ u ∈ g.uses, inU32 u.key) (h : s ++ r = t ++ r') : r = r' := by
  obtain ⟨g1, e1⟩ := enc_good a hk hu
  obtain ⟨g2, e2⟩ := enc_good b hk' hu'
  rw [e1, e2] at h
  exact pre_faceR (faceIts_ok g1 hk hu) (faceIts_ok g2 hk' hu') (fun o ho => (obIts_ok g1.1.1.2.2.2.1.2 (g1.1.2.2.2.2 o ho)).2) (fun o ho => (obIts_ok g2.1.1.2.2.2.1.2 (g2.1.2.2.2.2 o ho)).2) h
theorem dec_cut {f g : Face} {s : Bytes} {e : Int} {k : Nat} (a : EncR f s 0) (hk : inU32 f.key) (hu : ∀ u ∈ f.uses, inU32 u.key) (d : DecR (s.take k) g e) (hk' : inU32 g.key) (hu' : ∀ u ∈ g.uses, inU32 u.key) (hl : k < s.length) : e = 170 := by
  rcases d with ⟨e0, d1, d2⟩ | ⟨e1, -⟩
  · have b : EncR g (s.take k) 0 := by rw [d2]; exact d1.2.2
    have := enc_rest (r := []) (r' := s.drop k) a b hk hu hk' hu' (by rw [List.append_nil, List.take_append_drop])
    have := congrArg List.length this
    simp at this
    omega
  · exact e1
theorem dec_more {f g : Face} {s : Bytes} {e : Int} {c : UInt8} (a : EncR f s 0) (hk : inU32 f.key) (hu : ∀ u ∈ f.uses, inU32 u.key) (d : DecR (s ++ [c]) g e) (hk' : inU32 g.key) (hu' : ∀ u ∈ g.uses, inU32 u.key) : e = 170 := by
  rcases d with ⟨e0, d1, d2⟩ | ⟨e1, -⟩
  · have b : EncR g (s ++ [c]) 0 := by rw [d2]; exact d1.2.2
    have := enc_rest (r := [c]) (r' := []) a b hk hu hk' hu' (by rw [List.append_nil])
    cases this
  · exact e1
end
end Go.Proofs.YtgnkfegkdjfnjaaGreat
