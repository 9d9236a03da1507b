/- The law: which values are interfaces, and what they show under a name. No condition but what each theorem says. -/
import Derived.Test.YtgnkfegkdjfnjaaGreatIgk
namespace Go.Proofs.YtgnkfegkdjfnjaaGreat
open Go Go.Eng

theorem FaceV.up {h h' : Heap} {v : Value} {f : Face} (a : FaceV h.size h v f) (k : At h.size h h') : FaceV h'.size h' v f := FaceV.keep a k.k k.n
theorem short_sized {f : Face} (h : FaceShort f) : TSized f.types := fun t ht => by
  have := h.1 t ht
  have h1 := this.1
  have h2 := this.2
  have h3 := reachBytes_lt
  omega
theorem face_name {N : Nat} {h : Heap} {v : Value} {f : Face} (a : FaceV N h v f) : f.name.length ≤ maxLen ∧ inU32 f.key ∧ f.types.length ≤ maxLen := by
  obtain ⟨vu, vt, vo, rfl, hn, hk, hU, hT, hO⟩ := a
  exact ⟨hn, hk, hT.1⟩
abbrev faceC (f : Face) (au : Option Addr) (cu : Nat) (at' : Option Addr) (ct : Nat) (ao : Option Addr) (co : Nat) : Value := .agg #[str f.name, .int .u32 f.key, .slice au f.uses.length cu, .slice at' f.types.length ct, .slice ao f.objs.length co]
theorem face_form {N : Nat} {h : Heap} {v : Value} {f : Face} (a : FaceV N h v f) : ∃ au cu at' ct ao co, v = faceC f au cu at' ct ao co := by
  obtain ⟨vu, vt, vo, rfl, hn, hk, hU, hT, hO⟩ := a
  obtain ⟨ao, co, rfl⟩ := hO.form
  obtain ⟨au, cu, rfl⟩ := hU.form
  obtain ⟨at0, ct0, rfl⟩ := SliceAt.form hT
  exact ⟨au, cu, at0, ct0, ao, co, rfl⟩
end Go.Proofs.YtgnkfegkdjfnjaaGreat
