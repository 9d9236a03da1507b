/- The law: the bytes and the key of every interface, or why it has none. No condition but what each theorem says. -/
import Derived.Test.YtgnkfegkdjfnjaaGreatSyp8
namespace Go.Proofs.YtgnkfegkdjfnjaaGreat
open Go Go.Eng

theorem encR_fun {f : Face} {s s' : Bytes} {e e' : Int} (a : EncR f s e) (b : EncR f s' e') : s = s' ∧ e = e' := by
  rcases a with ⟨h1, rfl, rfl⟩ | ⟨h1, rfl, rfl⟩ <;> rcases b with ⟨h2, rfl, rfl⟩ | ⟨h2, rfl, rfl⟩
  · exact ⟨rfl, rfl⟩
  · exact absurd h1 h2
  · exact absurd h2 h1
  · exact ⟨rfl, rfl⟩
theorem keyR_fun {f : Face} {k k' e e' : Int} (a : KeyR f k e) (b : KeyR f k' e') : k = k' ∧ e = e' := by
  obtain ⟨s, d, h1, a⟩ := a
  obtain ⟨s', d', h2, b⟩ := b
  obtain ⟨rfl, rfl⟩ := encR_fun h1 h2
  rcases a with ⟨a1, rfl, rfl⟩ | ⟨a1, rfl, rfl⟩ <;> rcases b with ⟨b1, rfl, rfl⟩ | ⟨b1, rfl, rfl⟩
  · exact ⟨rfl, rfl⟩
  · exact absurd b1 a1
  · exact absurd a1 b1
  · exact ⟨rfl, rfl⟩
end Go.Proofs.YtgnkfegkdjfnjaaGreat
