/- Plain laws of things written one behind the other and read back. No condition but what each theorem says. -/
import Derived.Test.YtkgmgnjgplabhaaRid11
namespace Go.Proofs.Ytkgmgnjgplabhaa
open Go Go.Eng

/-- a thing that is written or read -/
structure Item where
  kind : Int
  n : Int
  text : List UInt8
/-- a slice's value (from address a on) holds these things -/
def ItemsAt (h : Heap) (a : Option Addr) (xs : List Item) : Prop :=
  ∀ i x, xs[i]? = some x → (-9223372036854775808 ≤ x.n ∧ x.n ≤ 9223372036854775807) ∧
    ∃ b o, a = some ⟨b, o, none⟩ ∧ b < h.size ∧ cellAt h b (o + i * 3 + 0) = some (i64 x.kind) ∧ cellAt h b (o + i * 3 + 1) = some (i64 x.n) ∧ cellAt h b (o + i * 3 + 2) = some (str x.text)
def putI (st : List UInt8 × Bool) (x : Item) : List UInt8 × Bool :=
  if x.kind = 0 then (st.1 ++ [b8 x.n], st.2)
  else if x.kind = 1 then (if fit32 x.n then st.1 ++ compact x.n else st.1, if fit32 x.n then st.2 else true)
  else if x.kind = 2 then (st.1 ++ wordb (IntKind.u32.wrap x.n), st.2)
  else if x.kind = 3 then (if textOk x.text then st.1 ++ (x.text ++ [0]) else st.1, if textOk x.text then st.2 else true)
  else st
def enc (x : Item) : List UInt8 :=
  if x.kind = 0 then [b8 x.n] else if x.kind = 1 then compact x.n else if x.kind = 2 then wordb (IntKind.u32.wrap x.n) else if x.kind = 3 then x.text ++ [0] else []
def goodI (x : Item) : Prop := (x.kind = 1 → fit32 x.n) ∧ (x.kind = 3 → textOk x.text)
theorem putI_false {st : List UInt8 × Bool} {x : Item} (h : (putI st x).2 = false) : st.2 = false ∧ goodI x ∧ putI st x = (st.1 ++ enc x, false) := by
  unfold putI at h ⊢
  unfold enc goodI
  split at h
  · rename_i hk
    simp only at h
    rw [if_pos hk, if_pos hk]
    exact ⟨h, ⟨fun e => by omega, fun e => by omega⟩, by rw [h]⟩
  · rename_i h0
    rw [if_neg h0, if_neg h0]
    split at h
    · rename_i hk
      rw [if_pos hk, if_pos hk]
      simp only at h
      split at h
      · rename_i hf
        simp only [if_pos hf]
        exact ⟨h, ⟨fun _ => hf, fun e => by omega⟩, by rw [h]⟩
      · cases h
    · rename_i h1
      rw [if_neg h1, if_neg h1]
      split at h
      · rename_i hk
        rw [if_pos hk, if_pos hk]
        simp only at h
        exact ⟨h, ⟨fun e => by omega, fun e => by omega⟩, by rw [h]⟩
      · rename_i h2
        rw [if_neg h2, if_neg h2]
        split at h
        · rename_i hk
          rw [if_pos hk, if_pos hk]
          simp only at h
          split at h
          · rename_i hf
            simp only [if_pos hf]
            exact ⟨h, ⟨fun e => by omega, fun _ => hf⟩, by rw [h]⟩
          · cases h
        · rename_i h3
          rw [if_neg h3, if_neg h3]
          exact ⟨h, ⟨fun e => absurd e h1, fun e => absurd e h3⟩, by rw [← h]; simp⟩
theorem puts_false : ∀ (xs : List Item) (st : List UInt8 × Bool), (xs.foldl putI st).2 = false → st.2 = false ∧ (∀ x ∈ xs, goodI x) ∧ (xs.foldl putI st).1 = st.1 ++ xs.flatMap enc
  | [], st, h => ⟨h, fun _ hx => by simp at hx, by simp⟩
  | x :: xs, st, h => by
    simp only [List.foldl_cons] at h ⊢
    obtain ⟨h1, h2, h3⟩ := puts_false xs (putI st x) h
    obtain ⟨a1, a2, a3⟩ := putI_false h1
    refine ⟨a1, fun y hy => (List.mem_cons.1 hy).elim (fun e => e ▸ a2) (h2 y), ?_⟩
    rw [h3, a3]; simp
theorem and255 (n : Int) (hn : -9223372036854775808 ≤ n ∧ n ≤ 9223372036854775807) : bits2 .and .i64 n 255 = n % 256 := by
  have hnat : (BitVec.ofInt 64 n &&& BitVec.ofInt 64 255).toNat = (n % 256).toNat := by
    rw [BitVec.toNat_and]
    have : (BitVec.ofInt 64 255).toNat = 2 ^ 8 - 1 := by decide
    rw [this, Nat.and_two_pow_sub_one_eq_mod, BitVec.toNat_ofInt]; omega
  have e : bits2 .and .i64 n 255 = IntKind.i64.wrap ((BitVec.ofInt 64 n &&& BitVec.ofInt 64 255).toNat : Int) := rfl
  rw [e, hnat, w64 (by omega)]; omega
theorem wordv_b {m : Int} (h : 0 ≤ m ∧ m < 4294967296) : wordv (wordb m) = m := by
  unfold wordb wordv
  have e1 := b8_nat m
  have e2 := b8_nat (m / 256)
  have e3 := b8_nat (m / 65536)
  have e4 := b8_nat (m / 16777216)
  simp only
  omega
theorem ib_text : ∀ (t r : List UInt8), 0 ∉ t → Lib.indexByte (t ++ 0 :: r) 0 = t.length
  | [], r, _ => by simp [Lib.indexByte]
  | c :: t, r, h => by
    have hc : (c == 0) = false := by simp at h ⊢; exact fun e => h.1 e.symm
    have ih := ib_text t r (fun e => h (List.mem_cons_of_mem _ e))
    simp only [List.cons_append, Lib.indexByte, hc, Bool.false_eq_true, if_false, ih]
    have h1 : ¬ ((t.length : Int) == -1) = true := by simp
    rw [if_neg h1]; simp
end Go.Proofs.Ytkgmgnjgplabhaa
