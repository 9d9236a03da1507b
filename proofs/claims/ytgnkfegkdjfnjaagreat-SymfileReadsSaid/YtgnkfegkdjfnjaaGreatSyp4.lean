/- The reference's Writer behind a frame. No condition but what each theorem says. -/
import Derived.Test.YtgnkfegkdjfnjaaGreatSyp3
namespace Go.Proofs.YtgnkfegkdjfnjaaGreat
open Go Go.Eng

/-- the reference's Writer, its blocks at N or higher and not in Z; no more than C bytes -/
structure QT (Z : Nat → Prop) (N : Nat) (h : Heap) (p : Nat) (C : Nat) (st : St) : Prop where
  w : ∃ vb, R.Q h p vb st.1 st.2 ∧ ∀ k, ownB vb k → N ≤ k ∧ ¬ Z k
  p_ : N ≤ p ∧ ¬ Z p
  z : ∀ k, Z k → k < h.size
  len : st.1.length ≤ C
theorem QT.call {Z : Nat → Prop} {N : Nat} {h h' : Heap} {p C C' : Nat} {st st' : St} (a : QT Z N h p C st) (hN : N ≤ h.size) (hC : st'.1.length ≤ C') (c : ∀ vb, R.Q h p vb st.1 st.2 → ∃ vb', R.Q h' p vb' st'.1 st'.2 ∧ R.WS h p vb h' vb') : QT Z N h' p C' st' ∧ Go.Eng.Mod (fun k => N ≤ k ∧ ¬ Z k) h h' := by
  obtain ⟨vb, w, hb⟩ := a.w
  obtain ⟨vb', w', ws⟩ := c vb w
  refine ⟨⟨⟨vb', w', fun k e => (ws.new k e).elim (hb k) (fun e => ⟨by omega, fun hz => by have := a.z k hz; omega⟩)⟩, a.p_, fun k hz => Nat.lt_of_lt_of_le (a.z k hz) ws.mod.size, hC⟩, ws.mod.mono (fun k _ e => e.elim (fun e => by rw [e]; exact a.p_) (hb k))⟩
theorem QT.mod {Z S : Nat → Prop} {N : Nat} {h h' : Heap} {p C : Nat} {st : St} (a : QT Z N h p C st) (x : Go.Eng.Mod S h h') (hS : ∀ k, S k → Z k) : QT Z N h' p C st := by
  obtain ⟨vb, w, hb⟩ := a.w
  exact ⟨⟨vb, w.mod x (fun e => a.p_.2 (hS p e)) (fun k e e' => (hb k e).2 (hS k e')), hb⟩, a.p_, fun k hz => Nat.lt_of_lt_of_le (a.z k hz) x.size, a.len⟩
theorem QT.new {Z : Nat → Prop} {N : Nat} {h h' : Heap} {p C : Nat} {st : St} {o : Obj} (a : QT Z N h p C st) (n : New h o h') : QT (fun k => Z k ∨ k = h.size) N h' p C st := by
  obtain ⟨vb, w, hb⟩ := a.w
  have ow := w.own
  have hs := n.size
  exact ⟨⟨vb, w.mod n.ext (fun e => e) (fun _ _ e => e), fun k e => ⟨(hb k e).1, fun e' => e'.elim (hb k e).2 (fun e' => by have := ow.lt k e; omega)⟩⟩, ⟨a.p_.1, fun e => e.elim a.p_.2 (fun e => by have := lt_of_get w.blk; omega)⟩, fun k hz => hz.elim (fun hz => by have := a.z k hz; omega) (fun hz => by omega), a.len⟩
theorem QT.less {Z Z' : Nat → Prop} {N : Nat} {h : Heap} {p C : Nat} {st : St} (a : QT Z N h p C st) (hz : ∀ k, Z' k → Z k) : QT Z' N h p C st := by
  obtain ⟨vb, w, hb⟩ := a.w
  exact ⟨⟨vb, w, fun k e => ⟨(hb k e).1, fun e' => (hb k e).2 (hz k e')⟩⟩, ⟨a.p_.1, fun e => a.p_.2 (hz p e)⟩, fun k e => a.z k (hz k e), a.len⟩
theorem QT.does {Z : Nat → Prop} {N : Nat} {h : Heap} {p C C' : Nat} {st st' : St} {F : Nat} {args : List Value} (a : QT Z N h p C st) (hN : N ≤ h.size) (hC : st'.1.length ≤ C')
    (c : ∀ vb, R.Q h p vb st.1 st.2 → Does Tryz.prog F args h (fun v h' => v = .tuple #[] ∧ ∃ vb', R.Q h' p vb' st'.1 st'.2 ∧ R.WS h p vb h' vb')) : Does Tryz.prog F args h (fun _ h' => QT Z N h' p C' st' ∧ Go.Eng.Mod (fun k => N ≤ k ∧ ¬ Z k) h h') := by
  obtain ⟨vb, w, hb⟩ := a.w
  refine Does.mono (c vb w) (fun v h' r => ?_)
  exact QT.call ⟨⟨vb, w, hb⟩, a.p_, a.z, a.len⟩ hN hC (fun vb2 w2 => by
    obtain ⟨-, vb', w', ws⟩ := r
    have : vb2 = vb := by
      have := w2.blk.symm.trans w.blk
      injection this with this; injection this with this; injection this with this; injection this with this
    subst this
    exact ⟨vb', w', ws⟩)
theorem QT.le {Z : Nat → Prop} {N : Nat} {h : Heap} {p C C' : Nat} {st : St} (a : QT Z N h p C st) (hC : C ≤ C') : QT Z N h p C' st := ⟨a.w, a.p_, a.z, Nat.le_trans a.len hC⟩
theorem compact_le (n : Int) (h : R.fit32 n) : (R.compact n).length ≤ 10 := by
  have := R.cg_le 4 10 n (R.fit_rng h)
  unfold R.compact; omega
theorem put_len (i : It) (st : St) : (putIt i st).1.length ≤ st.1.length + 66 := by
  cases i with
  | byte x => simp [putIt]
  | num n =>
    simp only [putIt]
    split
    · rename_i hf
      have := compact_le n hf
      simp; omega
    · omega
  | text s =>
    simp only [putIt]
    split
    · rename_i hf
      have := hf.1
      simp; omega
    · omega
  | word x => simp [putIt, R.wordb]
section
variable {Z : Nat → Prop} {N : Nat} {h : Heap} {p C : Nat} {st : St}
theorem QT.num (a : QT Z N h p C st) (hN : N ≤ h.size) (hC : C ≤ 90000000) (n : Int) : Does Tryz.prog 66 [ptr p 0, i64 n] h (fun _ h' => QT Z N h' p (C + 66) (putIt (.num n) st) ∧ Go.Eng.Mod (fun k => N ≤ k ∧ ¬ Z k) h h') :=
  a.does hN (Nat.le_trans (put_len _ _) (Nat.add_le_add_right a.len _)) (fun _ w => R.QNum_fn w (Nat.le_trans a.len hC) n)
theorem QT.byte (a : QT Z N h p C st) (hN : N ≤ h.size) (hC : C ≤ 90000000) (x : Int) : Does Tryz.prog 76 [ptr p 0, i64 x] h (fun _ h' => QT Z N h' p (C + 66) (putIt (.byte x) st) ∧ Go.Eng.Mod (fun k => N ≤ k ∧ ¬ Z k) h h') :=
  a.does hN (Nat.le_trans (put_len _ _) (Nat.add_le_add_right a.len _)) (fun _ w => R.QByte_fn w (by have := a.len; omega) x)
end
end Go.Proofs.YtgnkfegkdjfnjaaGreat
