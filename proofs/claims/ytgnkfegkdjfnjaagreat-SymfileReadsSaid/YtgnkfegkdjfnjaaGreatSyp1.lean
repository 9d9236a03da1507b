/- What is written of an interface; the rider's Writer behind a frame. No condition but what each theorem says. -/
import Derived.Test.YtgnkfegkdjfnjaaGreatIfb1
import Derived.Test.YtgnkfegkdjfnjaaGreatRwb
namespace Go.Proofs.YtgnkfegkdjfnjaaGreat
open Go Go.Eng

inductive It where
  | byte (x : Int)
  | num (n : Int)
  | text (s : Bytes)
  | word (x : Int)
abbrev St := Bytes × Bool
def putIt : It → St → St
  | .byte x, st => (st.1 ++ [b8 x], st.2)
  | .num n, st => (if R.fit32 n then st.1 ++ R.compact n else st.1, if R.fit32 n then st.2 else true)
  | .text s, st => (if R.textOk s then st.1 ++ (s ++ [0]) else st.1, if R.textOk s then st.2 else true)
  | .word x, st => (st.1 ++ R.wordb x, st.2)
def putAll (l : List It) (st : St) : St := l.foldl (fun s i => putIt i s) st
theorem putAll_append (l m : List It) (st : St) : putAll (l ++ m) st = putAll m (putAll l st) := List.foldl_append
theorem putAll_cons (i : It) (l : List It) (st : St) : putAll (i :: l) st = putAll l (putIt i st) := rfl
theorem putAll_nil (st : St) : putAll [] st = st := rfl
def flagV (b : Bool) : Int := if b then 1 else 0
def sgn32 (x : Int) : Int := if x < 2147483648 then x else x - 4294967296
def numV (v : Val) : Int := if v.form = 4 then sgn32 (IntKind.u32.wrap v.n) else v.n
def fldIts (f : Fld) : List It := [.text f.name, .byte (flagV f.exp), .num f.type]
def parIts (p : Par) : List It := [.byte (flagV p.byVar), .num p.type]
def usedIts (u : Used) : List It := [.text u.name, .word u.key]
def tyIts (x : Ty) : List It := [.byte x.form, .text x.mod, .text x.name, .num x.len, .num x.elem, .num x.base, .num x.res, .num x.desc, .num x.fields.length] ++ (x.fields.flatMap fldIts ++ (.num x.params.length :: x.params.flatMap parIts))
def obIts (o : Ob) : List It := [.byte o.cls, .text o.name, .num o.type, .byte o.val.form, .num (numV o.val), .text o.val.text, .num o.n]
def magic : Bytes := [83, 80, 83, 89]
def faceIts (f : Face) : List It := [.text magic, .text f.name, .word f.key, .num f.uses.length] ++ (f.uses.flatMap usedIts ++ (.num ((f.types.length : Int) - 7) :: ((f.types.drop 7).flatMap tyIts ++ (.num f.objs.length :: f.objs.flatMap obIts))))
def outB (st : St) : Bytes := if st.2 then [] else if 131072 < st.1.length then [] else st.1
def outE (st : St) : Int := if st.2 then 1 else if 131072 < st.1.length then 2 else 0
/-- what an interface's writing answers -/
def EncR (f : Face) (s : Bytes) (e : Int) : Prop := (FGood f ∧ s = outB (putAll (faceIts f) ([], false)) ∧ e = outE (putAll (faceIts f) ([], false))) ∨ (¬ FGood f ∧ s = [] ∧ e = 160)
/-- a Writer, its blocks at N or higher and not in Z -/
structure WT (Z : Nat → Prop) (N : Nat) (h : Heap) (p : Nat) (st : St) : Prop where
  w : ∃ vb, R.W h p vb st.1 st.2 ∧ ∀ k, ownB vb k → N ≤ k ∧ ¬ Z k
  p_ : N ≤ p ∧ ¬ Z p
  z : ∀ k, Z k → k < h.size
theorem WT.call {Z : Nat → Prop} {N : Nat} {h h' : Heap} {p : Nat} {st st' : St} (a : WT Z N h p st) (hN : N ≤ h.size) (c : ∀ vb, R.W h p vb st.1 st.2 → ∃ vb', R.W h' p vb' st'.1 st'.2 ∧ R.WS h p vb h' vb') : WT Z N h' p st' ∧ Go.Eng.Mod (fun k => N ≤ k ∧ ¬ Z k) h h' := by
  obtain ⟨vb, w, hb⟩ := a.w
  obtain ⟨vb', w', ws⟩ := c vb w
  refine ⟨⟨⟨vb', w', fun k e => (ws.new k e).elim (hb k) (fun e => ⟨by omega, fun hz => by have := a.z k hz; omega⟩)⟩, a.p_, fun k hz => Nat.lt_of_lt_of_le (a.z k hz) ws.mod.size⟩, ws.mod.mono (fun k _ e => e.elim (fun e => by rw [e]; exact a.p_) (hb k))⟩
theorem WT.mod {Z S : Nat → Prop} {N : Nat} {h h' : Heap} {p : Nat} {st : St} (a : WT Z N h p st) (x : Go.Eng.Mod S h h') (hS : ∀ k, S k → Z k) : WT Z N h' p st := by
  obtain ⟨vb, w, hb⟩ := a.w
  exact ⟨⟨vb, w.mod x (fun e => a.p_.2 (hS p e)) (fun k e e' => (hb k e).2 (hS k e')), hb⟩, a.p_, fun k hz => Nat.lt_of_lt_of_le (a.z k hz) x.size⟩
theorem WT.new {Z : Nat → Prop} {N : Nat} {h h' : Heap} {p : Nat} {st : St} {o : Obj} (a : WT Z N h p st) (n : New h o h') : WT (fun k => Z k ∨ k = h.size) N h' p st := by
  obtain ⟨vb, w, hb⟩ := a.w
  obtain ⟨xs, ow, -⟩ := w.own
  have hs := n.size
  exact ⟨⟨vb, w.ext n.ext, fun k e => ⟨(hb k e).1, fun e' => e'.elim (hb k e).2 (fun e' => by have := ow.lt k e; omega)⟩⟩, ⟨a.p_.1, fun e => e.elim a.p_.2 (fun e => by have := lt_of_get w.blk; omega)⟩, fun k hz => hz.elim (fun hz => by have := a.z k hz; omega) (fun hz => by omega)⟩
theorem WT.less {Z Z' : Nat → Prop} {N : Nat} {h : Heap} {p : Nat} {st : St} (a : WT Z N h p st) (hz : ∀ k, Z' k → Z k) : WT Z' N h p st := by
  obtain ⟨vb, w, hb⟩ := a.w
  exact ⟨⟨vb, w, fun k e => ⟨(hb k e).1, fun e' => (hb k e).2 (hz k e')⟩⟩, ⟨a.p_.1, fun e => a.p_.2 (hz p e)⟩, fun k e => a.z k (hz k e)⟩
theorem WT.does {Z : Nat → Prop} {N : Nat} {h : Heap} {p : Nat} {st st' : St} {F : Nat} {args : List Value} (a : WT Z N h p st) (hN : N ≤ h.size)
    (c : ∀ vb, R.W h p vb st.1 st.2 → Does Tryz.prog F args h (fun v h' => v = .tuple #[] ∧ ∃ vb', R.W h' p vb' st'.1 st'.2 ∧ R.WS h p vb h' vb')) : Does Tryz.prog F args h (fun _ h' => WT Z N h' p st' ∧ Go.Eng.Mod (fun k => N ≤ k ∧ ¬ Z k) h h') := by
  obtain ⟨vb, w, hb⟩ := a.w
  refine Does.mono (c vb w) (fun v h' r => ?_)
  exact WT.call ⟨⟨vb, w, hb⟩, a.p_, a.z⟩ hN (fun vb2 w2 => by
    obtain ⟨-, vb', w', ws⟩ := r
    have : vb2 = vb := by
      have := w2.blk.symm.trans w.blk
      injection this with this; injection this with this; injection this with this; injection this with this
    subst this
    exact ⟨vb', w', ws⟩)
section
variable {Z : Nat → Prop} {N : Nat} {h : Heap} {p : Nat} {st : St}
theorem WT.text (a : WT Z N h p st) (hN : N ≤ h.size) (s : Bytes) : Does Tryz.prog 36 [ptr p 0, str s] h (fun _ h' => WT Z N h' p (putIt (.text s) st) ∧ Go.Eng.Mod (fun k => N ≤ k ∧ ¬ Z k) h h') :=
  a.does hN (fun _ w => R.Text_fn w s)
theorem WT.num (a : WT Z N h p st) (hN : N ≤ h.size) {n : Int} (hn : in64 n) : Does Tryz.prog 38 [ptr p 0, i64 n] h (fun _ h' => WT Z N h' p (putIt (.num n) st) ∧ Go.Eng.Mod (fun k => N ≤ k ∧ ¬ Z k) h h') :=
  a.does hN (fun _ w => R.Num_fn w n hn)
theorem WT.byte (a : WT Z N h p st) (hN : N ≤ h.size) (x : Int) : Does Tryz.prog 40 [ptr p 0, i64 x] h (fun _ h' => WT Z N h' p (putIt (.byte x) st) ∧ Go.Eng.Mod (fun k => N ≤ k ∧ ¬ Z k) h h') :=
  a.does hN (fun _ w => R.Byte_fn w x)
theorem WT.word (a : WT Z N h p st) (hN : N ≤ h.size) (x : Int) : Does Tryz.prog 37 [ptr p 0, .int .u32 x] h (fun _ h' => WT Z N h' p (putIt (.word x) st) ∧ Go.Eng.Mod (fun k => N ≤ k ∧ ¬ Z k) h h') :=
  a.does hN (fun _ w => R.Word_fn w x)
end
theorem flag_fn (b : Bool) (h : Heap) : Does Tryz.prog 63 [.bool b] h (fun v h' => h' = h ∧ v = i64 (flagV b)) := by
  refine fn_enter (N := 4) Tryz.func63 (by kernel_rfl) rfl rfl rfl (fun w0 => ?_)
  refine c_seq ?_; refine c_reg ?_; refine asg rfl rfl ?_; refine o_nil ?_; refine x_seq ?_
  refine c_seq ?_; refine c_seq ?_; refine c_reg ?_; refine mv rfl rfl ?_; refine o_nil ?_; refine x_seq ?_
  refine c_cond rfl (fun c1 => ?_) (fun c1 => ?_)
  · refine c_seq ?_; refine c_reg ?_; refine asg rfl rfl ?_; refine o_nil ?_; refine x_seq ?_; refine c_ret ?_; refine x_seq_ret ?_
    refine ret1 (.inr rfl) rfl rfl ?_
    have c1 : b = true := c1
    subst c1
    exact ⟨rfl, rfl⟩
  · refine c_skip ?_; refine x_seq ?_; refine c_seq ?_; refine c_reg ?_; refine asg rfl rfl ?_; refine o_nil ?_; refine x_seq ?_; refine c_ret ?_
    refine ret1 (.inr rfl) rfl rfl ?_
    have c1 : b = false := by simpa using c1
    subst c1
    exact ⟨rfl, rfl⟩
theorem signed_fn {x : Int} (hx : 0 ≤ x ∧ x < 4294967296) (h : Heap) : Does Tryz.prog 64 [.int .u32 x] h (fun v h' => h' = h ∧ v = i64 (sgn32 x)) := by
  refine fn_enter (N := 6) Tryz.func64 (by kernel_rfl) rfl rfl rfl (fun w0 => ?_)
  refine c_seq ?_; refine c_reg ?_; refine asg rfl rfl ?_; refine o_nil ?_; refine x_seq ?_; refine c_seq ?_; refine c_reg ?_
  refine mv rfl rfl (cvi rfl rfl (cvi rfl rfl (asg rfl rfl ?_)))
  refine o_nil ?_; refine x_seq ?_; refine c_ret ?_; refine ret1 (.inr rfl) rfl rfl ?_
  refine ⟨rfl, congrArg i64 ?_⟩
  unfold sgn32
  simp only [IntKind.wrap, IntKind.bits, IntKind.signed]
  simp
  omega
end Go.Proofs.YtgnkfegkdjfnjaaGreat
