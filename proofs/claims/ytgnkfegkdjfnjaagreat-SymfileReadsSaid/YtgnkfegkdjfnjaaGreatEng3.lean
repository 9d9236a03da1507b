/- The engine, part 3: rules by which a function of the program is walked. No condition. -/
import Derived.Test.YtgnkfegkdjfnjaaGreatEng2
import Derived.Laws.Append
import Derived.Laws.BytesString
import Derived.Laws.Strings2
import Derived.Laws.Tables
import Derived.Lib.AppendStr
import Derived.Lib.ConvBytes
namespace Go.Eng

/-! ## the heap -/
def cellAt (h : Heap) (b o : Nat) : Option Value := match h[b]? with
  | some (.cells c _ _) => c[o]?
  | _ => none
theorem cell_eq (w : World) (b o : Nat) : w.cell? ⟨b, o, none⟩ = cellAt w.heap b o := by
  unfold World.cell? cellAt
  cases w.heap[b]? with
  | none => rfl
  | some x => cases x <;> rfl
theorem cell {h : Heap} {b o : Nat} {cs : Array Value} {T : TypeId} {fr : Nat × Nat} {v : Value} (hb : h[b]? = some (.cells cs T fr)) (hv : cs[o]? = some v) : cellAt h b o = some v := by
  simp only [cellAt, hb, hv]
theorem cellAt_blk {h : Heap} {b o : Nat} {cs : Array Value} {T : TypeId} {fr : Nat × Nat} (hb : h[b]? = some (.cells cs T fr)) : cellAt h b o = cs[o]? := by simp only [cellAt, hb]

theorem add_eq (b o n : Nat) : (⟨b, o, none⟩ : Addr).add n = ⟨b, o + n, none⟩ := by unfold Addr.add; split <;> simp_all

/-- a row of cells from o on in block b -/
def rowAt (h : Heap) (b o : Nat) (cs : List Value) : Prop := ∀ j v, cs[j]? = some v → cellAt h b (o + j) = some v

/-- only blocks of S have turned, and new ones have come -/
structure Mod (S : Nat → Prop) (h h' : Heap) : Prop where
  size : h.size ≤ h'.size
  same : ∀ k, k < h.size → ¬ S k → h'[k]? = h[k]?
abbrev Ext (h h' : Heap) : Prop := Mod (fun _ => False) h h'
theorem Mod.refl (S : Nat → Prop) (h : Heap) : Mod S h h := ⟨Nat.le_refl _, fun _ _ _ => rfl⟩
theorem Mod.trans {S : Nat → Prop} {a b c : Heap} (x : Mod S a b) (y : Mod S b c) : Mod S a c :=
  ⟨Nat.le_trans x.size y.size, fun k hk hs => (y.same k (Nat.lt_of_lt_of_le hk x.size) hs).trans (x.same k hk hs)⟩
theorem Mod.mono {S S' : Nat → Prop} {a b : Heap} (x : Mod S a b) (hs : ∀ k, k < a.size → S k → S' k) : Mod S' a b := ⟨x.size, fun k hk hn => x.same k hk fun e => hn (hs k hk e)⟩
theorem Ext.mod {a b : Heap} (x : Ext a b) (S : Nat → Prop) : Mod S a b := x.mono fun _ _ e => e.elim
theorem lt_of_get {h : Heap} {k : Nat} {o : Obj} (hk : h[k]? = some o) : k < h.size := (Array.getElem?_eq_some_iff.1 hk).1
theorem Mod.get {S : Nat → Prop} {h h' : Heap} (x : Mod S h h') {k : Nat} {o : Obj} (hk : h[k]? = some o) (hn : ¬ S k) : h'[k]? = some o := (x.same k (lt_of_get hk) hn).trans hk
theorem Ext.get {h h' : Heap} (x : Ext h h') {k : Nat} {o : Obj} (hk : h[k]? = some o) : h'[k]? = some o := Mod.get x hk (fun e => e)
theorem cellAt_lt {h : Heap} {b o : Nat} {v : Value} (hc : cellAt h b o = some v) : b < h.size := by
  unfold cellAt at hc
  split at hc
  · rename_i hb; exact lt_of_get hb
  · cases hc
theorem Mod.cell {S : Nat → Prop} {h h' : Heap} (x : Mod S h h') {b o : Nat} {v : Value} (hc : cellAt h b o = some v) (hn : ¬ S b) : cellAt h' b o = some v := by
  have := x.same b (cellAt_lt hc) hn
  unfold cellAt at *; rw [this]; exact hc
theorem Mod.row {S : Nat → Prop} {h h' : Heap} (x : Mod S h h') {b o : Nat} {cs : List Value} (hc : rowAt h b o cs) (hn : ¬ S b) : rowAt h' b o cs := fun j v hv => x.cell (hc j v hv) hn

/-- a new block -/
structure New (h : Heap) (o : Obj) (h' : Heap) : Prop where
  at_ : h'[h.size]? = some o
  size : h'.size = h.size + 1
  ext : Ext h h'
theorem New.push (h : Heap) (o : Obj) : New h o (h.push o) :=
  ⟨by simp, by simp, ⟨by simp, fun k hk _ => by rw [Array.getElem?_push, if_neg (by omega)]⟩⟩
/-- one block's content turned -/
structure Upd (h : Heap) (b : Nat) (o : Obj) (h' : Heap) : Prop where
  at_ : h'[b]? = some o
  size : h'.size = h.size
  mod : Mod (· = b) h h'
theorem Upd.ne {h h' : Heap} {b : Nat} {o o' : Obj} (u : Upd h b o h') {k : Nat} (hk : h[k]? = some o') (hne : k ≠ b) : h'[k]? = some o' := u.mod.get hk hne
theorem setCell_upd {w : World} {b o : Nat} {cs : Array Value} {E : TypeId} {fr : Nat × Nat} (hb : w.heap[b]? = some (.cells cs E fr)) (v : Value) : Upd w.heap b (.cells (cs.setIfInBounds o v) E fr) (w.setCell ⟨b, o, none⟩ v).heap := by
  refine ⟨?_, by simp [World.setCell], ⟨by simp [World.setCell], fun k hk hn => ?_⟩⟩
  · simp [World.setCell, Array.getElem?_modify, hb]
  · simp [World.setCell, Array.getElem?_modify, Ne.symm hn]
theorem setRow_upd {w : World} {b : Nat} {cs cs' : Array Value} {E : TypeId} {fr : Nat × Nat} (hb : w.heap[b]? = some (.cells cs E fr)) : Upd w.heap b (.cells cs' E fr) (w.setRow b cs').heap :=
  ⟨setRow_heap w b cs cs' E fr hb, by simp [World.setRow], ⟨by simp [World.setRow], fun k _ hn => setRow_other w b k cs' hn⟩⟩

/-! ## the tables' facts, each closed by the kernel -/
class L1 (P : Program) (T : TypeId) : Prop where
  run : ∀ a w, (loadVar T a).run P w = (load a).run P w
class LN (P : Program) (T : TypeId) (n : outParam Nat) : Prop where
  run : ∀ a w, (loadVar T a).run P w = (do pure (Value.agg (← loadCells a n)) : Sem Value).run P w
class SN (P : Program) (T : TypeId) (n : outParam Nat) : Prop where
  run : ∀ a v w, (storeVar T a v).run P w = (if v.cells.size ≠ n then (stuck "storeVar: the value has not the size of the variable" : Sem Unit) else storeCells a v.cells.toList).run P w
class FA (P : Program) (T : TypeId) (f : Nat) (off : outParam Nat) : Prop where
  run : ∀ b o w, (Instr.fieldAt T (.pointer (some ⟨b, o, none⟩)) f).run P w = .ok (.pointer (some ⟨b, o + off, none⟩)) w
class SZ (P : Program) (T : TypeId) (n : outParam Nat) : Prop where
  run : ∀ w, (sizeOf T).run P w = .ok n w
class ZV (P : Program) (T : TypeId) (cs : outParam (Array Value)) : Prop where
  run : ∀ w, (Instr.alloc T true (.tuple #[])).run P w = .ok (.pointer (some ⟨w.heap.size, 0, none⟩)) { w with heap := w.heap.push (.cells cs T) }

section op
variable {C : Cx} {ops : Array Oper} {K : KK} {dr : Bool} {I : Heap → Prop} {rest : List Oper} {ρ : Env} {h : Heap} {d : Nat} {ty : TypeId} {pos : String} {aft : Array Edge}

/-! ### loads -/
theorem ld_ {x : Operand} {T : TypeId} {b o : Nat} {v : Value} [hT : L1 C.P T] (hx : ev ρ x = some (ptr b o)) (hc : ∀ h', (dr = false → h' = h) → (dr = true → I h') → cellAt h' b o = some v) (hN : Nat.blt d C.N = true)
    (k : SO C ops K dr I rest ((d, v) :: ρ) h) : SO C ops K dr I (⟨some d, .load T x, ty, pos, aft, none⟩ :: rest) ρ h :=
  o_val rfl rfl rfl hN (fun a w ha h1 h2 => by
    simp only [execOp, ha.ev hx]
    refine ex_v ?_
    simp only [Instr.loadAt, Instr.sureAddr, Sem.run_bind, Sem.run_pure, Result.andThen_ok, hT.run, run_load, cell_eq, hc w.heap h1 h2]) k
theorem ld {x : Operand} {T : TypeId} {b o : Nat} {v : Value} [hT : L1 C.P T] (hx : ev ρ x = some (ptr b o)) (hc : cellAt h b o = some v) (hN : Nat.blt d C.N = true)
    (k : SO C ops K false I rest ((d, v) :: ρ) h) : SO C ops K false I (⟨some d, .load T x, ty, pos, aft, none⟩ :: rest) ρ h :=
  ld_ hx (fun h' e _ => by rw [e rfl]; exact hc) hN k
theorem ldI {x : Operand} {T : TypeId} {b o : Nat} {v : Value} [hT : L1 C.P T] (hx : ev ρ x = some (ptr b o)) (hc : ∀ h', I h' → cellAt h' b o = some v) (hN : Nat.blt d C.N = true)
    (k : SO C ops K true I rest ((d, v) :: ρ) h) : SO C ops K true I (⟨some d, .load T x, ty, pos, aft, none⟩ :: rest) ρ h :=
  ld_ hx (fun h' _ e => hc h' (e rfl)) hN k
theorem ldn_ {x : Operand} {T : TypeId} {b o n : Nat} {cs : List Value} [hT : LN C.P T n] (hx : ev ρ x = some (ptr b o)) (hn : cs.length = n) (hc : ∀ h', (dr = false → h' = h) → (dr = true → I h') → rowAt h' b o cs) (hN : Nat.blt d C.N = true)
    (k : SO C ops K dr I rest ((d, .agg cs.toArray) :: ρ) h) : SO C ops K dr I (⟨some d, .load T x, ty, pos, aft, none⟩ :: rest) ρ h :=
  o_val rfl rfl rfl hN (fun a w ha h1 h2 => by
    simp only [execOp, ha.ev hx]
    refine ex_v ?_
    have hl := run_loadCells_list (P := C.P) w ⟨b, o, none⟩ cs (fun j v hv => by rw [add_eq, cell_eq]; exact hc w.heap h1 h2 j v hv)
    rw [hn] at hl
    simp only [Instr.loadAt, Instr.sureAddr, Sem.run_bind, Sem.run_pure, Result.andThen_ok, hT.run, hl]) k
theorem ldn {x : Operand} {T : TypeId} {b o n : Nat} {cs : List Value} [hT : LN C.P T n] (hx : ev ρ x = some (ptr b o)) (hn : cs.length = n) (hc : rowAt h b o cs) (hN : Nat.blt d C.N = true)
    (k : SO C ops K false I rest ((d, .agg cs.toArray) :: ρ) h) : SO C ops K false I (⟨some d, .load T x, ty, pos, aft, none⟩ :: rest) ρ h :=
  ldn_ hx hn (fun h' e _ => by rw [e rfl]; exact hc) hN k
theorem ldnI {x : Operand} {T : TypeId} {b o n : Nat} {cs : List Value} [hT : LN C.P T n] (hx : ev ρ x = some (ptr b o)) (hn : cs.length = n) (hc : ∀ h', I h' → rowAt h' b o cs) (hN : Nat.blt d C.N = true)
    (k : SO C ops K true I rest ((d, .agg cs.toArray) :: ρ) h) : SO C ops K true I (⟨some d, .load T x, ty, pos, aft, none⟩ :: rest) ρ h :=
  ldn_ hx hn (fun h' _ e => hc h' (e rfl)) hN k

/-! ### addresses -/
theorem fa {x : Operand} {T : TypeId} {f off b o : Nat} [hF : FA C.P T f off] (hx : ev ρ x = some (ptr b o)) (hN : Nat.blt d C.N = true) (k : SO C ops K dr I rest ((d, ptr b (o + off)) :: ρ) h) : SO C ops K dr I (⟨some d, .fieldAddr T x f, ty, pos, aft, none⟩ :: rest) ρ h :=
  o_val rfl rfl rfl hN (fun a w ha _ _ => by
    simp only [execOp, ha.ev hx]
    exact ex_v (hF.run b o w)) k
/-- the address of an array's element -/
theorem ixa {x y : Operand} {T E : TypeId} {q : IntKind} {i : Int} {n s b o : Nat} [hT : UT C.P T (.array n E)] [hs : SZ C.P E s] (hx : ev ρ x = some (ptr b o)) (hy : ev ρ y = some (.int q i)) (hi : 0 ≤ i ∧ i < n) (hN : Nat.blt d C.N = true)
    (k : SO C ops K dr I rest ((d, ptr b (o + i.toNat * s)) :: ρ) h) : SO C ops K dr I (⟨some d, .indexAddr T x y, ty, pos, aft, none⟩ :: rest) ρ h :=
  o_val rfl rfl rfl hN (fun a w ha _ _ => by
    simp only [execOp, ha.ev hx, ha.ev hy]
    refine ex_v ?_
    simp [Instr.indexAt, asIntOf, run_underlying hT.eq, Instr.sureAddr, hi, hs.run, add_eq]) k
/-- the address of a slice's element -/
theorem ixs {x y : Operand} {T E : TypeId} {q : IntKind} {i : Int} {n c s b o : Nat} [hT : UT C.P T (.slice E)] [hs : SZ C.P E s] (hx : ev ρ x = some (.slice (some ⟨b, o, none⟩) n c)) (hy : ev ρ y = some (.int q i)) (hi : 0 ≤ i ∧ i < n) (hN : Nat.blt d C.N = true)
    (k : SO C ops K dr I rest ((d, ptr b (o + i.toNat * s)) :: ρ) h) : SO C ops K dr I (⟨some d, .indexAddr T x y, ty, pos, aft, none⟩ :: rest) ρ h :=
  o_val rfl rfl rfl hN (fun a w ha _ _ => by
    simp only [execOp, ha.ev hx, ha.ev hy]
    refine ex_v ?_
    simp [Instr.indexAt, asIntOf, run_underlying hT.eq, hi, hs.run, add_eq]) k

/-! ### lengths, texts -/
theorem lns {x : Operand} {T : TypeId} {l : List UInt8} [hT : UT C.P T .string] (hx : ev ρ x = some (str l)) (hN : Nat.blt d C.N = true) (k : SO C ops K dr I rest ((d, i64 l.length) :: ρ) h) :
    SO C ops K dr I (⟨some d, .call { callee := .builtin .len, args := #[x], argTypes := #[T] }, ty, pos, aft, none⟩ :: rest) ρ h :=
  o_val rfl rfl rfl hN (fun a w ha _ _ => by
    have : ByteArray.size ⟨l.toArray⟩ = l.length := by simp [ByteArray.size]
    simp [execOp, resolve, invoke, builtin, ha.ev hx, Builtin.len_, run_underlying hT.eq, goInt, this]) k
theorem lnl {x : Operand} {T E : TypeId} {a0 : Option Addr} {n c : Nat} [hT : UT C.P T (.slice E)] (hx : ev ρ x = some (.slice a0 n c)) (hN : Nat.blt d C.N = true) (k : SO C ops K dr I rest ((d, i64 n) :: ρ) h) :
    SO C ops K dr I (⟨some d, .call { callee := .builtin .len, args := #[x], argTypes := #[T] }, ty, pos, aft, none⟩ :: rest) ρ h :=
  o_val rfl rfl rfl hN (fun a w ha _ _ => by
    simp [execOp, resolve, invoke, builtin, ha.ev hx, Builtin.len_, run_underlying hT.eq, goInt]) k
theorem idx {x y : Operand} {T : TypeId} {q : IntKind} {i : Int} {l : List UInt8} {c : UInt8} [hT : UT C.P T .string] (hx : ev ρ x = some (str l)) (hy : ev ρ y = some (.int q i)) (h0 : 0 ≤ i) (hi : l[i.toNat]? = some c) (hN : Nat.blt d C.N = true)
    (k : SO C ops K dr I rest ((d, .int .u8 c.toNat) :: ρ) h) : SO C ops K dr I (⟨some d, .index T x y, ty, pos, aft, none⟩ :: rest) ρ h :=
  o_val rfl rfl rfl hN (fun a w ha _ _ => by
    simp only [execOp, ha.ev hx, ha.ev hy]
    refine ex_v ?_
    have hlt : i.toNat < l.length := (List.getElem?_eq_some_iff.1 hi).1
    have hsz : (ByteArray.mk l.toArray).size = l.length := by simp [ByteArray.size]
    rw [run_index_string w T ⟨l.toArray⟩ q i hT.eq, dif_pos ⟨h0, by rw [hsz]; omega⟩]
    have : (⟨l.toArray⟩ : ByteArray)[i.toNat]'(by rw [hsz]; omega) = c := by
      simp only [List.getElem?_eq_getElem hlt, Option.some.injEq] at hi
      rw [← hi]; rfl
    rw [this]) k
theorem cat {x y : Operand} {xt yt : TypeId} {l m : List UInt8} (hx : ev ρ x = some (str l)) (hy : ev ρ y = some (str m)) (hl : l.length + m.length ≤ 9223372036854775807) (hN : Nat.blt d C.N = true)
    (k : SO C ops K dr I rest ((d, str (l ++ m)) :: ρ) h) : SO C ops K dr I (⟨some d, .binOp .add xt x y yt, ty, pos, aft, none⟩ :: rest) ρ h :=
  o_val rfl rfl rfl hN (fun a w ha _ _ => by
    simp only [execOp, ha.ev hx, ha.ev hy]
    refine ex_v ?_
    have h1 : ByteArray.size ⟨l.toArray⟩ = l.length := by simp [ByteArray.size]
    have h2 : ByteArray.size ⟨m.toArray⟩ = m.length := by simp [ByteArray.size]
    have h3 : (⟨l.toArray⟩ : ByteArray) ++ ⟨m.toArray⟩ = ⟨(l ++ m).toArray⟩ := by
      apply ByteArray.ext; simp
    simp [eqGuard, binOp, Op.stringOp, h1, h2, h3]
    omega) k
theorem eqs {x y : Operand} {xt yt : TypeId} {l m : List UInt8} (hx : ev ρ x = some (str l)) (hy : ev ρ y = some (str m)) (hN : Nat.blt d C.N = true)
    (k : SO C ops K dr I rest ((d, .bool (l == m)) :: ρ) h) : SO C ops K dr I (⟨some d, .binOp .eql xt x y yt, ty, pos, aft, none⟩ :: rest) ρ h :=
  o_val rfl rfl rfl hN (fun a w ha _ _ => by
    simp only [execOp, ha.ev hx, ha.ev hy]
    refine ex_v ?_
    simp only [Sem.run_bind, eqGuard, binOp, Op.stringOp, toList_mk]
    simp) k
theorem nes {x y : Operand} {xt yt : TypeId} {l m : List UInt8} (hx : ev ρ x = some (str l)) (hy : ev ρ y = some (str m)) (hN : Nat.blt d C.N = true)
    (k : SO C ops K dr I rest ((d, .bool (!(l == m))) :: ρ) h) : SO C ops K dr I (⟨some d, .binOp .neq xt x y yt, ty, pos, aft, none⟩ :: rest) ρ h :=
  o_val rfl rfl rfl hN (fun a w ha _ _ => by
    simp only [execOp, ha.ev hx, ha.ev hy]
    refine ex_v ?_
    simp only [Sem.run_bind, eqGuard, binOp, Op.stringOp, toList_mk]
    simp) k
/-- s[lo:hi] of a text -/
theorem sls {x y z : Operand} {T : TypeId} {q q' : IntKind} {i j : Int} {l : List UInt8} [hT : UT C.P T .string] (hx : ev ρ x = some (str l)) (hy : ev ρ y = some (.int q i)) (hz : ev ρ z = some (.int q' j)) (hi : 0 ≤ i ∧ i ≤ j ∧ j ≤ l.length) (hN : Nat.blt d C.N = true)
    (k : SO C ops K dr I rest ((d, str ((l.drop i.toNat).take (j.toNat - i.toNat))) :: ρ) h) : SO C ops K dr I (⟨some d, .slice T x (some y) (some z) none, ty, pos, aft, none⟩ :: rest) ρ h :=
  o_val rfl rfl rfl hN (fun a w ha _ _ => by
    simp only [execOp, ha.ev hx, ha.ev hy, ha.ev hz, Option.map_some, Option.map_none]
    refine ex_v ?_
    have hsz : (ByteArray.mk l.toArray).size = l.length := by simp [ByteArray.size]
    have hs : (Instr.sliceAt T (.string ⟨l.toArray⟩) (some (.int q i)) (some (.int q' j)) none).run C.P w = (Instr.slice T (.string ⟨l.toArray⟩) (some (.int q i)) (some (.int q' j)) none).run C.P w := by
      simp [Instr.sliceAt, run_underlying hT.eq]
    rw [hs, run_slice_string w T _ q q' i j hT.eq hi.1 hi.2.1 (by rw [hsz]; exact hi.2.2), ByteArray.extract_mk]) k
/-- s[lo:] -/
theorem slf {x y : Operand} {T : TypeId} {q : IntKind} {i : Int} {l : List UInt8} [hT : UT C.P T .string] (hx : ev ρ x = some (str l)) (hy : ev ρ y = some (.int q i)) (hi : 0 ≤ i ∧ i ≤ l.length) (hN : Nat.blt d C.N = true)
    (k : SO C ops K dr I rest ((d, str (l.drop i.toNat)) :: ρ) h) : SO C ops K dr I (⟨some d, .slice T x (some y) none none, ty, pos, aft, none⟩ :: rest) ρ h :=
  o_val rfl rfl rfl hN (fun a w ha _ _ => by
    simp only [execOp, ha.ev hx, ha.ev hy, Option.map_some, Option.map_none]
    refine ex_v ?_
    have hsz : (ByteArray.mk l.toArray).size = l.length := by simp [ByteArray.size]
    have hs : (Instr.sliceAt T (.string ⟨l.toArray⟩) (some (.int q i)) none none).run C.P w = (Instr.slice T (.string ⟨l.toArray⟩) (some (.int q i)) none none).run C.P w := by
      simp [Instr.sliceAt, run_underlying hT.eq]
    have e : (l.drop i.toNat).take (l.length - i.toNat) = l.drop i.toNat := List.take_of_length_le (by simp)
    simp only [hs, Instr.slice, Instr.sliceBounds, Instr.sliceBound, asIntOf, run_underlying hT.eq, Sem.run_bind, Sem.run_pure, Result.andThen_ok, Sem.run_ite, Option.isSome_none, Bool.false_eq_true, if_false, hsz, hi.1, hi.2, and_self, if_true, ByteArray.extract_mk, e]) k
/-- s[:hi] -/
theorem slt {x z : Operand} {T : TypeId} {q : IntKind} {j : Int} {l : List UInt8} [hT : UT C.P T .string] (hx : ev ρ x = some (str l)) (hz : ev ρ z = some (.int q j)) (hi : 0 ≤ j ∧ j ≤ l.length) (hN : Nat.blt d C.N = true)
    (k : SO C ops K dr I rest ((d, str (l.take j.toNat)) :: ρ) h) : SO C ops K dr I (⟨some d, .slice T x none (some z) none, ty, pos, aft, none⟩ :: rest) ρ h :=
  o_val rfl rfl rfl hN (fun a w ha _ _ => by
    simp only [execOp, ha.ev hx, ha.ev hz, Option.map_some, Option.map_none]
    refine ex_v ?_
    have hsz : (ByteArray.mk l.toArray).size = l.length := by simp [ByteArray.size]
    have hs : (Instr.sliceAt T (.string ⟨l.toArray⟩) none (some (.int q j)) none).run C.P w = (Instr.slice T (.string ⟨l.toArray⟩) none (some (.int q j)) none).run C.P w := by
      simp [Instr.sliceAt, run_underlying hT.eq]
    simp only [hs, Instr.slice, Instr.sliceBounds, Instr.sliceBound, asIntOf, run_underlying hT.eq, Sem.run_bind, Sem.run_pure, Result.andThen_ok, Sem.run_ite, Option.isSome_none, Bool.false_eq_true, if_false, hsz, hi.1, hi.2, and_self, if_true, ByteArray.extract_mk, List.drop_zero, Nat.sub_zero]) k

/-! ### values made -/
theorem bld {T : TypeId} {parts : Array (Nat × Operand)} {vs : List (Nat × Value)} {v : Value} (hp : parts.toList.map (fun p => (p.1, ev ρ p.2)) = vs.map (fun p => (p.1, some p.2)))
    (hb : ∀ w, (Instr.build T vs.toArray).run C.P w = .ok v w) (hN : Nat.blt d C.N = true) (k : SO C ops K dr I rest ((d, v) :: ρ) h) : SO C ops K dr I (⟨some d, .build T parts, ty, pos, aft, none⟩ :: rest) ρ h :=
  o_val rfl rfl rfl hN (fun a w ha _ _ => by
    have hm : ∀ (xs : List (Nat × Operand)) (vs : List (Nat × Value)), xs.map (fun p => (p.1, ev ρ p.2)) = vs.map (fun p => (p.1, some p.2)) → xs.map (fun p => (p.1, a.eval p.2)) = vs := by
      intro xs
      induction xs with
      | nil => intro vs e; cases vs; rfl; simp at e
      | cons x xs ih =>
        intro vs e
        cases vs with
        | nil => simp at e
        | cons v vs =>
          simp only [List.map_cons, List.cons.injEq, Prod.mk.injEq] at e
          rw [List.map_cons, ih vs e.2, ha.ev e.1.2, e.1.1]
    have e1 : (parts.map fun (i, x) => (i, a.eval x)) = vs.toArray := Array.ext' (by simpa using hm _ _ hp)
    simp only [execOp]
    refine ex_v ?_
    rw [e1]; exact hb w) k
theorem evp {N : Nat} {ρ : Env} {a : Act} (ha : Ag N ρ a) : ∀ (xs : List (Nat × Operand)) (vs : List (Nat × Value)), xs.map (fun p => (p.1, ev ρ p.2)) = vs.map (fun p => (p.1, some p.2)) → xs.map (fun p => (p.1, a.eval p.2)) = vs := by
  intro xs
  induction xs with
  | nil => intro vs e; cases vs; rfl; simp at e
  | cons x xs ih =>
    intro vs e
    cases vs with
    | nil => simp at e
    | cons v vs =>
      simp only [List.map_cons, List.cons.injEq, Prod.mk.injEq] at e
      rw [List.map_cons, ih vs e.2, ha.ev e.1.2, e.1.1]
theorem evs {N : Nat} {ρ : Env} {a : Act} (ha : Ag N ρ a) : ∀ (xs : List Operand) (vs : List Value), xs.map (ev ρ) = vs.map some → xs.map a.eval = vs := by
  intro xs
  induction xs with
  | nil => intro vs e; cases vs; rfl; simp at e
  | cons x xs ih =>
    intro vs e
    cases vs with
    | nil => simp at e
    | cons v vs =>
      simp only [List.map_cons, List.cons.injEq] at e
      rw [List.map_cons, ha.ev e.1, ih vs e.2]

/-! ### new blocks -/
theorem o_new {o : Oper} {ob : Obj} {v : Value} (hg : o.guard = none) (hl : isLoud o = true) (hd : o.dst = some d) (hN : Nat.blt d C.N = true)
    (hv : ∀ a w, Ag C.N ρ a → w.heap = h → (execOp a.eval o).run C.P w = .ok (.value v) { w with heap := w.heap.push ob })
    (hI : dr = true → ∀ h', New h ob h' → I h') (k : ∀ h', New h ob h' → SO C ops K dr I rest ((d, v) :: ρ) h') : SO C ops K dr I (o :: rest) ρ h :=
  o_act (R := fun v' h' => v' = v ∧ New h ob h') hg (fun _ => hl) (fun d' e => by rw [hd] at e; cases e; exact hN)
    (fun a w K' ha hh hw hk => by
      unfold Loud
      rw [hv a w ha hh]
      exact hk v _ ⟨hw.os, hw.tape, hw.output⟩ ⟨rfl, hh ▸ New.push w.heap ob⟩)
    (fun e v' h' ⟨_, hn⟩ => hI e h' hn) (fun v' h' ⟨e, hn⟩ => by rw [hd, e]; exact k h' hn)
theorem alc {T : TypeId} {cs : Array Value} [hz : ZV C.P T cs] (hI : dr = true → ∀ h', New h (.cells cs T) h' → I h') (hN : Nat.blt d C.N = true) (k : ∀ h', New h (.cells cs T) h' → SO C ops K dr I rest ((d, ptr h.size 0) :: ρ) h') : SO C ops K dr I (⟨some d, .alloc T, ty, pos, aft, none⟩ :: rest) ρ h :=
  o_new rfl rfl rfl hN (fun a w ha hh => by
    simp only [execOp]
    rw [← hh]
    exact ex_v (hz.run w)) hI k
theorem bx {T : TypeId} {x : Operand} {v : Value} (hx : ev ρ x = some v) (hI : dr = true → ∀ h', New h (.cells v.cells T) h' → I h') (hN : Nat.blt d C.N = true) (k : ∀ h', New h (.cells v.cells T) h' → SO C ops K dr I rest ((d, ptr h.size 0) :: ρ) h') : SO C ops K dr I (⟨some d, .box T x, ty, pos, aft, none⟩ :: rest) ρ h :=
  o_new rfl rfl rfl hN (fun a w ha hh => by
    simp only [execOp, ha.ev hx]
    rw [← hh]
    exact ex_v (by simp [Instr.box, newVar, newRow])) hI k
/-- a slice's literal -/
theorem bsl {T E : TypeId} {len : Nat} {parts : Array (Nat × Operand)} {vs : List (Nat × Value)} {cs : Array Value} (hp : parts.toList.map (fun p => (p.1, ev ρ p.2)) = vs.map (fun p => (p.1, some p.2)))
    (hb : ∀ w, (Instr.buildSlice T len vs.toArray).run C.P w = .ok (.slice (some ⟨w.heap.size, 0, none⟩) len len) { w with heap := w.heap.push (.cells cs E) })
    (hI : dr = true → ∀ h', New h (.cells cs E) h' → I h') (hN : Nat.blt d C.N = true) (k : ∀ h', New h (.cells cs E) h' → SO C ops K dr I rest ((d, .slice (some ⟨h.size, 0, none⟩) len len) :: ρ) h') : SO C ops K dr I (⟨some d, .buildSlice T len parts, ty, pos, aft, none⟩ :: rest) ρ h :=
  o_new rfl rfl rfl hN (fun a w ha hh => by
    have e1 : (parts.map fun (i, x) => (i, a.eval x)) = vs.toArray := Array.ext' (by simpa using evp ha _ _ hp)
    simp only [execOp]
    rw [← hh]
    refine ex_v ?_
    rw [e1]; exact hb w) hI k

/-! ### stores -/
theorem o_upd {o : Oper} {b : Nat} {ob : Obj} (hg : o.guard = none) (hl : isLoud o = true) (hd : o.dst = none)
    (hv : ∀ a w, Ag C.N ρ a → w.heap = h → ∃ w', (execOp a.eval o).run C.P w = .ok .skip w' ∧ Amb w w' ∧ Upd h b ob w'.heap)
    (hI : dr = true → ∀ h', Upd h b ob h' → I h') (k : ∀ h', Upd h b ob h' → SO C ops K dr I rest ρ h') : SO C ops K dr I (o :: rest) ρ h :=
  o_act (R := fun _ h' => Upd h b ob h') hg (fun _ => hl) (fun d' e => by rw [hd] at e; cases e)
    (fun a w K' ha hh hw hk => by
      obtain ⟨w', hr, hA, hu⟩ := hv a w ha hh
      unfold Loud
      rw [hr]
      exact hk _ _ (hw.trans hA) hu)
    (fun e v' h' hn => hI e h' hn) (fun v' h' hn => by rw [hd]; exact k h' hn)
theorem st {T E : TypeId} {x y : Operand} {b o : Nat} {v : Value} {cs : Array Value} [hT : SN C.P T 1] (hx : ev ρ x = some (ptr b o)) (hy : ev ρ y = some v) (h1 : v.oneCell' = true) (hb : h[b]? = some (.cells cs E (0, 0))) (ho : Nat.blt o cs.size = true)
    (hI : dr = true → ∀ h', Upd h b (.cells (cs.setIfInBounds o v) E (0, 0)) h' → I h') (k : ∀ h', Upd h b (.cells (cs.setIfInBounds o v) E (0, 0)) h' → SO C ops K dr I rest ρ h') : SO C ops K dr I (⟨none, .store T x y, ty, pos, aft, none⟩ :: rest) ρ h :=
  o_upd rfl rfl rfl (fun a w ha hh => by
    subst hh
    have hoo : o < cs.size := Nat.blt_eq.mp ho
    refine ⟨w.setCell ⟨b, o, none⟩ v, ?_, ⟨rfl, rfl, rfl⟩, setCell_upd hb v⟩
    simp only [execOp, ha.ev hx, ha.ev hy]
    refine ex_u ?_
    have hcs : v.cells = #[v] := by cases v <;> first | rfl | (simp [Value.oneCell'] at h1)
    have hc : w.cell? ⟨b, o, none⟩ = some cs[o] := by rw [cell_eq]; exact cell hb (by simp [hoo])
    have hf : w.frozen? ⟨b, o, none⟩ = false := by simp [World.frozen?, hb]
    simp only [Instr.storeAt, Instr.sureAddr, Sem.run_bind, Sem.run_pure, Result.andThen_ok, hT.run, hcs, List.size_toArray, List.length_cons, List.length_nil, Nat.zero_add, ne_eq, not_true_eq_false, if_false, storeCells, add_eq, Nat.add_zero, run_store _ _ _ _ _ h1, hc, hf, Bool.false_eq_true]) hI k
theorem stn {T E : TypeId} {x y : Operand} {b o n : Nat} {vs cs : Array Value} [hT : SN C.P T n] (hx : ev ρ x = some (ptr b o)) (hy : ev ρ y = some (.agg vs)) (hn : vs.size = n) (h1 : ∀ v ∈ vs.toList, v.oneCell' = true) (hb : h[b]? = some (.cells cs E (0, 0))) (ho : o + n ≤ cs.size)
    (hI : dr = true → ∀ h', Upd h b (.cells (cs.toList.take o ++ vs.toList ++ cs.toList.drop (o + n)).toArray E (0, 0)) h' → I h')
    (k : ∀ h', Upd h b (.cells (cs.toList.take o ++ vs.toList ++ cs.toList.drop (o + n)).toArray E (0, 0)) h' → SO C ops K dr I rest ρ h') : SO C ops K dr I (⟨none, .store T x y, ty, pos, aft, none⟩ :: rest) ρ h :=
  o_upd rfl rfl rfl (fun a w ha hh => by
    subst hh
    have hl : vs.toList.length = n := by simpa using hn
    have hst := run_storeCells_at C.P b o E vs.toList 0 cs w hb (by omega) h1
    simp only [Nat.add_zero, hl] at hst
    refine ⟨w.setRow b (cs.toList.take o ++ vs.toList ++ cs.toList.drop (o + n)).toArray, ?_, ⟨rfl, rfl, rfl⟩, setRow_upd hb⟩
    simp only [execOp, ha.ev hx, ha.ev hy]
    refine ex_u ?_
    simp only [Instr.storeAt, Instr.sureAddr, Sem.run_bind, Sem.run_pure, Result.andThen_ok, hT.run, Value.cells, hn, ne_eq, not_true_eq_false, if_false, hst]) hI k
/-- the whole block -/
theorem stw {T E : TypeId} {x y : Operand} {b n : Nat} {vs cs : Array Value} [hT : SN C.P T n] (hx : ev ρ x = some (ptr b 0)) (hy : ev ρ y = some (.agg vs)) (hn : vs.size = n) (h1 : ∀ v ∈ vs.toList, v.oneCell' = true) (hb : h[b]? = some (.cells cs E (0, 0))) (ho : cs.size = n)
    (hI : dr = true → ∀ h', Upd h b (.cells vs E (0, 0)) h' → I h') (k : ∀ h', Upd h b (.cells vs E (0, 0)) h' → SO C ops K dr I rest ρ h') : SO C ops K dr I (⟨none, .store T x y, ty, pos, aft, none⟩ :: rest) ρ h := by
  have e : (cs.toList.take 0 ++ vs.toList ++ cs.toList.drop (0 + n)).toArray = vs := by
    have : cs.toList.drop (0 + n) = [] := List.drop_of_length_le (by simp; omega)
    rw [this]; simp
  refine stn hx hy hn h1 hb (by omega) ?_ ?_
  · rw [e]; exact hI
  · rw [e]; exact k

/-! ### calls -/
theorem cll {g : Operand} {args : Array Operand} {ats : Array TypeId} {f : Nat} {first captured vs : List Value} {R : Value → Heap → Prop} (hg : ev ρ g = some (.func (.func f) first.toArray captured.toArray)) (hp : args.toList.map (ev ρ) = vs.map some)
    (hf : Does C.P f (first ++ vs ++ captured) h R) (hN : Nat.blt d C.N = true) (hI : dr = true → ∀ v h', R v h' → I h') (k : ∀ v h', R v h' → SO C ops K dr I rest ((d, v) :: ρ) h') :
    SO C ops K dr I (⟨some d, .call { callee := .value g, args := args, argTypes := ats }, ty, pos, aft, none⟩ :: rest) ρ h :=
  o_act (R := R) rfl (fun _ => rfl) (fun d' e => by cases e; exact hN)
    (fun a w K' ha hh hw hk => by
      obtain ⟨⟨fn, hfn, hnm, hbd⟩, hc⟩ := hf
      have e1 : args.map a.eval = vs.toArray := Array.ext' (by simpa using evs ha _ _ hp)
      have hrun : (execOp a.eval ⟨some d, .call { callee := .value g, args := args, argTypes := ats }, ty, pos, aft, none⟩).run C.P w = .ok (.enter f (first ++ vs ++ captured).toArray) w := by
        have e2 : (first.toArray ++ vs.toArray ++ captured.toArray) = (first ++ vs ++ captured).toArray := by simp
        simp only [execOp, resolve, e1, ha.ev hg, Deferred.ofValue, Sem.run_bind, Sem.run_pure, Result.andThen_ok, invoke, callFunc, run_program, hfn, hnm, hbd, Bool.false_eq_true, if_false, e2]
      unfold Loud
      rw [hrun]
      exact (hc w hh).mono fun e w'' ⟨v, he, hA, hR⟩ => ⟨v, he, hk v w'' (hw.trans hA) hR⟩)
    hI (fun v h' hR => k v h' hR)
/-- a call of a named function -/
theorem cl {f : Nat} {args : Array Operand} {ats : Array TypeId} {vs : List Value} {R : Value → Heap → Prop} (hp : args.toList.map (ev ρ) = vs.map some) (hf : Does C.P f vs h R) (hN : Nat.blt d C.N = true) (k : ∀ v h', R v h' → SO C ops K false I rest ((d, v) :: ρ) h') :
    SO C ops K false I (⟨some d, .call { callee := .value (.func f), args := args, argTypes := ats }, ty, pos, aft, none⟩ :: rest) ρ h :=
  cll (first := []) (captured := []) rfl hp (by simpa using hf) hN (by simp) k
theorem clI {f : Nat} {args : Array Operand} {ats : Array TypeId} {vs : List Value} {R : Value → Heap → Prop} (hp : args.toList.map (ev ρ) = vs.map some) (hf : Does C.P f vs h R) (hI : ∀ v h', R v h' → I h') (hN : Nat.blt d C.N = true) (k : ∀ v h', R v h' → SO C ops K true I rest ((d, v) :: ρ) h') :
    SO C ops K true I (⟨some d, .call { callee := .value (.func f), args := args, argTypes := ats }, ty, pos, aft, none⟩ :: rest) ρ h :=
  cll (first := []) (captured := []) rfl hp (by simpa using hf) hN (fun _ => hI) k
end op
end Go.Eng
