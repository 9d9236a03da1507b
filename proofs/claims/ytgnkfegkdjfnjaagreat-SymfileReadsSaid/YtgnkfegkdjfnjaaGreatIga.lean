/- Plain facts of the maps' keys. Walks of what tells a name: letters, digits, words. Walks of the program's own names: bytes that are gone through. Walks of the tables' small functions: bare, plain, part, a type's form. The walk of tables' formed: has a type what its form has, and nothing else? No condition but what each theorem says. -/
import Derived.Test.YtgnkfegkdjfnjaaGreatTab
namespace Go.Proofs.YtgnkfegkdjfnjaaGreat
/-! Plain facts of the maps' keys. No condition but what each theorem says. -/
section
open Go Go.Eng
theorem cells_s : Tryz.prog.cellsOf 9 = 1 := by kernel_rfl
theorem cells_i : Tryz.prog.cellsOf 3 = 1 := by kernel_rfl
theorem cells_b : Tryz.prog.cellsOf 4 = 1 := by kernel_rfl
theorem cells_K : Tryz.prog.cellsOf 106 = 2 := by kernel_rfl
theorem cells_S : Tryz.prog.cellsOf 110 = 3 := by kernel_rfl
theorem cells_R : Tryz.prog.cellsOf 125 = 2 := by kernel_rfl
theorem sz_mk (l : List UInt8) : (ByteArray.mk l.toArray).size = l.length := rfl
theorem types_n : ∃ z, Tryz.prog.types.size = z + 2 := ⟨Tryz.prog.types.size - 2, by kernel_rfl⟩
theorem kl_struct {P : Program} {t : TypeId} {fs : Array Field} (hu : P.underlying t = some (.struct fs)) (d : Nat) (cs : List Value) : P.keyLits (d + 1) t cs =
    if cs.length = P.cellsOf t ∧ fs.all (·.name != "_") = true then (fs.toList.mapM fun f => P.keyLits d f.type ((cs.drop f.offset).take (P.cellsOf f.type))).map List.flatten else none := by
  rw [Program.keyLits.eq_def]; simp only [hu]
theorem lits_s {l : List UInt8} (h : l.length ≤ maxLen) (d : Nat) : Tryz.prog.keyLits (d + 1) 9 [str l] = some [.string l] := by
  rw [Program.keyLits.eq_def]; simp only [Tryz.underlying9, sz_mk, h, if_true]
theorem lits_i {n : Int} (h : -9223372036854775808 ≤ n ∧ n ≤ 9223372036854775807) (d : Nat) : Tryz.prog.keyLits (d + 1) 3 [i64 n] = some [.int .i64 n] := by
  have h1 : IntKind.i64.min = -9223372036854775808 := by decide
  have h2 : IntKind.i64.max = 9223372036854775807 := by decide
  rw [Program.keyLits.eq_def]; simp [Tryz.underlying3, Lit.wf, h1, h2, h]
theorem lits_b (b : Bool) (d : Nat) : Tryz.prog.keyLits (d + 1) 4 [.bool b] = some [.bool b] := by
  rw [Program.keyLits.eq_def]; simp only [Tryz.underlying4]
theorem lits_K {m n : List UInt8} (hm : m.length ≤ maxLen) (hn : n.length ≤ maxLen) (d : Nat) : ∃ r, Tryz.prog.keyLits (d + 2) 106 [str m, str n] = some r := by
  rw [kl_struct Tryz.underlying106]
  exact ⟨[.string m, .string n], by simp [cells_K, cells_s, lits_s hm, lits_s hn]⟩
theorem lits_S {m n : List UInt8} (hm : m.length ≤ maxLen) (hn : n.length ≤ maxLen) (b : Bool) (d : Nat) : ∃ r, Tryz.prog.keyLits (d + 3) 110 [str m, str n, .bool b] = some r := by
  rw [kl_struct Tryz.underlying110]
  obtain ⟨r, hr⟩ := lits_K hm hn d
  exact ⟨r ++ [.bool b], by simp [cells_S, cells_K, cells_b, hr, lits_b]⟩
theorem lits_R {m : List UInt8} {n : Int} (hm : m.length ≤ maxLen) (hn : -9223372036854775808 ≤ n ∧ n ≤ 9223372036854775807) (d : Nat) : ∃ r, Tryz.prog.keyLits (d + 2) 125 [str m, i64 n] = some r := by
  rw [kl_struct Tryz.underlying125]
  exact ⟨[.string m, .int .i64 n], by simp [cells_R, cells_s, cells_i, lits_s hm, lits_i hn]⟩
theorem key_some {P : Program} {k : TypeId} {fs : Array Field} {cs : Array Value} (hu : P.underlying k = some (.struct fs)) (kt : P.keyType k = true) (hn : cs.size = P.cellsOf k) (hr : ∃ r, P.keyLits (P.types.size + 1) k cs.toList = some r) : (keyOf P k (.agg cs)).isSome = true := by
  obtain ⟨r, hr⟩ := hr
  have hf : (Value.agg cs).formed P k = true := by simp [Value.formed, hu, hn]
  simp only [keyOf, hu, kt, hf, Bool.and_true, if_true, Value.cells, hr]; rfl
theorem keyK {m n : List UInt8} (hm : m.length ≤ maxLen) (hn : n.length ≤ maxLen) : (keyOf Tryz.prog 106 (.agg #[str m, str n])).isSome = true := by
  obtain ⟨z, hz⟩ := types_n
  exact key_some Tryz.underlying106 (by kernel_rfl) cells_K.symm (by rw [hz]; exact lits_K hm hn (z + 1))
theorem keyS {m n : List UInt8} (hm : m.length ≤ maxLen) (hn : n.length ≤ maxLen) (b : Bool) : (keyOf Tryz.prog 110 (.agg #[str m, str n, .bool b])).isSome = true := by
  obtain ⟨z, hz⟩ := types_n
  exact key_some Tryz.underlying110 (by kernel_rfl) cells_S.symm (by rw [hz]; exact lits_S hm hn b z)
theorem keyR {m : List UInt8} {n : Int} (hm : m.length ≤ maxLen) (hn : -9223372036854775808 ≤ n ∧ n ≤ 9223372036854775807) : (keyOf Tryz.prog 125 (.agg #[str m, i64 n])).isSome = true := by
  obtain ⟨z, hz⟩ := types_n
  exact key_some Tryz.underlying125 (by kernel_rfl) cells_R.symm (by rw [hz]; exact lits_R hm hn (z + 1))
theorem keys {m : List UInt8} (hm : m.length ≤ maxLen) : (keyOf Tryz.prog 9 (str m)).isSome = true := by
  simp only [keyOf, Tryz.underlying9, mapKey, sz_mk, hm, if_true]; rfl
end

/-! Walks of what tells a name: letters, digits, words. No condition but what each theorem says. -/
section
open Go Go.Eng

def letterP (c : UInt8) : Prop := (97 ≤ c.toNat ∧ c.toNat ≤ 122) ∨ (65 ≤ c.toNat ∧ c.toNat ≤ 90)
def digitP (c : UInt8) : Prop := 48 ≤ c.toNat ∧ c.toNat ≤ 57
/-- a letter, and letters and digits, of at most 24 bytes -/
def WordP (s : Bytes) : Prop := 1 ≤ s.length ∧ s.length ≤ 24 ∧ letterP (s[0]?.getD 0) ∧ ∀ i, i < s.length → letterP (s[i]?.getD 0) ∨ digitP (s[i]?.getD 0)
theorem getq {l : List UInt8} {i : Nat} (h : i < l.length) : l[i]? = some (l[i]?.getD 0) := by rw [List.getElem?_eq_getElem h]; rfl

theorem letter_fn (c : UInt8) (h : Heap) : Does Tryz.prog 87 [.int .u8 (c.toNat : Int)] h (fun v h' => h' = h ∧ v = .bool (tb (letterP c))) := by
  refine fn_enter (N := 17) Tryz.func87 (by kernel_rfl) rfl rfl rfl (fun w0 => ?_)
  refine c_seq ?_; refine c_reg ?_; refine asg rfl rfl ?_; refine o_nil ?_; refine x_seq ?_; refine c_seq ?_; refine c_reg ?_
  refine mv rfl rfl (gei rfl rfl rfl (mv rfl rfl (gqt rfl rfl rfl (fun e => mv rfl rfl) (gqt rfl rfl rfl (fun e => lei (cg rfl e) rfl rfl) (pka rfl rfl rfl rfl (mv rfl rfl ?_))))))
  refine gqf rfl rfl rfl (fun e => mv rfl rfl) (gqf rfl rfl rfl (fun e => gei (cg rfl e) rfl rfl) (gqf rfl rfl rfl (fun e => mv (cg rfl e) rfl) (gqt2 rfl rfl rfl (fun e => mv rfl rfl) ?_)))
  refine gqt2 rfl rfl rfl (fun e => lei (cg rfl e) rfl rfl) (gqf rfl rfl rfl (fun e => pka (cg rfl e) (cg2 rfl e) rfl rfl) (pko rfl rfl rfl rfl (asg rfl rfl ?_)))
  refine o_nil ?_; refine x_seq ?_; refine c_ret ?_; refine ret1 (.inr rfl) rfl rfl ?_
  exact ⟨rfl, vtb (by unfold letterP; omega)⟩
theorem digit_fn (c : UInt8) (h : Heap) : Does Tryz.prog 88 [.int .u8 (c.toNat : Int)] h (fun v h' => h' = h ∧ v = .bool (tb (digitP c))) := by
  refine fn_enter (N := 9) Tryz.func88 (by kernel_rfl) rfl rfl rfl (fun w0 => ?_)
  refine c_seq ?_; refine c_reg ?_; refine asg rfl rfl ?_; refine o_nil ?_; refine x_seq ?_; refine c_seq ?_; refine c_reg ?_
  refine mv rfl rfl (gei rfl rfl rfl (mv rfl rfl (gqt rfl rfl rfl (fun e => mv rfl rfl) (gqt rfl rfl rfl (fun e => lei (cg rfl e) rfl rfl) (pka rfl rfl rfl rfl (asg rfl rfl ?_))))))
  refine o_nil ?_; refine x_seq ?_; refine c_ret ?_; refine ret1 (.inr rfl) rfl rfl ?_
  exact ⟨rfl, vtb (by unfold digitP; omega)⟩

theorem Word9_fn (s : Bytes) (h : Heap) : Does Tryz.prog 78 [str s] h (fun v h' => h' = h ∧ v = .bool (tb (WordP s))) := by
  refine fn_enter (N := 36) Tryz.func78 (by kernel_rfl) rfl rfl rfl (fun w0 => ?_)
  refine c_seq ?_; refine c_reg ?_; refine asg rfl rfl ?_; refine o_nil ?_; refine x_seq ?_; refine c_seq ?_; refine c_seq ?_; refine c_reg ?_
  refine mv rfl rfl (lns rfl rfl (lti rfl rfl rfl (mv rfl rfl (gqf rfl rfl rfl (fun e => mv rfl rfl) (gqf rfl rfl rfl (fun e => lns (cg rfl e) rfl) (gqf rfl rfl rfl (fun e => gti (cg rfl e) rfl rfl) ?_))))))
  refine pko rfl rfl rfl rfl (mv rfl rfl (gqf rfl rfl rfl (fun e => mv rfl rfl) (gqf rfl rfl rfl (fun e => idx (cg rfl e) rfl (by omega) (getq (by simp; omega)) rfl) (gqf rfl rfl rfl (fun e => clp (letter_fn _ _) (a1 (cg rfl e)) rfl) ?_))))
  refine gqf rfl rfl rfl (fun e => nt (cg rfl e) rfl) (pko rfl rfl rfl rfl ?_)
  refine o_nil ?_; refine x_seq ?_; refine c_cond rfl (fun c1 => ?_) (fun c1 => ?_)
  · refine c_seq ?_
    refine c_reg ?_; refine asg rfl rfl ?_; refine o_nil ?_; refine x_seq ?_; refine c_ret ?_; refine x_seq_ret ?_; refine ret1 (.inr rfl) rfl rfl ?_
    refine ⟨rfl, congrArg Value.bool (tb_f (fun hw => ?_)).symm⟩
    obtain ⟨h1, h2, h3, -⟩ := hw
    rcases c1 with (c | c) | c
    · omega
    · omega
    · exact c h3
  · have c2 : 1 ≤ s.length ∧ s.length ≤ 24 ∧ letterP (s[0]?.getD 0) := by
      refine ⟨?_, ?_, ?_⟩
      · exact Nat.le_of_not_lt fun e => c1 (.inl (.inl (by omega)))
      · exact Nat.le_of_not_lt fun e => c1 (.inl (.inr (by omega)))
      · exact Classical.byContradiction fun e => c1 (.inr e)
    refine c_skip ?_
    refine x_seq ?_; refine c_seq ?_; refine c_seq ?_; refine c_reg ?_; refine asg rfl rfl ?_; refine o_nil ?_; refine x_seq ?_; refine c_blk ?_
    refine c_loop (α := Nat) (fun i => [(0, str s), (3, i64 (i : Nat))]) (fun _ => h) (fun i => 1 ≤ i ∧ i ≤ s.length ∧ ∀ j, j < i → letterP (s[j]?.getD 0) ∨ digitP (s[j]?.getD 0)) (fun i => s.length - i) 1
      ⟨by omega, by omega, fun j hj => by rw [show j = 0 by omega]; exact .inl c2.2.2⟩ ⟨rfl, rfl, trivial⟩ rfl (fun i hi => ?_)
    obtain ⟨hi1, hil, hall⟩ := hi
    refine c_seq ?_; refine c_seq ?_; refine c_reg ?_; refine mv rfl rfl (mv rfl rfl (lns rfl rfl (lti rfl rfl rfl ?_)))
    refine o_nil ?_; refine x_seq ?_; refine c_cond rfl (fun c2' => ?_) (fun c2' => ?_)
    · have hlt : i < s.length := by omega
      refine c_skip ?_
      refine x_seq ?_; refine c_seq ?_; refine c_blk ?_; refine c_seq ?_; refine c_reg ?_
      refine mv rfl rfl (mv rfl rfl (idx rfl rfl (by omega) (getq (i := i) hlt) rfl (clp (letter_fn _ _) rfl rfl (nt rfl rfl (mv rfl rfl (gqt rfl rfl rfl (fun e => mv rfl rfl) (gqt rfl rfl rfl (fun e => mv rfl rfl) ?_)))))))
      refine gqt rfl rfl rfl (fun e => idx (cg rfl e) (cg rfl e) (by omega) (getq (i := i) hlt) rfl) (gqt rfl rfl rfl (fun e => clp (digit_fn _ _) (a1 (cg rfl e)) rfl) (gqt rfl rfl rfl (fun e => nt (cg rfl e) rfl) ?_))
      refine pka rfl rfl rfl rfl ?_; refine o_nil ?_; refine x_seq ?_; refine c_cond rfl (fun c3 => ?_) (fun c3 => ?_)
      · refine c_seq ?_
        refine c_reg ?_; refine asg rfl rfl ?_; refine o_nil ?_; refine x_seq ?_; refine c_ret ?_; refine x_blk_ret ?_; refine x_seq_ret ?_
        refine x_loop_ret ?_; refine x_blk_ret ?_; refine x_seq_ret ?_; refine ret1 (.inr rfl) rfl rfl ?_
        refine ⟨rfl, congrArg Value.bool (tb_f (fun hw => ?_)).symm⟩
        exact (hw.2.2.2 i hlt).elim c3.1 c3.2
      · refine c_skip ?_
        refine x_blk ?_; refine x_seq ?_; refine c_reg ?_; refine mv rfl rfl (add rfl rfl (by omega) rfl (asg rfl rfl ?_))
        refine o_nil ?_
        refine x_loop (i + 1) ⟨by omega, hlt, fun j hj => ?_⟩ (by omega) ⟨rfl, rfl, trivial⟩ rfl
        rcases Nat.lt_or_ge j i with e | e
        · exact hall j e
        · rw [show j = i by omega]
          exact Classical.byContradiction fun e => c3 ⟨fun e1 => e (.inl e1), fun e1 => e (.inr e1)⟩
    · have : i = s.length := by omega
      subst this
      refine c_exit ?_
      refine x_seq_exit ?_; refine x_loop_exit ?_; refine x_blk_hit ?_; refine x_seq ?_; refine c_seq ?_; refine c_reg ?_; refine asg rfl rfl ?_
      refine o_nil ?_; refine x_seq ?_; refine c_ret ?_; refine ret1 (.inr rfl) rfl rfl ?_
      exact ⟨rfl, congrArg Value.bool (tb_t ⟨c2.1, c2.2.1, c2.2.2, hall⟩).symm⟩
theorem word13_fn (s : Bytes) (h : Heap) : Does Tryz.prog 89 [str s] h (fun v h' => h' = h ∧ v = .bool (tb (WordP s))) := by
  refine fn_enter (N := 5) Tryz.func89 (by kernel_rfl) rfl rfl rfl (fun w0 => ?_)
  refine c_seq ?_; refine c_reg ?_; refine asg rfl rfl ?_; refine o_nil ?_; refine x_seq ?_; refine c_seq ?_; refine c_reg ?_
  refine mv rfl rfl (clp (Word9_fn _ _) rfl rfl (asg rfl rfl ?_))
  refine o_nil ?_; refine x_seq ?_; refine c_ret ?_; refine ret1 (.inr rfl) rfl rfl ?_
  exact ⟨rfl, rfl⟩
theorem word16_fn (s : Bytes) (h : Heap) : Does Tryz.prog 68 [str s] h (fun v h' => h' = h ∧ v = .bool (tb (WordP s))) := by
  refine fn_enter (N := 5) Tryz.func68 (by kernel_rfl) rfl rfl rfl (fun w0 => ?_)
  refine c_seq ?_; refine c_reg ?_; refine asg rfl rfl ?_; refine o_nil ?_; refine x_seq ?_; refine c_seq ?_; refine c_reg ?_
  refine mv rfl rfl (clp (Word9_fn _ _) rfl rfl (asg rfl rfl ?_))
  refine o_nil ?_; refine x_seq ?_; refine c_ret ?_; refine ret1 (.inr rfl) rfl rfl ?_
  exact ⟨rfl, rfl⟩
end

/-! Walks of the program's own names: bytes that are gone through. No condition but what each theorem says. -/
section
open Go Go.Eng

theorem pos_of {s : Bytes} (h : ¬ s = []) : 0 < s.length := List.length_pos_iff.2 h
theorem idxb_fn {f : Nat} {p : UInt8 → Prop} (hf : ∀ (c : UInt8) (h : Heap), Does Tryz.prog f [.int .u8 (c.toNat : Int)] h (fun v h' => h' = h ∧ v = .bool (tb (p c)))) (l : Bytes) (hl : l.length ≤ 4611686018427387904) {b c : Nat} {h : Heap} (hr : Go.Eng.rowAt h b 0 (bcells l)) :
    Does Tryz.prog 94 [.slice (some ⟨b, 0, none⟩) l.length c, .func (.func f) #[] #[]] h (fun v h' => h' = h ∧ ∃ n, v = i64 n ∧ (0 ≤ n ↔ ∃ c ∈ l, p c)) := by
  refine fn_enter (N := 19) Tryz.func94 (by kernel_rfl) rfl rfl rfl (fun w0 => ?_)
  refine c_seq ?_; refine c_reg ?_; refine asg rfl rfl ?_; refine o_nil ?_; refine x_seq ?_; refine c_seq ?_; refine c_seq ?_; refine c_reg ?_
  refine mv rfl rfl (lnl rfl rfl (mv rfl rfl ?_))
  refine o_nil ?_; refine x_seq ?_; refine c_blk ?_
  refine c_loop (α := Nat) (fun i => [(0, .slice (some ⟨b, 0, none⟩) l.length c), (1, .func (.func f) #[] #[]), (7, i64 (l.length : Nat)), (8, i64 (i : Nat))]) (fun _ => h) (fun i => i ≤ l.length ∧ ∀ j, j < i → ¬ p (l[j]?.getD 0)) (fun i => l.length - i) 0 ⟨by omega, fun j hj => by omega⟩ ⟨rfl, rfl, rfl, rfl, trivial⟩ rfl (fun i hi => ?_)
  obtain ⟨hil, hno⟩ := hi
  refine c_seq ?_; refine c_reg ?_; refine lti rfl rfl rfl ?_; refine o_nil ?_; refine x_seq ?_; refine c_seq ?_
  refine c_cond rfl (fun c1 => ?_) (fun c1 => ?_)
  · have hlt : i < l.length := by omega
    have hcell : cellAt h b (0 + i * 1) = some (.int .u8 ((l[i]?.getD 0).toNat : Int)) := by
      have := hr i (.int .u8 ((l[i]?.getD 0).toNat : Int)) (by simp only [bcells, List.getElem?_map]; rw [getq hlt]; rfl)
      rw [Nat.mul_one]; exact this
    refine c_skip ?_
    refine x_seq ?_; refine c_seq ?_; refine c_blk ?_; refine c_seq ?_; refine c_reg ?_; refine mv rfl rfl (asg rfl rfl ?_)
    refine o_nil ?_; refine x_seq ?_; refine c_seq ?_; refine c_reg ?_
    refine mv rfl rfl (mv rfl rfl (mv rfl rfl (ixs rfl rfl (by omega) rfl (ld rfl hcell rfl (cll (first := []) (captured := []) (vs := [.int .u8 ((l[i]?.getD 0).toNat : Int)]) rfl rfl (hf _ h) rfl nofun (fun v2 h2 r2 => ?_))))))
    obtain ⟨rfl, rfl⟩ := r2
    refine o_nil ?_; refine x_seq ?_; refine c_cond rfl (fun c3 => ?_) (fun c3 => ?_)
    · refine c_seq ?_
      refine c_reg ?_; refine mv rfl rfl (asg rfl rfl ?_)
      refine o_nil ?_; refine x_seq ?_; refine c_ret ?_; refine x_blk_ret ?_; refine x_seq_ret ?_; refine x_loop_ret ?_; refine x_blk_ret ?_
      refine x_seq_ret ?_; refine ret1 (.inr rfl) rfl rfl ?_
      exact ⟨rfl, _, rfl, fun _ => ⟨_, List.mem_of_getElem? (getq hlt), c3⟩, fun _ => by omega⟩
    · refine c_skip ?_
      refine x_blk ?_; refine x_seq ?_; refine c_reg ?_; refine add rfl rfl (by omega) rfl (mv rfl rfl ?_)
      refine o_nil ?_
      refine x_loop (i + 1) ⟨hlt, fun j hj => ?_⟩ (by omega) ⟨rfl, rfl, rfl, rfl, trivial⟩ rfl
      rcases Nat.lt_or_ge j i with e | e
      · exact hno j e
      · rw [show j = i by omega]; exact c3
  · have : i = l.length := by omega
    subst this
    refine c_exit ?_
    refine x_seq_exit ?_; refine x_loop_exit ?_; refine x_blk_hit ?_; refine x_seq ?_; refine c_seq ?_; refine c_reg ?_; refine asg rfl rfl ?_
    refine o_nil ?_; refine x_seq ?_; refine c_ret ?_; refine ret1 (.inr rfl) rfl rfl ?_
    refine ⟨rfl, _, rfl, fun e => by omega, fun ⟨c, hc, hp⟩ => ?_⟩
    obtain ⟨j, hj⟩ := List.mem_iff_getElem?.1 hc
    have hlt := (List.getElem?_eq_some_iff.1 hj).1
    have := hno j hlt
    rw [hj] at this
    exact absurd hp this
theorem contb_fn {f : Nat} {p : UInt8 → Prop} (hf : ∀ (c : UInt8) (h : Heap), Does Tryz.prog f [.int .u8 (c.toNat : Int)] h (fun v h' => h' = h ∧ v = .bool (tb (p c)))) (l : Bytes) (hl : l.length ≤ 4611686018427387904) {b : Nat} (c : Nat) {h : Heap} (hr : Go.Eng.rowAt h b 0 (bcells l)) :
    Does Tryz.prog 83 [.slice (some ⟨b, 0, none⟩) l.length c, .func (.func f) #[] #[]] h (fun v h' => h' = h ∧ v = .bool (tb (∃ c ∈ l, p c))) := by
  refine fn_enter (N := 9) Tryz.func83 (by kernel_rfl) rfl rfl rfl (fun w0 => ?_)
  refine c_seq ?_; refine c_reg ?_; refine asg rfl rfl ?_; refine o_nil ?_; refine x_seq ?_; refine c_seq ?_; refine c_reg ?_
  refine mv rfl rfl (mv rfl rfl (cl (vs := [.slice (some ⟨b, 0, none⟩) l.length c, .func (.func f) #[] #[]]) rfl (idxb_fn hf l hl hr) rfl (fun v1 h1 r1 => ?_)))
  obtain ⟨rfl, n, rfl, hn⟩ := r1
  refine gei rfl rfl rfl (asg rfl rfl ?_)
  refine o_nil ?_; refine x_seq ?_; refine c_ret ?_; refine ret1 (.inr rfl) rfl rfl ?_
  exact ⟨rfl, vtb hn⟩
theorem named1_fn (c : UInt8) (h : Heap) : Does Tryz.prog 84 [.int .u8 (c.toNat : Int)] h (fun v h' => h' = h ∧ v = .bool (tb (¬ (letterP c ∨ digitP c)))) := by
  refine fn_enter (N := 25) Tryz.func84 (by kernel_rfl) rfl rfl rfl (fun w0 => ?_)
  refine c_seq ?_; refine c_reg ?_; refine asg rfl rfl ?_; refine o_nil ?_; refine x_seq ?_; refine c_seq ?_; refine c_reg ?_
  refine mv rfl rfl (lti rfl rfl rfl (mv rfl rfl (gqf rfl rfl rfl (fun e => mv rfl rfl) (gqf rfl rfl rfl (fun e => gti (cg rfl e) rfl rfl) (pko rfl rfl rfl rfl (mv rfl rfl ?_))))))
  refine gqt rfl rfl rfl (fun e => mv rfl rfl) (gqt rfl rfl rfl (fun e => lti (cg rfl e) rfl rfl) (gqt rfl rfl rfl (fun e => mv (cg rfl e) rfl) (gqf2 rfl rfl rfl (fun e => mv rfl rfl) ?_)))
  refine gqf2 rfl rfl rfl (fun e => gti (cg rfl e) rfl rfl) (gqt rfl rfl rfl (fun e => pko (cg rfl e) rfl (cg2 rfl e) rfl) (pka rfl rfl rfl rfl (mv rfl rfl (gqt rfl rfl rfl (fun e => mv rfl rfl) ?_))))
  refine gqt rfl rfl rfl (fun e => lti (cg rfl e) rfl rfl) (gqt rfl rfl rfl (fun e => mv (cg rfl e) rfl) (gqf2 rfl rfl rfl (fun e => mv rfl rfl) (gqf2 rfl rfl rfl (fun e => gti (cg rfl e) rfl rfl) ?_)))
  refine gqt rfl rfl rfl (fun e => pko (cg rfl e) rfl (cg2 rfl e) rfl) (pka rfl rfl rfl rfl (asg rfl rfl ?_))
  refine o_nil ?_; refine x_seq ?_; refine c_ret ?_; refine ret1 (.inr rfl) rfl rfl ?_
  exact ⟨rfl, vtb (by unfold letterP digitP; omega)⟩
theorem named_fn (s : Bytes) (h : Heap) : Does Tryz.prog 72 [str s] h (fun v h' => v = .bool (tb (WordP s)) ∧ Ext h h') := by
  refine fn_enter (N := 19) Tryz.func72 (by kernel_rfl) rfl rfl rfl (fun w0 => ?_)
  refine c_seq ?_; refine c_reg ?_; refine asg rfl rfl ?_; refine o_nil ?_; refine x_seq ?_; refine c_seq ?_; refine c_seq ?_; refine c_reg ?_
  refine mv rfl rfl (eqs rfl rfl rfl (mv rfl rfl (gqf rfl rfl rfl (fun e => mv rfl rfl) (gqf rfl rfl rfl (fun e => lns (cg rfl e) rfl) (gqf rfl rfl rfl (fun e => gti (cg rfl e) rfl rfl) ?_)))))
  refine pko rfl rfl rfl rfl (mv rfl rfl (gqf rfl rfl rfl (fun e => mv rfl rfl) (gqf rfl rfl rfl (fun e => idx (cg rfl e) rfl (by omega) (getq (pos_of (fun e1 => e (.inl e1)))) rfl) (gqf rfl rfl rfl (fun e => lei (cg rfl e) rfl rfl) ?_))))
  refine pko rfl rfl rfl rfl ?_; refine o_nil ?_; refine x_seq ?_; refine c_cond rfl (fun c1 => ?_) (fun c1 => ?_)
  · refine c_seq ?_
    refine c_reg ?_; refine asg rfl rfl ?_; refine o_nil ?_; refine x_seq ?_; refine c_ret ?_; refine x_seq_ret ?_; refine ret1 (.inr rfl) rfl rfl ?_
    refine ⟨congrArg Value.bool (tb_f (fun hw => ?_)).symm, Mod.refl _ _⟩
    obtain ⟨h1, h2, h3, -⟩ := hw
    unfold letterP at h3
    rcases c1 with (c | c) | c
    · subst c; simp at h1
    · omega
    · have c' : ((s[0]?.getD 0).toNat : Int) ≤ 57 := c
      omega
  · have h1 : 1 ≤ s.length := pos_of (fun e => c1 (.inl (.inl e)))
    have h2 : s.length ≤ 24 := Nat.le_of_not_lt fun e => c1 (.inl (.inr (by omega)))
    have h3 : ¬ (s[0]?.getD 0).toNat ≤ 57 := fun e => c1 (.inr (show ((s[0]?.getD 0).toNat : Int) ≤ 57 by omega))
    refine c_skip ?_
    refine x_seq ?_; refine c_seq ?_; refine c_reg ?_; refine mv rfl rfl (cvb rfl rfl (fun cp2 h2 x2 o2 => ?_))
    refine cl (vs := [.slice (some ⟨h.size, 0, none⟩) s.length cp2, .func (.func 84) #[] #[]]) rfl (contb_fn named1_fn s (by omega) _ o2) rfl (fun v3 h3 r3 => ?_)
    obtain ⟨rfl, rfl⟩ := r3
    refine nt rfl rfl (asg rfl rfl ?_)
    refine o_nil ?_; refine x_seq ?_; refine c_ret ?_; refine ret1 (.inr rfl) rfl rfl ?_
    refine ⟨vtb ?_, x2⟩
    constructor
    · intro hn
      have hall : ∀ i, i < s.length → letterP (s[i]?.getD 0) ∨ digitP (s[i]?.getD 0) := fun i hi => Classical.byContradiction fun e => hn ⟨_, List.mem_of_getElem? (getq hi), e⟩
      refine ⟨h1, h2, ?_, hall⟩
      rcases hall 0 h1 with e | e
      · exact e
      · unfold digitP at e; omega
    · intro hw ⟨c, hc, hn⟩
      obtain ⟨i, hi⟩ := List.mem_iff_getElem?.1 hc
      have hlt := (List.getElem?_eq_some_iff.1 hi).1
      have := hw.2.2.2 i hlt
      rw [hi] at this
      exact hn this
theorem tname1_fn (c : UInt8) (h : Heap) : Does Tryz.prog 107 [.int .u8 (c.toNat : Int)] h (fun v h' => h' = h ∧ v = .bool (tb (¬ (letterP c ∨ digitP c)))) := by
  refine fn_enter (N := 25) Tryz.func107 (by kernel_rfl) rfl rfl rfl (fun w0 => ?_)
  refine c_seq ?_; refine c_reg ?_; refine asg rfl rfl ?_; refine o_nil ?_; refine x_seq ?_; refine c_seq ?_; refine c_reg ?_
  refine mv rfl rfl (lti rfl rfl rfl (mv rfl rfl (gqf rfl rfl rfl (fun e => mv rfl rfl) (gqf rfl rfl rfl (fun e => gti (cg rfl e) rfl rfl) (pko rfl rfl rfl rfl (mv rfl rfl ?_))))))
  refine gqt rfl rfl rfl (fun e => mv rfl rfl) (gqt rfl rfl rfl (fun e => lti (cg rfl e) rfl rfl) (gqt rfl rfl rfl (fun e => mv (cg rfl e) rfl) (gqf2 rfl rfl rfl (fun e => mv rfl rfl) ?_)))
  refine gqf2 rfl rfl rfl (fun e => gti (cg rfl e) rfl rfl) (gqt rfl rfl rfl (fun e => pko (cg rfl e) rfl (cg2 rfl e) rfl) (pka rfl rfl rfl rfl (mv rfl rfl (gqt rfl rfl rfl (fun e => mv rfl rfl) ?_))))
  refine gqt rfl rfl rfl (fun e => lti (cg rfl e) rfl rfl) (gqt rfl rfl rfl (fun e => mv (cg rfl e) rfl) (gqf2 rfl rfl rfl (fun e => mv rfl rfl) (gqf2 rfl rfl rfl (fun e => gti (cg rfl e) rfl rfl) ?_)))
  refine gqt rfl rfl rfl (fun e => pko (cg rfl e) rfl (cg2 rfl e) rfl) (pka rfl rfl rfl rfl (asg rfl rfl ?_))
  refine o_nil ?_; refine x_seq ?_; refine c_ret ?_; refine ret1 (.inr rfl) rfl rfl ?_
  exact ⟨rfl, vtb (by unfold letterP digitP; omega)⟩
theorem tname_fn (s : Bytes) (h : Heap) : Does Tryz.prog 104 [str s] h (fun v h' => v = .bool (tb (WordP s)) ∧ Ext h h') := by
  refine fn_enter (N := 19) Tryz.func104 (by kernel_rfl) rfl rfl rfl (fun w0 => ?_)
  refine c_seq ?_; refine c_reg ?_; refine asg rfl rfl ?_; refine o_nil ?_; refine x_seq ?_; refine c_seq ?_; refine c_seq ?_; refine c_reg ?_
  refine mv rfl rfl (eqs rfl rfl rfl (mv rfl rfl (gqf rfl rfl rfl (fun e => mv rfl rfl) (gqf rfl rfl rfl (fun e => lns (cg rfl e) rfl) (gqf rfl rfl rfl (fun e => gti (cg rfl e) rfl rfl) ?_)))))
  refine pko rfl rfl rfl rfl (mv rfl rfl (gqf rfl rfl rfl (fun e => mv rfl rfl) (gqf rfl rfl rfl (fun e => idx (cg rfl e) rfl (by omega) (getq (pos_of (fun e1 => e (.inl e1)))) rfl) (gqf rfl rfl rfl (fun e => lei (cg rfl e) rfl rfl) ?_))))
  refine pko rfl rfl rfl rfl ?_; refine o_nil ?_; refine x_seq ?_; refine c_cond rfl (fun c1 => ?_) (fun c1 => ?_)
  · refine c_seq ?_
    refine c_reg ?_; refine asg rfl rfl ?_; refine o_nil ?_; refine x_seq ?_; refine c_ret ?_; refine x_seq_ret ?_; refine ret1 (.inr rfl) rfl rfl ?_
    refine ⟨congrArg Value.bool (tb_f (fun hw => ?_)).symm, Mod.refl _ _⟩
    obtain ⟨h1, h2, h3, -⟩ := hw
    unfold letterP at h3
    rcases c1 with (c | c) | c
    · subst c; simp at h1
    · omega
    · have c' : ((s[0]?.getD 0).toNat : Int) ≤ 57 := c
      omega
  · have h1 : 1 ≤ s.length := pos_of (fun e => c1 (.inl (.inl e)))
    have h2 : s.length ≤ 24 := Nat.le_of_not_lt fun e => c1 (.inl (.inr (by omega)))
    have h3 : ¬ (s[0]?.getD 0).toNat ≤ 57 := fun e => c1 (.inr (show ((s[0]?.getD 0).toNat : Int) ≤ 57 by omega))
    refine c_skip ?_
    refine x_seq ?_; refine c_seq ?_; refine c_reg ?_; refine mv rfl rfl (cvb rfl rfl (fun cp2 h2 x2 o2 => ?_))
    refine cl (vs := [.slice (some ⟨h.size, 0, none⟩) s.length cp2, .func (.func 107) #[] #[]]) rfl (contb_fn tname1_fn s (by omega) _ o2) rfl (fun v3 h3 r3 => ?_)
    obtain ⟨rfl, rfl⟩ := r3
    refine nt rfl rfl (asg rfl rfl ?_)
    refine o_nil ?_; refine x_seq ?_; refine c_ret ?_; refine ret1 (.inr rfl) rfl rfl ?_
    refine ⟨vtb ?_, x2⟩
    constructor
    · intro hn
      have hall : ∀ i, i < s.length → letterP (s[i]?.getD 0) ∨ digitP (s[i]?.getD 0) := fun i hi => Classical.byContradiction fun e => hn ⟨_, List.mem_of_getElem? (getq hi), e⟩
      refine ⟨h1, h2, ?_, hall⟩
      rcases hall 0 h1 with e | e
      · exact e
      · unfold digitP at e; omega
    · intro hw ⟨c, hc, hn⟩
      obtain ⟨i, hi⟩ := List.mem_iff_getElem?.1 hc
      have hlt := (List.getElem?_eq_some_iff.1 hi).1
      have := hw.2.2.2 i hlt
      rw [hi] at this
      exact hn this
end

/-! Walks of the tables' small functions: bare, plain, part, a type's form. No condition but what each theorem says. -/
section
open Go Go.Eng

def BareP (x : Ty) (form : Int) : Prop :=
  (((((((((x.form = form ∧ x.mod = []) ∧ x.name = []) ∧ x.len = 0) ∧ x.elem = 0) ∧ x.base = 0) ∧ x.res = 0) ∧ x.desc = 0) ∧ (x.fields.length : Int) = 0) ∧ (x.params.length : Int) = 0)
theorem bare_fn {N : Nat} {h : Heap} {v : Value} {x : Ty} (hv : TyV N h v x) (n : Int) : Does Tryz.prog 95 [v, i64 n] h (fun v h' => v = .bool (tb (BareP x n)) ∧ Ext h h') := by
  obtain ⟨cs, rfl, -, vf, vp, rfl, hF, hP⟩ := hv
  obtain ⟨af, cf, rfl⟩ := hF.form
  obtain ⟨ap, cp, rfl⟩ := hP.form
  refine fn_enter (N := 56) Tryz.func95 (by kernel_rfl) rfl rfl rfl (fun w0 => ?_)
  refine c_seq ?_; refine c_reg ?_; refine bx rfl nofun rfl (fun h1 n1 => ?_)
  have s1 : h1.size = h.size + 1 := n1.size
  have b2_1 := n1.at_
  refine asg rfl rfl ?_; refine o_nil ?_; refine x_seq ?_; refine c_seq ?_; refine c_reg ?_
  refine fa rfl rfl (ld rfl (cell b2_1 rfl) rfl (mv rfl rfl (eqi rfl rfl rfl (mv rfl rfl (gqt rfl rfl rfl (fun e => fa rfl rfl) (gqt rfl rfl rfl (fun e => ld (cg rfl e) (cell b2_1 rfl) rfl) ?_))))))
  refine gqt rfl rfl rfl (fun e => eqs (cg rfl e) rfl rfl) (pka rfl rfl rfl rfl (mv rfl rfl (gqt rfl rfl rfl (fun e => fa rfl rfl) (gqt rfl rfl rfl (fun e => ld (cg rfl e) (cell b2_1 rfl) rfl) ?_))))
  refine gqt rfl rfl rfl (fun e => eqs (cg rfl e) rfl rfl) (pka rfl rfl rfl rfl (mv rfl rfl (gqt rfl rfl rfl (fun e => fa rfl rfl) (gqt rfl rfl rfl (fun e => ld (cg rfl e) (cell b2_1 rfl) rfl) ?_))))
  refine gqt rfl rfl rfl (fun e => eqi (cg rfl e) rfl rfl) (pka rfl rfl rfl rfl (mv rfl rfl (gqt rfl rfl rfl (fun e => fa rfl rfl) (gqt rfl rfl rfl (fun e => ld (cg rfl e) (cell b2_1 rfl) rfl) ?_))))
  refine gqt rfl rfl rfl (fun e => eqi (cg rfl e) rfl rfl) (pka rfl rfl rfl rfl (mv rfl rfl (gqt rfl rfl rfl (fun e => fa rfl rfl) (gqt rfl rfl rfl (fun e => ld (cg rfl e) (cell b2_1 rfl) rfl) ?_))))
  refine gqt rfl rfl rfl (fun e => eqi (cg rfl e) rfl rfl) (pka rfl rfl rfl rfl (mv rfl rfl (gqt rfl rfl rfl (fun e => fa rfl rfl) (gqt rfl rfl rfl (fun e => ld (cg rfl e) (cell b2_1 rfl) rfl) ?_))))
  refine gqt rfl rfl rfl (fun e => eqi (cg rfl e) rfl rfl) (pka rfl rfl rfl rfl (mv rfl rfl (gqt rfl rfl rfl (fun e => fa rfl rfl) (gqt rfl rfl rfl (fun e => ld (cg rfl e) (cell b2_1 rfl) rfl) ?_))))
  refine gqt rfl rfl rfl (fun e => eqi (cg rfl e) rfl rfl) (pka rfl rfl rfl rfl (mv rfl rfl (gqt rfl rfl rfl (fun e => fa rfl rfl) (gqt rfl rfl rfl (fun e => ld (cg rfl e) (cell b2_1 rfl) rfl) ?_))))
  refine gqt rfl rfl rfl (fun e => lnl (cg rfl e) rfl) (gqt rfl rfl rfl (fun e => eqi (cg rfl e) rfl rfl) (pka rfl rfl rfl rfl (mv rfl rfl (gqt rfl rfl rfl (fun e => fa rfl rfl) ?_))))
  refine gqt rfl rfl rfl (fun e => ld (cg rfl e) (cell b2_1 rfl) rfl) (gqt rfl rfl rfl (fun e => lnl (cg rfl e) rfl) (gqt rfl rfl rfl (fun e => eqi (cg rfl e) rfl rfl) ?_))
  refine pka rfl rfl rfl rfl (asg rfl rfl ?_)
  refine o_nil ?_; refine x_seq ?_; refine c_ret ?_; refine ret1 (.inr rfl) rfl rfl ?_
  exact ⟨vtb Iff.rfl, n1.ext⟩

def PlainF (n : Int) : Prop := (1 ≤ n ∧ n ≤ 4) ∨ n = 10 ∨ n = 11
def PartF (n : Int) : Prop := (1 ≤ n ∧ n ≤ 4) ∨ n = 7 ∨ (9 ≤ n ∧ n ≤ 11)
theorem plain_fn (n : Int) (h : Heap) : Does Tryz.prog 105 [i64 n] h (fun v h' => h' = h ∧ v = .bool (tb (PlainF n))) := by
  refine fn_enter (N := 17) Tryz.func105 (by kernel_rfl) rfl rfl rfl (fun w0 => ?_)
  refine c_seq ?_; refine c_reg ?_; refine asg rfl rfl ?_; refine o_nil ?_; refine x_seq ?_; refine c_seq ?_; refine c_reg ?_
  refine mv rfl rfl (gei rfl rfl rfl (mv rfl rfl (gqt rfl rfl rfl (fun e => mv rfl rfl) (gqt rfl rfl rfl (fun e => lei (cg rfl e) rfl rfl) (pka rfl rfl rfl rfl (mv rfl rfl ?_))))))
  refine gqf rfl rfl rfl (fun e => mv rfl rfl) (gqf rfl rfl rfl (fun e => eqi (cg rfl e) rfl rfl) (pko rfl rfl rfl rfl (mv rfl rfl (gqf rfl rfl rfl (fun e => mv rfl rfl) ?_))))
  refine gqf rfl rfl rfl (fun e => eqi (cg rfl e) rfl rfl) (pko rfl rfl rfl rfl (asg rfl rfl ?_))
  refine o_nil ?_; refine x_seq ?_; refine c_ret ?_; refine ret1 (.inr rfl) rfl rfl ?_
  exact ⟨rfl, vtb (by unfold PlainF; omega)⟩
theorem part_fn (n : Int) (h : Heap) : Does Tryz.prog 103 [i64 n] h (fun v h' => h' = h ∧ v = .bool (tb (PartF n))) := by
  refine fn_enter (N := 21) Tryz.func103 (by kernel_rfl) rfl rfl rfl (fun w0 => ?_)
  refine c_seq ?_; refine c_reg ?_; refine asg rfl rfl ?_; refine o_nil ?_; refine x_seq ?_; refine c_seq ?_; refine c_reg ?_
  refine mv rfl rfl (gei rfl rfl rfl (mv rfl rfl (gqt rfl rfl rfl (fun e => mv rfl rfl) (gqt rfl rfl rfl (fun e => lei (cg rfl e) rfl rfl) (pka rfl rfl rfl rfl (mv rfl rfl ?_))))))
  refine gqf rfl rfl rfl (fun e => mv rfl rfl) (gqf rfl rfl rfl (fun e => eqi (cg rfl e) rfl rfl) (pko rfl rfl rfl rfl (mv rfl rfl (gqf rfl rfl rfl (fun e => mv rfl rfl) ?_))))
  refine gqf rfl rfl rfl (fun e => gei (cg rfl e) rfl rfl) (gqf rfl rfl rfl (fun e => mv (cg rfl e) rfl) (gqt2 rfl rfl rfl (fun e => mv rfl rfl) (gqt2 rfl rfl rfl (fun e => lei (cg rfl e) rfl rfl) ?_)))
  refine gqf rfl rfl rfl (fun e => pka (cg rfl e) (cg2 rfl e) rfl rfl) (pko rfl rfl rfl rfl (asg rfl rfl ?_))
  refine o_nil ?_; refine x_seq ?_; refine c_ret ?_; refine ret1 (.inr rfl) rfl rfl ?_
  exact ⟨rfl, vtb (by unfold PartF; omega)⟩

/-- a type's form; -1: there is none -/
def formOf (t : List Ty) (n : Int) : Int := if n < 0 ∨ n ≥ t.length then -1 else ((t[n.toNat]?).map (·.form)).getD 0
theorem form_fn {N : Nat} {h : Heap} {vt : Value} {t : List Ty} {b : Nat} (ht : TypesAt N h vt t) (hb : cellAt h b 0 = some vt) (n : Int) :
    Does Tryz.prog 102 [i64 n, ptr b 0] h (fun v h' => h' = h ∧ v = i64 (formOf t n)) := by
  obtain ⟨hl, a, c, rfl, hi⟩ := ht
  refine fn_enter (N := 17) Tryz.func102 (by kernel_rfl) rfl rfl rfl (fun w0 => ?_)
  refine c_seq ?_; refine c_reg ?_; refine asg rfl rfl ?_; refine o_nil ?_; refine x_seq ?_
  refine c_seq ?_; refine c_seq ?_; refine c_reg ?_
  refine mv rfl rfl (lti rfl rfl rfl (mv rfl rfl (gqf rfl rfl rfl (fun e => mv rfl rfl) (gqf rfl rfl rfl (fun e => ld rfl hb rfl) (gqf rfl rfl rfl (fun e => lnl (cg rfl e) rfl) ?_)))))
  refine gqf rfl rfl rfl (fun e => gei (cg rfl e) (cg rfl e) rfl) (pko rfl rfl rfl rfl ?_)
  refine o_nil ?_; refine x_seq ?_; refine c_cond rfl (fun c1 => ?_) (fun c1 => ?_)
  · rw [show formOf t n = -1 from if_pos c1]
    refine c_seq ?_; refine c_reg ?_; refine asg rfl rfl ?_; refine o_nil ?_; refine x_seq ?_; refine c_ret ?_; refine x_seq_ret ?_
    refine ret1 (.inr rfl) rfl rfl ?_
    exact ⟨rfl, rfl⟩
  · have hx : t[n.toNat]? = some (t[n.toNat]'(by omega)) := List.getElem?_eq_getElem _
    have hfo : formOf t n = (t[n.toNat]'(by omega)).form := by rw [formOf, if_neg c1, hx]; rfl
    generalize t[n.toNat]'(by omega) = x at *
    obtain ⟨b', o', cs, rfl, hb', hl', hr, hfit, vf, vp, rfl, -⟩ := hi _ x hx
    rw [hfo]
    refine c_skip ?_; refine x_seq ?_; refine c_seq ?_; refine c_reg ?_
    refine ld rfl hb rfl (mv rfl rfl (ixs rfl rfl (by omega) rfl (fa rfl rfl (ld rfl (hr 0 _ rfl) rfl (asg rfl rfl ?_)))))
    refine o_nil ?_; refine x_seq ?_; refine c_ret ?_; refine ret1 (.inr rfl) rfl rfl ?_
    exact ⟨rfl, rfl⟩
end

/-! The walk of tables' formed: has a type what its form has, and nothing else? No condition but what each theorem says. -/
section
open Go Go.Eng

theorem form_fn2 {h0 h : Heap} {vt : Value} {t : List Ty} {b N : Nat} (ht : TypesAt N h0 vt t) (hk : At N h0 h) (hb : cellAt h b 0 = some vt) (n : Int) :
    Does Tryz.prog 102 ([i64 n] ++ [ptr b 0]) h (fun v h' => h' = h ∧ v = i64 (formOf t n)) := form_fn (ht.keep hk.k (Nat.le_refl _)) hb n
def FldOk (t : List Ty) (f : Fld) : Prop := WordP f.name ∧ PartF (formOf t f.type)
def ParOk (t : List Ty) (p : Par) : Prop := PartF (formOf t p.type) ∨ formOf t p.type = 8
def upTo {α : Type} (xs : List α) (Q : α → Prop) (i : Nat) : Prop := ∀ j y, j < i → xs[j]? = some y → Q y
theorem upTo_zero {α : Type} (xs : List α) (Q : α → Prop) : upTo xs Q 0 := fun j y hj => by omega
theorem upTo_succ {α : Type} {xs : List α} {Q : α → Prop} {i : Nat} {x : α} (hx : xs[i]? = some x) : upTo xs Q (i + 1) ↔ upTo xs Q i ∧ Q x := by
  constructor
  · exact fun h => ⟨fun j y hj => h j y (by omega), h i x (by omega) hx⟩
  · intro ⟨h1, h2⟩ j y hj hy
    rcases Nat.lt_or_ge j i with e | e
    · exact h1 j y e hy
    · rw [show j = i by omega, hx] at hy; cases hy; exact h2
theorem upTo_all {α : Type} {xs : List α} {Q : α → Prop} : upTo xs Q xs.length ↔ ∀ y ∈ xs, Q y := by
  constructor
  · intro h y hy
    obtain ⟨j, hj⟩ := List.mem_iff_getElem?.1 hy
    exact h j y (List.getElem?_eq_some_iff.1 hj).1 hj
  · exact fun h j y _ hy => h y (List.mem_of_getElem? hy)
/-- what is wanted of a type -/
structure Want where
  ok : Prop
  len : Int
  elem : Int
  base : Int
  res : Int
  desc : Int
  fl : Nat
  pl : Nat
  fa : Option Addr
  fc : Nat
  pa : Option Addr
  pc : Nat
def Want.cells (x : Ty) (w : Want) : Array Value := #[i64 x.form, str [], str [], i64 w.len, i64 w.elem, i64 w.base, .slice w.fa w.fl w.fc, .slice w.pa w.pl w.pc, i64 w.res, i64 w.desc]
def WantP (t : List Ty) (x : Ty) (w : Want) : Prop :=
  (x.form = 7 ∧ (w.ok ↔ (1 ≤ x.len ∧ x.len ≤ 4096) ∧ PartF (formOf t x.elem)) ∧ w.len = x.len ∧ w.elem = x.elem ∧ w.base = 0 ∧ w.res = 0 ∧ w.desc = 0 ∧ w.fl = 0 ∧ w.pl = 0) ∨
  (x.form = 8 ∧ (w.ok ↔ PartF (formOf t x.elem) ∨ formOf t x.elem = 8) ∧ w.len = 0 ∧ w.elem = x.elem ∧ w.base = 0 ∧ w.res = 0 ∧ w.desc = 0 ∧ w.fl = 0 ∧ w.pl = 0) ∨
  (x.form = 9 ∧ (w.ok ↔ ((((x.base = 0 ∨ formOf t x.base = 9) ∧ (x.fields.length : Int) ≤ 64) ∧ -1 ≤ x.desc) ∧ x.desc < 64) ∧ upTo x.fields (FldOk t) x.fields.length) ∧ w.len = 0 ∧ w.elem = 0 ∧ w.base = x.base ∧ w.res = 0 ∧ w.desc = x.desc ∧ w.fl = x.fields.length ∧ w.pl = 0) ∨
  (x.form = 10 ∧ (w.ok ↔ formOf t x.elem = 9) ∧ w.len = 0 ∧ w.elem = x.elem ∧ w.base = 0 ∧ w.res = 0 ∧ w.desc = 0 ∧ w.fl = 0 ∧ w.pl = 0) ∨
  (x.form = 11 ∧ (w.ok ↔ ((x.params.length : Int) ≤ 64 ∧ (x.res = 0 ∨ PlainF (formOf t x.res))) ∧ upTo x.params (ParOk t) x.params.length) ∧ w.len = 0 ∧ w.elem = 0 ∧ w.base = 0 ∧ w.res = x.res ∧ w.desc = 0 ∧ w.fl = 0 ∧ w.pl = x.params.length) ∨
  ((x.form ≠ 7 ∧ x.form ≠ 8 ∧ x.form ≠ 9 ∧ x.form ≠ 10 ∧ x.form ≠ 11) ∧ ¬ w.ok)
/-- has a type behind the first seven what its form has? -/
def KindP (t : List Ty) (x : Ty) : Prop :=
  (x.form = 7 ∧ (1 ≤ x.len ∧ x.len ≤ 4096 ∧ PartF (formOf t x.elem)) ∧ x.base = 0 ∧ x.res = 0 ∧ x.desc = 0 ∧ x.fields = [] ∧ x.params = []) ∨
  (x.form = 8 ∧ (PartF (formOf t x.elem) ∨ formOf t x.elem = 8) ∧ x.len = 0 ∧ x.base = 0 ∧ x.res = 0 ∧ x.desc = 0 ∧ x.fields = [] ∧ x.params = []) ∨
  (x.form = 9 ∧ ((x.base = 0 ∨ formOf t x.base = 9) ∧ x.fields.length ≤ 64 ∧ -1 ≤ x.desc ∧ x.desc < 64 ∧ ∀ f ∈ x.fields, FldOk t f) ∧ x.len = 0 ∧ x.elem = 0 ∧ x.res = 0 ∧ x.params = []) ∨
  (x.form = 10 ∧ formOf t x.elem = 9 ∧ x.len = 0 ∧ x.base = 0 ∧ x.res = 0 ∧ x.desc = 0 ∧ x.fields = [] ∧ x.params = []) ∨
  (x.form = 11 ∧ (x.params.length ≤ 64 ∧ (x.res = 0 ∨ PlainF (formOf t x.res)) ∧ ∀ p ∈ x.params, ParOk t p) ∧ x.len = 0 ∧ x.elem = 0 ∧ x.base = 0 ∧ x.desc = 0 ∧ x.fields = [])
def NamedTy (x : Ty) : Prop := ((x.mod = [] ∧ x.name = []) ∧ ¬ x.form = 9) ∨ (WordP x.mod ∧ (WordP x.name ∨ (x.name = [] ∧ x.form = 9)))
def FormedP (t : List Ty) (x : Ty) : Prop := KindP t x ∧ NamedTy x
theorem formed_iff {t : List Ty} {x : Ty} {w : Want} (hw : WantP t x w) :
    (((((((((w.ok ∧ NamedTy x) ∧ x.desc = w.desc) ∧ x.len = w.len) ∧ x.elem = w.elem) ∧ x.base = w.base) ∧ x.res = w.res) ∧ (x.fields.length : Int) = w.fl) ∧ (x.params.length : Int) = w.pl)) ↔ FormedP t x := by
  have hf : ∀ {α : Type} (l : List α), (l.length : Int) = (0 : Nat) ↔ l = [] := fun l => by rw [← List.length_eq_zero_iff]; omega
  unfold FormedP
  constructor
  · intro ⟨⟨⟨⟨⟨⟨⟨⟨hok, hn⟩, h1⟩, h2⟩, h3⟩, h4⟩, h5⟩, h6⟩, h7⟩
    refine ⟨?_, hn⟩
    unfold KindP
    rcases hw with ⟨hc, ho, e1, e2, e3, e4, e5, e6, e7⟩ | ⟨hc, ho, e1, e2, e3, e4, e5, e6, e7⟩ | ⟨hc, ho, e1, e2, e3, e4, e5, e6, e7⟩ | ⟨hc, ho, e1, e2, e3, e4, e5, e6, e7⟩ | ⟨hc, ho, e1, e2, e3, e4, e5, e6, e7⟩ | ⟨hc, ho⟩
    · have ho := ho.1 hok
      rw [e6, hf] at h6; rw [e7, hf] at h7
      exact .inl ⟨hc, ⟨ho.1.1, ho.1.2, ho.2⟩, by omega, by omega, by omega, h6, h7⟩
    · have ho := ho.1 hok
      rw [e6, hf] at h6; rw [e7, hf] at h7
      exact .inr (.inl ⟨hc, ho, by omega, by omega, by omega, by omega, h6, h7⟩)
    · obtain ⟨⟨⟨⟨a1, a2⟩, a3⟩, a4⟩, a5⟩ := ho.1 hok
      rw [e7, hf] at h7
      exact .inr (.inr (.inl ⟨hc, ⟨a1, by omega, a3, a4, upTo_all.1 a5⟩, by omega, by omega, by omega, h7⟩))
    · have ho := ho.1 hok
      rw [e6, hf] at h6; rw [e7, hf] at h7
      exact .inr (.inr (.inr (.inl ⟨hc, ho, by omega, by omega, by omega, by omega, h6, h7⟩)))
    · obtain ⟨⟨a1, a2⟩, a5⟩ := ho.1 hok
      rw [e6, hf] at h6
      exact .inr (.inr (.inr (.inr ⟨hc, ⟨by omega, a2, upTo_all.1 a5⟩, by omega, by omega, by omega, by omega, h6⟩)))
    · exact absurd hok ho
  · intro ⟨hk, hn⟩
    unfold KindP at hk
    rcases hw with ⟨hc, ho, e1, e2, e3, e4, e5, e6, e7⟩ | ⟨hc, ho, e1, e2, e3, e4, e5, e6, e7⟩ | ⟨hc, ho, e1, e2, e3, e4, e5, e6, e7⟩ | ⟨hc, ho, e1, e2, e3, e4, e5, e6, e7⟩ | ⟨hc, ho, e1, e2, e3, e4, e5, e6, e7⟩ | ⟨hc, ho⟩ <;>
      rcases hk with ⟨g, k1, k2⟩ | ⟨g, k1, k2⟩ | ⟨g, k1, k2⟩ | ⟨g, k1, k2⟩ | ⟨g, k1, k2⟩ <;> first | (exfalso; omega) | skip
    · obtain ⟨b1, b2, b3, b4, b5⟩ := k2
      rw [e6, e7, hf, hf]
      exact ⟨⟨⟨⟨⟨⟨⟨⟨ho.2 ⟨⟨k1.1, k1.2.1⟩, k1.2.2⟩, hn⟩, by omega⟩, by omega⟩, by omega⟩, by omega⟩, by omega⟩, b4⟩, b5⟩
    · obtain ⟨b1, b2, b3, b4, b5, b6⟩ := k2
      rw [e6, e7, hf, hf]
      exact ⟨⟨⟨⟨⟨⟨⟨⟨ho.2 k1, hn⟩, by omega⟩, by omega⟩, by omega⟩, by omega⟩, by omega⟩, b5⟩, b6⟩
    · obtain ⟨b1, b2, b3, b4⟩ := k2
      rw [e7, hf]
      exact ⟨⟨⟨⟨⟨⟨⟨⟨ho.2 ⟨⟨⟨⟨k1.1, by omega⟩, k1.2.2.1⟩, k1.2.2.2.1⟩, upTo_all.2 k1.2.2.2.2⟩, hn⟩, by omega⟩, by omega⟩, by omega⟩, by omega⟩, by omega⟩, by omega⟩, b4⟩
    · obtain ⟨b1, b2, b3, b4, b5, b6⟩ := k2
      rw [e6, e7, hf, hf]
      exact ⟨⟨⟨⟨⟨⟨⟨⟨ho.2 k1, hn⟩, by omega⟩, by omega⟩, by omega⟩, by omega⟩, by omega⟩, b5⟩, b6⟩
    · obtain ⟨b1, b2, b3, b4, b5⟩ := k2
      rw [e6, hf]
      exact ⟨⟨⟨⟨⟨⟨⟨⟨ho.2 ⟨⟨by omega, k1.2.1⟩, upTo_all.2 k1.2.2⟩, hn⟩, by omega⟩, by omega⟩, by omega⟩, by omega⟩, by omega⟩, b5⟩, by omega⟩

set_option maxHeartbeats 2000000 in
theorem formed_fn {h : Heap} {vt v : Value} {t : List Ty} {x : Ty} (ht : TypesAt h.size h vt t) (hx : TyV h.size h v x) :
    Does Tryz.prog 96 [vt, v] h (fun v h' => v = .bool (tb (FormedP t x)) ∧ Ext h h') := by
  obtain ⟨cs, rfl, hfit, vf, vp, rfl, hF, hP⟩ := hx
  obtain ⟨at0, ct0, rfl⟩ := SliceAt.form ht
  have hF0 := hF
  have hP0 := hP
  obtain ⟨hFl, af, cf, rfl, hFi⟩ := hF
  obtain ⟨hPl, ap, cp, rfl, hPi⟩ := hP
  have hmx : maxLen ≤ 9223372036854775807 := by decide
  have k0 : At h.size h h := At.refl (Nat.le_refl _)
  refine fn_enter (N := 264) Tryz.func96 (by kernel_rfl) rfl rfl rfl (fun w0 => ?_)
  refine c_seq ?_; refine c_reg ?_; refine bx rfl nofun rfl (fun h1 n1 => ?_)
  have s1 : h1.size = h.size + 1 := n1.size
  have k_1 := k0.ext n1.ext
  have b2_1 := n1.at_
  refine bx rfl nofun rfl (fun h2 n2 => ?_)
  have s2 : h2.size = h1.size + 1 := n2.size
  have k_2 := k_1.ext n2.ext
  have b2_2 := n2.ext.get b2_1
  have b3_2 := n2.at_
  refine asg rfl rfl ?_; refine o_nil ?_; refine x_seq ?_; refine c_seq ?_; refine c_reg ?_
  refine mkf (vs := []) (us := [ptr h.size 0]) rfl rfl rfl (asg rfl rfl ?_)
  refine o_nil ?_; refine x_seq ?_; refine c_seq ?_; refine c_reg ?_
  refine fa rfl rfl (ld rfl (cell b3_2 rfl) rfl (bld (vs := [(0, i64 x.form)]) (v := .agg #[i64 x.form, str [], str [], i64 0, i64 0, i64 0, .slice none 0 0, .slice none 0 0, i64 0, i64 0]) rfl (fun _ => by kernel_rfl) rfl ?_))
  refine alc nofun rfl (fun h3 n3 => ?_)
  have s3 : h3.size = h2.size + 1 := n3.size
  have k_3 := k_2.ext n3.ext
  have b2_3 := n3.ext.get b2_2
  have b3_3 := n3.ext.get b3_2
  have b6_3 := n3.at_
  refine stw rfl rfl rfl (ones rfl) b6_3 rfl nofun (fun h4 u4 => ?_)
  have s4 : h4.size = h3.size := u4.size
  have k_4 := k_3.upd u4 (by omega)
  have b2_4 := u4.ne b2_3 (by omega)
  have b3_4 := u4.ne b3_3 (by omega)
  have b6_4 := u4.at_
  refine o_nil ?_; refine x_seq ?_; refine c_seq ?_; refine c_reg ?_; refine asg rfl rfl ?_; refine o_nil ?_; refine x_seq ?_
  refine c_cut (α := Heap × Want) (fun y => [(2, ptr h.size 0), (3, ptr h1.size 0), (6, ptr h2.size 0), (7, .bool (tb y.2.ok))]) (fun y => y.1)
    (fun y => At h.size h y.1 ∧ y.1[h.size]? = h4[h.size]? ∧ y.1[h1.size]? = h4[h1.size]? ∧ y.1[h2.size]? = some (.cells (y.2.cells x) 52 (0, 0)) ∧ WantP t x y.2) ?_ ?_
  · refine c_seq ?_
    refine c_reg ?_; refine fa rfl rfl (ld rfl (cell b3_4 rfl) rfl ?_)
    refine o_nil ?_; refine x_seq ?_; refine c_blk ?_; refine c_seq ?_; refine c_reg ?_; refine eqi rfl rfl rfl (asg rfl rfl ?_)
    refine o_nil ?_; refine x_seq ?_; refine c_cond rfl (fun c5 => ?_) (fun c5 => ?_)
    · refine c_seq ?_; refine c_dreg (Mod (· = h2.size) h4) [0, 1, 2, 3, 4, 5, 6, 7] rfl (Mod.refl _ _) (by kernel_rfl) ?_
      refine fa rfl rfl (ldI rfl (fun _ hI => cell (hI.get b3_4 (by omega)) rfl) rfl (fa rfl rfl (ldI rfl (fun _ hI => cell (hI.get b3_4 (by omega)) rfl) rfl (fa rfl rfl ?_))))
      refine st rfl rfl rfl b6_4 rfl (fun _ h' u => u.mod) (fun h6 u6 => ?_)
      have s6 : h6.size = h4.size := u6.size
      have k_6 := k_4.upd u6 (by omega)
      have b2_6 := u6.ne b2_4 (by omega)
      have b3_6 := u6.ne b3_4 (by omega)
      have b6_6 := u6.at_
      refine fa rfl rfl (st rfl rfl rfl b6_6 rfl (fun _ h' u => u6.mod.trans u.mod) (fun h7 u7 => ?_))
      have s7 : h7.size = h6.size := u7.size
      have k_7 := k_6.upd u7 (by omega)
      have b2_7 := u7.ne b2_6 (by omega)
      have b3_7 := u7.ne b3_6 (by omega)
      have b6_7 := u7.at_
      refine o_nil ?_; refine x_seq ?_; refine c_reg ?_
      refine fa rfl rfl (ld rfl (cell b3_7 rfl) rfl (lei rfl rfl rfl (mv rfl rfl (gqt rfl rfl rfl (fun e => fa rfl rfl) (gqt rfl rfl rfl (fun e => ld (cg rfl e) (cell b3_7 rfl) rfl) ?_)))))
      refine gqt rfl rfl rfl (fun e => lei (cg rfl e) rfl rfl) (pka rfl rfl rfl rfl (mv rfl rfl (gqt rfl rfl rfl (fun e => mv rfl rfl) (gqt rfl rfl rfl (fun e => fa rfl rfl) ?_))))
      refine gqt rfl rfl rfl (fun e => ld (cg rfl e) (cell b3_7 rfl) rfl) (gqt rfl rfl rfl (fun e => clfp (cg rfl e) (a1 (cg rfl e)) (form_fn2 ht k_7 (cell b2_7 rfl) _) rfl) ?_)
      refine gqt rfl rfl rfl (fun e => clp (part_fn _ _) (a1 (cg rfl e)) rfl) (pka rfl rfl rfl rfl (asg rfl rfl ?_))
      refine o_nil ?_; refine x_blk ?_
      exact x_cut (h7, ⟨(1 ≤ x.len ∧ x.len ≤ 4096) ∧ PartF (formOf t x.elem), x.len, x.elem, 0, 0, 0, 0, 0, none, 0, none, 0⟩) ⟨k_7, b2_7.trans b2_4.symm, b3_7.trans b3_4.symm, b6_7, .inl ⟨c5, Iff.rfl, rfl, rfl, rfl, rfl, rfl, rfl, rfl⟩⟩ ⟨rfl, rfl, rfl, congrArg some (vtb Iff.rfl), trivial⟩ rfl
    · refine c_seq ?_; refine c_reg ?_; refine eqi rfl rfl rfl (asg rfl rfl ?_)
      refine o_nil ?_; refine x_seq ?_; refine c_cond rfl (fun c8 => ?_) (fun c8 => ?_)
      · refine c_seq ?_; refine c_reg ?_; refine fa rfl rfl (ld rfl (cell b3_4 rfl) rfl (fa rfl rfl (st rfl rfl rfl b6_4 rfl nofun (fun h9 u9 => ?_))))
        have s9 : h9.size = h4.size := u9.size
        have k_9 := k_4.upd u9 (by omega)
        have b2_9 := u9.ne b2_4 (by omega)
        have b3_9 := u9.ne b3_4 (by omega)
        have b6_9 := u9.at_
        refine o_nil ?_; refine x_seq ?_; refine c_reg ?_
        refine mv rfl rfl (fa rfl rfl (ld rfl (cell b3_9 rfl) rfl (clfp rfl (a1 rfl) (form_fn2 ht k_9 (cell b2_9 rfl) _) rfl (clp (part_fn _ _) rfl rfl (mv rfl rfl (gqf rfl rfl rfl (fun e => mv rfl rfl) ?_))))))
        refine gqf rfl rfl rfl (fun e => fa rfl rfl) (gqf rfl rfl rfl (fun e => ld (cg rfl e) (cell b3_9 rfl) rfl) (gqf rfl rfl rfl (fun e => clfp (cg rfl e) (a1 (cg rfl e)) (form_fn2 ht k_9 (cell b2_9 rfl) _) rfl) ?_))
        refine gqf rfl rfl rfl (fun e => eqi (cg rfl e) rfl rfl) (pko rfl rfl rfl rfl (asg rfl rfl ?_))
        refine o_nil ?_; refine x_blk ?_
        exact x_cut (h9, ⟨PartF (formOf t x.elem) ∨ formOf t x.elem = 8, 0, x.elem, 0, 0, 0, 0, 0, none, 0, none, 0⟩) ⟨k_9, b2_9.trans b2_4.symm, b3_9.trans b3_4.symm, b6_9, .inr (.inl ⟨c8, Iff.rfl, rfl, rfl, rfl, rfl, rfl, rfl, rfl⟩)⟩ ⟨rfl, rfl, rfl, congrArg some (vtb Iff.rfl), trivial⟩ rfl
      · refine c_seq ?_; refine c_reg ?_; refine eqi rfl rfl rfl (asg rfl rfl ?_)
        refine o_nil ?_; refine x_seq ?_; refine c_cond rfl (fun c10 => ?_) (fun c10 => ?_)
        · refine c_seq ?_; refine c_dreg (Mod (· = h2.size) h4) [0, 1, 2, 3, 4, 5, 6, 7, 8, 9, 10, 11] rfl (Mod.refl _ _) (by kernel_rfl) ?_
          refine fa rfl rfl (ldI rfl (fun _ hI => cell (hI.get b3_4 (by omega)) rfl) rfl (fa rfl rfl (ldI rfl (fun _ hI => cell (hI.get b3_4 (by omega)) rfl) rfl (fa rfl rfl ?_))))
          refine ldI rfl (fun _ hI => cell (hI.get b3_4 (by omega)) rfl) rfl (fa rfl rfl (st rfl rfl rfl b6_4 rfl (fun _ h' u => u.mod) (fun h11 u11 => ?_)))
          have s11 : h11.size = h4.size := u11.size
          have k_11 := k_4.upd u11 (by omega)
          have b2_11 := u11.ne b2_4 (by omega)
          have b3_11 := u11.ne b3_4 (by omega)
          have b6_11 := u11.at_
          refine fa rfl rfl (st rfl rfl rfl b6_11 rfl (fun _ h' u => u11.mod.trans u.mod) (fun h12 u12 => ?_))
          have s12 : h12.size = h11.size := u12.size
          have k_12 := k_11.upd u12 (by omega)
          have b2_12 := u12.ne b2_11 (by omega)
          have b3_12 := u12.ne b3_11 (by omega)
          have b6_12 := u12.at_
          refine fa rfl rfl (st rfl rfl rfl b6_12 rfl (fun _ h' u => (u11.mod.trans u12.mod).trans u.mod) (fun h13 u13 => ?_))
          have s13 : h13.size = h12.size := u13.size
          have k_13 := k_12.upd u13 (by omega)
          have b2_13 := u13.ne b2_12 (by omega)
          have b3_13 := u13.ne b3_12 (by omega)
          have b6_13 := u13.at_
          refine o_nil ?_; refine x_seq ?_; refine c_seq ?_; refine c_reg ?_
          refine fa rfl rfl (ld rfl (cell b3_13 rfl) rfl (eqi rfl rfl rfl (mv rfl rfl (gqf rfl rfl rfl (fun e => mv rfl rfl) (gqf rfl rfl rfl (fun e => fa rfl rfl) (gqf rfl rfl rfl (fun e => ld (cg rfl e) (cell b3_13 rfl) rfl) ?_))))))
          refine gqf rfl rfl rfl (fun e => clfp (cg rfl e) (a1 (cg rfl e)) (form_fn2 ht k_13 (cell b2_13 rfl) _) rfl) (gqf rfl rfl rfl (fun e => eqi (cg rfl e) rfl rfl) ?_)
          refine pko rfl rfl rfl rfl (mv rfl rfl (gqt rfl rfl rfl (fun e => fa rfl rfl) (gqt rfl rfl rfl (fun e => ld (cg rfl e) (cell b3_13 rfl) rfl) (gqt rfl rfl rfl (fun e => lnl (cg rfl e) rfl) ?_))))
          refine gqt rfl rfl rfl (fun e => lei (cg rfl e) rfl rfl) (pka rfl rfl rfl rfl (mv rfl rfl (gqt rfl rfl rfl (fun e => fa rfl rfl) (gqt rfl rfl rfl (fun e => ld (cg rfl e) (cell b3_13 rfl) rfl) ?_))))
          refine gqt rfl rfl rfl (fun e => lei rfl (cg rfl e) rfl) (pka rfl rfl rfl rfl (mv rfl rfl (gqt rfl rfl rfl (fun e => fa rfl rfl) (gqt rfl rfl rfl (fun e => ld (cg rfl e) (cell b3_13 rfl) rfl) ?_))))
          refine gqt rfl rfl rfl (fun e => lti (cg rfl e) rfl rfl) (pka rfl rfl rfl rfl (asg rfl rfl ?_))
          refine o_nil ?_; refine x_seq ?_; refine c_seq ?_; refine c_reg ?_
          refine fa rfl rfl (ld rfl (cell b3_13 rfl) rfl (lnl rfl rfl (mv rfl rfl ?_)))
          refine o_nil ?_; refine x_seq ?_; refine c_blk ?_
          refine c_loop (α := Heap × Nat) (fun y => [(2, ptr h.size 0), (3, ptr h1.size 0), (5, .func (.func 102) #[] #[ptr h.size 0]), (6, ptr h2.size 0), (7, .bool (tb (((((x.base = 0 ∨ formOf t x.base = 9) ∧ (x.fields.length : Int) ≤ 64) ∧ -1 ≤ x.desc) ∧ x.desc < 64) ∧ upTo x.fields (FldOk t) y.2))), (97, .slice af x.fields.length cf), (98, i64 (x.fields.length : Nat)), (99, i64 (y.2 : Nat))]) (fun y => y.1)
            (fun y => At h.size h y.1 ∧ y.1[h.size]? = h13[h.size]? ∧ y.1[h1.size]? = h13[h1.size]? ∧ y.1[h2.size]? = h13[h2.size]? ∧ h13.size ≤ y.1.size ∧ y.2 ≤ x.fields.length) (fun y => x.fields.length - y.2) (h13, 0) ⟨k_13, rfl, rfl, rfl, Nat.le_refl _, Nat.zero_le _⟩
            ⟨rfl, rfl, rfl, rfl, congrArg some (vtb (by simp [upTo_zero])), rfl, rfl, rfl, trivial⟩ rfl (fun y hy => ?_)
          obtain ⟨g, i⟩ := y
          obtain ⟨kg, e2, e3, e6, sg, hil⟩ := hy
          simp only at kg e2 e3 e6 sg hil
          have g2 := e2.trans b2_13
          have g3 := e3.trans b3_13
          have g6 := e6.trans b6_13
          have kn := kg.n
          change SC _ _ _ _ g
          refine c_seq ?_; refine c_reg ?_; refine lti rfl rfl rfl ?_; refine o_nil ?_; refine x_seq ?_
          refine c_seq ?_; refine c_cond rfl (fun c14 => ?_) (fun c14 => ?_)
          · have hlt : i < x.fields.length := by have := c14; simp only at this; omega
            have hxi : x.fields[i]? = some x.fields[i] := List.getElem?_eq_getElem hlt
            obtain ⟨b', o', cs, ha, hb', hl', hr, hcs, hfl⟩ := hF0.el kg hxi
            generalize x.fields[i] = f at *
            subst hcs
            subst ha
            refine c_skip ?_; refine x_seq ?_
            refine c_seq ?_; refine c_blk ?_; refine c_seq ?_; refine c_reg ?_
            refine ixs rfl rfl (by omega) rfl (ldn rfl rfl hr rfl (alc nofun rfl (fun h15 n15 => ?_)))
            have s15 : h15.size = g.size + 1 := n15.size
            have k_15 := kg.ext n15.ext
            have g2_15 := n15.ext.get g2
            have g3_15 := n15.ext.get g3
            have g6_15 := n15.ext.get g6
            have b9_15 := n15.at_
            refine stw rfl rfl rfl (ones rfl) b9_15 rfl nofun (fun h16 u16 => ?_)
            have s16 : h16.size = h15.size := u16.size
            have k_16 := k_15.upd u16 (by omega)
            have g2_16 := u16.ne g2_15 (by omega)
            have g3_16 := u16.ne g3_15 (by omega)
            have g6_16 := u16.ne g6_15 (by omega)
            have b9_16 := u16.at_
            refine o_nil ?_; refine x_seq ?_; refine c_reg ?_
            refine mv rfl rfl (mv rfl rfl (gqt rfl rfl rfl (fun e => fa rfl rfl) (gqt rfl rfl rfl (fun e => ld (cg rfl e) (cell b9_16 rfl) rfl) (getr rfl rfl rfl (fun e kk => clE (tname_fn _ _) (a1 (cg rfl e)) rfl kk) (fun h17 x17 => ?_)))))
            have s17 : h16.size ≤ h17.size := x17.size
            have k_17 := k_16.ext x17
            have g2_17 := x17.get g2_16
            have g3_17 := x17.get g3_16
            have g6_17 := x17.get g6_16
            have b9_17 := x17.get b9_16
            refine pka rfl rfl rfl rfl (mv rfl rfl (gqt rfl rfl rfl (fun e => mv rfl rfl) (gqt rfl rfl rfl (fun e => fa rfl rfl) (gqt rfl rfl rfl (fun e => ld (cg rfl e) (cell b9_17 rfl) rfl) ?_))))
            refine gqt rfl rfl rfl (fun e => clfp (cg rfl e) (a1 (cg rfl e)) (form_fn2 ht k_17 (cell g2_17 rfl) _) rfl) (gqt rfl rfl rfl (fun e => clp (part_fn _ _) (a1 (cg rfl e)) rfl) ?_)
            refine pka rfl rfl rfl rfl (asg rfl rfl ?_)
            refine o_nil ?_; refine x_blk ?_; refine x_seq ?_; refine c_reg ?_; refine add rfl rfl (by omega) rfl (mv rfl rfl ?_)
            refine o_nil ?_
            exact x_loop (h17, i + 1) ⟨k_17, g2_17.trans b2_13.symm, g3_17.trans b3_13.symm, g6_17.trans b6_13.symm, by simp only; omega, hlt⟩ (by simp only; omega) ⟨rfl, rfl, rfl, rfl, congrArg some (vtb (by rw [upTo_succ hxi]; unfold FldOk; simp only [and_assoc])), rfl, rfl, rfl, trivial⟩ rfl
          · refine c_exit ?_; refine x_seq_exit ?_; refine x_loop_exit ?_; refine x_blk_hit ?_; refine x_blk ?_
            have hi : i = x.fields.length := by have := c14; simp only at this; omega
            subst hi
            exact x_cut (g, ⟨((((x.base = 0 ∨ formOf t x.base = 9) ∧ (x.fields.length : Int) ≤ 64) ∧ -1 ≤ x.desc) ∧ x.desc < 64) ∧ upTo x.fields (FldOk t) x.fields.length, 0, 0, x.base, 0, x.desc, x.fields.length, 0, af, cf, none, 0⟩) ⟨kg, g2.trans b2_4.symm, g3.trans b3_4.symm, g6, .inr (.inr (.inl ⟨c10, Iff.rfl, rfl, rfl, rfl, rfl, rfl, rfl, rfl⟩))⟩ ⟨rfl, rfl, rfl, rfl, trivial⟩ rfl
        · refine c_seq ?_; refine c_reg ?_; refine eqi rfl rfl rfl (asg rfl rfl ?_)
          refine o_nil ?_; refine x_seq ?_; refine c_cond rfl (fun c18 => ?_) (fun c18 => ?_)
          · refine c_seq ?_; refine c_reg ?_
            refine fa rfl rfl (ld rfl (cell b3_4 rfl) rfl (fa rfl rfl (st rfl rfl rfl b6_4 rfl nofun (fun h19 u19 => ?_))))
            have s19 : h19.size = h4.size := u19.size
            have k_19 := k_4.upd u19 (by omega)
            have b2_19 := u19.ne b2_4 (by omega)
            have b3_19 := u19.ne b3_4 (by omega)
            have b6_19 := u19.at_
            refine o_nil ?_; refine x_seq ?_; refine c_reg ?_
            refine mv rfl rfl (fa rfl rfl (ld rfl (cell b3_19 rfl) rfl (clfp rfl (a1 rfl) (form_fn2 ht k_19 (cell b2_19 rfl) _) rfl (eqi rfl rfl rfl (asg rfl rfl ?_)))))
            refine o_nil ?_; refine x_blk ?_
            exact x_cut (h19, ⟨formOf t x.elem = 9, 0, x.elem, 0, 0, 0, 0, 0, none, 0, none, 0⟩) ⟨k_19, b2_19.trans b2_4.symm, b3_19.trans b3_4.symm, b6_19, .inr (.inr (.inr (.inl ⟨c18, Iff.rfl, rfl, rfl, rfl, rfl, rfl, rfl, rfl⟩)))⟩ ⟨rfl, rfl, rfl, congrArg some (vtb Iff.rfl), trivial⟩ rfl
          · refine c_seq ?_; refine c_reg ?_; refine eqi rfl rfl rfl (asg rfl rfl ?_)
            refine o_nil ?_; refine x_seq ?_; refine c_cond rfl (fun c20 => ?_) (fun c20 => ?_)
            · refine c_seq ?_; refine c_dreg (Mod (· = h2.size) h4) [0, 1, 2, 3, 4, 5, 6, 7] rfl (Mod.refl _ _) (by kernel_rfl) ?_
              refine fa rfl rfl (ldI rfl (fun _ hI => cell (hI.get b3_4 (by omega)) rfl) rfl (fa rfl rfl (ldI rfl (fun _ hI => cell (hI.get b3_4 (by omega)) rfl) rfl (fa rfl rfl ?_))))
              refine st rfl rfl rfl b6_4 rfl (fun _ h' u => u.mod) (fun h21 u21 => ?_)
              have s21 : h21.size = h4.size := u21.size
              have k_21 := k_4.upd u21 (by omega)
              have b2_21 := u21.ne b2_4 (by omega)
              have b3_21 := u21.ne b3_4 (by omega)
              have b6_21 := u21.at_
              refine fa rfl rfl (st rfl rfl rfl b6_21 rfl (fun _ h' u => u21.mod.trans u.mod) (fun h22 u22 => ?_))
              have s22 : h22.size = h21.size := u22.size
              have k_22 := k_21.upd u22 (by omega)
              have b2_22 := u22.ne b2_21 (by omega)
              have b3_22 := u22.ne b3_21 (by omega)
              have b6_22 := u22.at_
              refine o_nil ?_; refine x_seq ?_; refine c_seq ?_; refine c_reg ?_
              refine fa rfl rfl (ld rfl (cell b3_22 rfl) rfl (lnl rfl rfl (lei rfl rfl rfl (mv rfl rfl (gqt rfl rfl rfl (fun e => fa rfl rfl) (gqt rfl rfl rfl (fun e => ld (cg rfl e) (cell b3_22 rfl) rfl) ?_))))))
              refine gqt rfl rfl rfl (fun e => eqi (cg rfl e) rfl rfl) (gqt rfl rfl rfl (fun e => mv (cg rfl e) rfl) (gqf2 rfl rfl rfl (fun e => mv rfl rfl) (gqf2 rfl rfl rfl (fun e => fa rfl rfl) ?_)))
              refine gqf2 rfl rfl rfl (fun e => ld (cg rfl e) (cell b3_22 rfl) rfl) (gqf2 rfl rfl rfl (fun e => clfp (cg rfl e) (a1 (cg rfl e)) (form_fn2 ht k_22 (cell b2_22 rfl) _) rfl) ?_)
              refine gqf2 rfl rfl rfl (fun e => clp (plain_fn _ _) (a1 (cg rfl e)) rfl) (gqt rfl rfl rfl (fun e => pko (cg rfl e) rfl (cg2 rfl e) rfl) (pka rfl rfl rfl rfl (asg rfl rfl ?_)))
              refine o_nil ?_; refine x_seq ?_; refine c_seq ?_; refine c_reg ?_
              refine fa rfl rfl (ld rfl (cell b3_22 rfl) rfl (lnl rfl rfl (mv rfl rfl ?_)))
              refine o_nil ?_; refine x_seq ?_; refine c_blk ?_
              refine c_loop (α := Heap × Nat) (fun y => [(2, ptr h.size 0), (3, ptr h1.size 0), (5, .func (.func 102) #[] #[ptr h.size 0]), (6, ptr h2.size 0), (7, .bool (tb (((x.params.length : Int) ≤ 64 ∧ (x.res = 0 ∨ PlainF (formOf t x.res))) ∧ upTo x.params (ParOk t) y.2))), (152, .slice ap x.params.length cp), (153, i64 (x.params.length : Nat)), (154, i64 (y.2 : Nat))]) (fun y => y.1)
                (fun y => At h.size h y.1 ∧ y.1[h.size]? = h22[h.size]? ∧ y.1[h1.size]? = h22[h1.size]? ∧ y.1[h2.size]? = h22[h2.size]? ∧ h22.size ≤ y.1.size ∧ y.2 ≤ x.params.length) (fun y => x.params.length - y.2) (h22, 0) ⟨k_22, rfl, rfl, rfl, Nat.le_refl _, Nat.zero_le _⟩
                ⟨rfl, rfl, rfl, rfl, congrArg some (vtb (by simp [upTo_zero])), rfl, rfl, rfl, trivial⟩ rfl (fun y hy => ?_)
              obtain ⟨g, i⟩ := y
              obtain ⟨kg, e2, e3, e6, sg, hil⟩ := hy
              simp only at kg e2 e3 e6 sg hil
              have g2 := e2.trans b2_22
              have g3 := e3.trans b3_22
              have g6 := e6.trans b6_22
              have kn := kg.n
              change SC _ _ _ _ g
              refine c_seq ?_; refine c_reg ?_; refine lti rfl rfl rfl ?_; refine o_nil ?_; refine x_seq ?_
              refine c_seq ?_; refine c_cond rfl (fun c23 => ?_) (fun c23 => ?_)
              · have hlt : i < x.params.length := by have := c23; simp only at this; omega
                have hxi : x.params[i]? = some x.params[i] := List.getElem?_eq_getElem hlt
                obtain ⟨b', o', cs, ha, hb', hl', hr, hcs, hfl⟩ := hP0.el kg hxi
                generalize x.params[i] = f at *
                subst hcs
                subst ha
                refine c_skip ?_; refine x_seq ?_
                refine c_seq ?_; refine c_blk ?_; refine c_seq ?_; refine c_reg ?_
                refine ixs rfl rfl (by omega) rfl (ldn rfl rfl hr rfl (alc nofun rfl (fun h24 n24 => ?_)))
                have s24 : h24.size = g.size + 1 := n24.size
                have k_24 := kg.ext n24.ext
                have g2_24 := n24.ext.get g2
                have g3_24 := n24.ext.get g3
                have g6_24 := n24.ext.get g6
                have b11_24 := n24.at_
                refine stw rfl rfl rfl (ones rfl) b11_24 rfl nofun (fun h25 u25 => ?_)
                have s25 : h25.size = h24.size := u25.size
                have k_25 := k_24.upd u25 (by omega)
                have g2_25 := u25.ne g2_24 (by omega)
                have g3_25 := u25.ne g3_24 (by omega)
                have g6_25 := u25.ne g6_24 (by omega)
                have b11_25 := u25.at_
                refine o_nil ?_; refine x_seq ?_; refine c_reg ?_
                refine mv rfl rfl (mv rfl rfl (gqt rfl rfl rfl (fun e => mv rfl rfl) (gqt rfl rfl rfl (fun e => fa rfl rfl) (gqt rfl rfl rfl (fun e => ld (cg rfl e) (cell b11_25 rfl) rfl) ?_))))
                refine gqt rfl rfl rfl (fun e => clfp (cg rfl e) (a1 (cg rfl e)) (form_fn2 ht k_25 (cell g2_25 rfl) _) rfl) (gqt rfl rfl rfl (fun e => clp (part_fn _ _) (a1 (cg rfl e)) rfl) ?_)
                refine gqt rfl rfl rfl (fun e => mv (cg rfl e) rfl) (gqf2 rfl rfl rfl (fun e => mv rfl rfl) (gqf2 rfl rfl rfl (fun e => fa rfl rfl) (gqf2 rfl rfl rfl (fun e => ld (cg rfl e) (cell b11_25 rfl) rfl) ?_)))
                refine gqf2 rfl rfl rfl (fun e => clfp (cg rfl e) (a1 (cg rfl e)) (form_fn2 ht k_25 (cell g2_25 rfl) _) rfl) (gqf2 rfl rfl rfl (fun e => eqi (cg rfl e) rfl rfl) ?_)
                refine gqt rfl rfl rfl (fun e => pko (cg rfl e) rfl (cg2 rfl e) rfl) (pka rfl rfl rfl rfl (asg rfl rfl ?_))
                refine o_nil ?_; refine x_blk ?_; refine x_seq ?_; refine c_reg ?_; refine add rfl rfl (by omega) rfl (mv rfl rfl ?_)
                refine o_nil ?_
                exact x_loop (h25, i + 1) ⟨k_25, g2_25.trans b2_22.symm, g3_25.trans b3_22.symm, g6_25.trans b6_22.symm, by simp only; omega, hlt⟩ (by simp only; omega) ⟨rfl, rfl, rfl, rfl, congrArg some (vtb (by rw [upTo_succ hxi]; unfold ParOk; simp only [and_assoc])), rfl, rfl, rfl, trivial⟩ rfl
              · refine c_exit ?_; refine x_seq_exit ?_; refine x_loop_exit ?_; refine x_blk_hit ?_; refine x_blk ?_
                have hi : i = x.params.length := by have := c23; simp only at this; omega
                subst hi
                exact x_cut (g, ⟨((x.params.length : Int) ≤ 64 ∧ (x.res = 0 ∨ PlainF (formOf t x.res))) ∧ upTo x.params (ParOk t) x.params.length, 0, 0, 0, x.res, 0, 0, x.params.length, none, 0, ap, cp⟩) ⟨kg, g2.trans b2_4.symm, g3.trans b3_4.symm, g6, .inr (.inr (.inr (.inr (.inl ⟨c20, Iff.rfl, rfl, rfl, rfl, rfl, rfl, rfl, rfl⟩))))⟩ ⟨rfl, rfl, rfl, rfl, trivial⟩ rfl
            · refine c_skip ?_; refine x_blk ?_
              exact x_cut (h4, ⟨False, 0, 0, 0, 0, 0, 0, 0, none, 0, none, 0⟩) ⟨k_4, rfl, rfl, b6_4, .inr (.inr (.inr (.inr (.inr ⟨⟨c5, c8, c10, c18, c20⟩, id⟩))))⟩ ⟨rfl, rfl, rfl, congrArg some (congrArg Value.bool (tb_f id).symm), trivial⟩ rfl
  · intro y hy
    obtain ⟨g, w⟩ := y
    obtain ⟨kg, e2, e3, g6, hw⟩ := hy
    simp only at kg e2 e3 g6 hw
    have g2 := e2.trans b2_4
    have g3 := e3.trans b3_4
    change SC _ _ _ _ g
    refine c_seq ?_; refine c_reg ?_
    refine fa rfl rfl (ld rfl (cell g3 rfl) rfl (eqs rfl rfl rfl (mv rfl rfl (gqt rfl rfl rfl (fun e => fa rfl rfl) (gqt rfl rfl rfl (fun e => ld (cg rfl e) (cell g3 rfl) rfl) ?_)))))
    refine gqt rfl rfl rfl (fun e => eqs (cg rfl e) rfl rfl) (pka rfl rfl rfl rfl (mv rfl rfl (gqt rfl rfl rfl (fun e => fa rfl rfl) (gqt rfl rfl rfl (fun e => ld (cg rfl e) (cell g3 rfl) rfl) ?_))))
    refine gqt rfl rfl rfl (fun e => nei (cg rfl e) rfl rfl) (pka rfl rfl rfl rfl (mv rfl rfl (gqf rfl rfl rfl (fun e => fa rfl rfl) (gqf rfl rfl rfl (fun e => ld (cg rfl e) (cell g3 rfl) rfl) ?_))))
    refine gef rfl rfl rfl (fun e kk => clE (tname_fn _ _) (a1 (cg rfl e)) rfl kk) (fun h26 x26 => ?_)
    have s26 : g.size ≤ h26.size := x26.size
    have k_26 := kg.ext x26
    have g2_26 := x26.get g2
    have g3_26 := x26.get g3
    have g6_26 := x26.get g6
    refine gqf rfl rfl rfl (fun e => mv (cg rfl e) rfl) (gqt2 rfl rfl rfl (fun e => fa rfl rfl) (gqt2 rfl rfl rfl (fun e => ld (cg rfl e) (cell g3_26 rfl) rfl) (getr2 rfl rfl rfl (fun e kk => clE (tname_fn _ _) (a1 (cg rfl e)) rfl kk) (fun h27 x27 => ?_))))
    have s27 : h26.size ≤ h27.size := x27.size
    have k_27 := k_26.ext x27
    have g2_27 := x27.get g2_26
    have g3_27 := x27.get g3_26
    have g6_27 := x27.get g6_26
    refine gqt2 rfl rfl rfl (fun e => mv (cg rfl e) rfl) (gqf2 rfl rfl rfl (fun e => fa rfl rfl) (gqf2 rfl rfl rfl (fun e => ld (cg rfl e) (cell g3_27 rfl) rfl) (gqf2 rfl rfl rfl (fun e => eqs (cg rfl e) rfl rfl) ?_)))
    refine gqf2 rfl rfl rfl (fun e => mv (cg rfl e) rfl) (gqt2 rfl rfl rfl (fun e => fa rfl rfl) (gqt2 rfl rfl rfl (fun e => ld (cg rfl e) (cell g3_27 rfl) rfl) (gqt2 rfl rfl rfl (fun e => eqi (cg rfl e) rfl rfl) ?_)))
    refine gqf2 rfl rfl rfl (fun e => pka (cg rfl e) (cg2 rfl e) rfl rfl) (gqt2 rfl rfl rfl (fun e => pko (cg rfl e) rfl (cg2 rfl e) rfl) (gqf rfl rfl rfl (fun e => pka (cg rfl e) (cg2 rfl e) rfl rfl) ?_))
    refine pko rfl rfl rfl rfl (asg rfl rfl ?_)
    refine o_nil ?_; refine x_seq ?_; refine c_seq ?_; refine c_reg ?_
    refine mv rfl rfl (mv rfl rfl (gqt rfl rfl rfl (fun e => mv rfl rfl) (pka rfl rfl rfl rfl (mv rfl rfl (gqt rfl rfl rfl (fun e => fa rfl rfl) (gqt rfl rfl rfl (fun e => ld (cg rfl e) (cell g3_27 rfl) rfl) ?_))))))
    refine gqt rfl rfl rfl (fun e => fa rfl rfl) (gqt rfl rfl rfl (fun e => ld (cg rfl e) (cell g6_27 rfl) rfl) (gqt rfl rfl rfl (fun e => eqi (cg rfl e) (cg rfl e) rfl) ?_))
    refine pka rfl rfl rfl rfl (mv rfl rfl (gqt rfl rfl rfl (fun e => fa rfl rfl) (gqt rfl rfl rfl (fun e => ld (cg rfl e) (cell g3_27 rfl) rfl) (gqt rfl rfl rfl (fun e => fa rfl rfl) ?_))))
    refine gqt rfl rfl rfl (fun e => ld (cg rfl e) (cell g6_27 rfl) rfl) (gqt rfl rfl rfl (fun e => eqi (cg rfl e) (cg rfl e) rfl) (pka rfl rfl rfl rfl (mv rfl rfl ?_)))
    refine gqt rfl rfl rfl (fun e => fa rfl rfl) (gqt rfl rfl rfl (fun e => ld (cg rfl e) (cell g3_27 rfl) rfl) (gqt rfl rfl rfl (fun e => fa rfl rfl) (gqt rfl rfl rfl (fun e => ld (cg rfl e) (cell g6_27 rfl) rfl) ?_)))
    refine gqt rfl rfl rfl (fun e => eqi (cg rfl e) (cg rfl e) rfl) (pka rfl rfl rfl rfl (mv rfl rfl (gqt rfl rfl rfl (fun e => fa rfl rfl) (gqt rfl rfl rfl (fun e => ld (cg rfl e) (cell g3_27 rfl) rfl) ?_))))
    refine gqt rfl rfl rfl (fun e => fa rfl rfl) (gqt rfl rfl rfl (fun e => ld (cg rfl e) (cell g6_27 rfl) rfl) (gqt rfl rfl rfl (fun e => eqi (cg rfl e) (cg rfl e) rfl) ?_))
    refine pka rfl rfl rfl rfl (mv rfl rfl (gqt rfl rfl rfl (fun e => fa rfl rfl) (gqt rfl rfl rfl (fun e => ld (cg rfl e) (cell g3_27 rfl) rfl) (gqt rfl rfl rfl (fun e => fa rfl rfl) ?_))))
    refine gqt rfl rfl rfl (fun e => ld (cg rfl e) (cell g6_27 rfl) rfl) (gqt rfl rfl rfl (fun e => eqi (cg rfl e) (cg rfl e) rfl) (pka rfl rfl rfl rfl (mv rfl rfl ?_)))
    refine gqt rfl rfl rfl (fun e => fa rfl rfl) (gqt rfl rfl rfl (fun e => ld (cg rfl e) (cell g3_27 rfl) rfl) (gqt rfl rfl rfl (fun e => lnl (cg rfl e) rfl) (gqt rfl rfl rfl (fun e => fa rfl rfl) ?_)))
    refine gqt rfl rfl rfl (fun e => ld (cg rfl e) (cell g6_27 rfl) rfl) (gqt rfl rfl rfl (fun e => lnl (cg rfl e) rfl) (gqt rfl rfl rfl (fun e => eqi (cg rfl e) (cg rfl e) rfl) ?_))
    refine pka rfl rfl rfl rfl (mv rfl rfl (gqt rfl rfl rfl (fun e => fa rfl rfl) (gqt rfl rfl rfl (fun e => ld (cg rfl e) (cell g3_27 rfl) rfl) (gqt rfl rfl rfl (fun e => lnl (cg rfl e) rfl) ?_))))
    refine gqt rfl rfl rfl (fun e => fa rfl rfl) (gqt rfl rfl rfl (fun e => ld (cg rfl e) (cell g6_27 rfl) rfl) (gqt rfl rfl rfl (fun e => lnl (cg rfl e) rfl) (gqt rfl rfl rfl (fun e => eqi (cg rfl e) (cg rfl e) rfl) ?_)))
    refine pka rfl rfl rfl rfl (asg rfl rfl ?_)
    refine o_nil ?_; refine x_seq ?_; refine c_ret ?_; refine ret1 (.inr rfl) rfl rfl ?_
    exact ⟨vtb (Iff.trans Iff.rfl (formed_iff hw)), (k_27).toExt⟩
end
end Go.Proofs.YtgnkfegkdjfnjaaGreat
