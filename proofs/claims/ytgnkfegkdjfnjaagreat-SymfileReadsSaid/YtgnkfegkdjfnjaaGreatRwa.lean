/- Walks of the rider's small functions: which numbers fit, a compact number's groups, what is put. Walks of the rider's Writer: put, spoil, Byte, Num, Word, Text, Bytes, Write. Walks of the rider's Writer: spoil, Byte, Word, Text, Bytes, a compact number's groups, Num. Walks of the rider's Writer: IndexByte, Text, Bytes, a compact number's groups, Num. Walks of the rider's Writer: a compact number's groups, Num. No condition but what each theorem says. -/
import Derived.Test.YtgnkfegkdjfnjaaGreatTab
import Derived.Lib.Bytealg
namespace Go.Proofs.YtgnkfegkdjfnjaaGreat.R
/-! Walks of the rider's small functions: which numbers fit, a compact number's groups, what is put. No condition but what each theorem says. -/
section
open Go Go.Eng

theorem wsh (s : Int) (hs : s = 1 ∨ s = -1) (k : Int) (hk : 0 ≤ k ∧ k ≤ 62) : IntKind.i64.wrap (s * 2 ^ (min k.toNat IntKind.i64.bits)) = s * 2 ^ k.toNat := by
  have h64 : IntKind.i64.bits = 64 := rfl
  have e : min k.toNat IntKind.i64.bits = k.toNat := by rw [h64]; omega
  rw [e]
  have hp : (1 : Int) ≤ 2 ^ k.toNat := by have := Nat.one_le_two_pow (n := k.toNat); exact_mod_cast this
  have hq : (2 : Int) ^ k.toNat ≤ 2 ^ 62 := by
    have := Nat.pow_le_pow_right (n := 2) (by omega) (show k.toNat ≤ 62 by omega); exact_mod_cast this
  apply w64
  rcases hs with rfl | rfl <;> omega

theorem fits_fn (n k : Int) (hk : 1 ≤ k ∧ k ≤ 32) (h : Heap) : Does Tryz.prog 48 [i64 n, i64 k] h (fun v h' => h' = h ∧ v = .bool (decide (-(2 ^ (k - 1).toNat) ≤ n ∧ n < 2 ^ (k - 1).toNat))) := by
  have e1 := wsh 1 (.inl rfl) (k - 1) (by omega)
  have e2 := wsh (-1) (.inr rfl) (k - 1) (by omega)
  refine fn_enter (N := 25) Tryz.func48 (by kernel_rfl) rfl rfl rfl (fun w0 => ?_)
  refine c_seq ?_; refine c_reg ?_; refine asg rfl rfl ?_; refine o_nil ?_; refine x_seq ?_; refine c_seq ?_; refine c_reg ?_
  refine mv rfl rfl (gei rfl rfl rfl (mv rfl rfl ?_))
  refine ct 7 rfl (by omega) ?_
  refine gd rfl rfl (mv rfl rfl (gd rfl rfl (lei rfl rfl rfl (pkt rfl rfl rfl (mv rfl rfl ?_)))))
  refine ct 11 rfl (by omega) ?_
  refine gd rfl rfl (mv rfl rfl (gd rfl rfl (sub rfl rfl (by omega) rfl (gd rfl rfl (shl rfl rfl (by omega) rfl (gd rfl rfl (mv rfl rfl (gd rfl rfl (lei rfl rfl rfl ?_)))))))))
  refine pkt rfl rfl rfl (mv rfl rfl ?_)
  refine cs 18 rfl (fun c3 => ?_) (fun c3 => ?_)
  · refine gd rfl rfl (mv rfl rfl (gd rfl rfl (mv rfl rfl (gd rfl rfl (sub rfl rfl (by omega) rfl (gd rfl rfl (shl rfl rfl (by omega) rfl (gd rfl rfl (lti rfl rfl rfl ?_)))))))))
    refine pkt rfl rfl rfl (asg rfl rfl ?_)
    refine o_nil ?_; refine x_seq ?_; refine c_ret ?_; refine ret1 (.inr rfl) rfl rfl ?_
    refine ⟨rfl, ?_⟩
    rw [e1, e2] at *
    exact vb (by omega)
  · refine gs rfl rfl rfl rfl (gs rfl rfl rfl rfl (gs rfl rfl rfl rfl (gs rfl rfl rfl rfl (gs rfl rfl rfl rfl (pkf rfl rfl rfl (asg rfl rfl ?_))))))
    refine o_nil ?_; refine x_seq ?_; refine c_ret ?_; refine ret1 (.inr rfl) rfl rfl ?_
    refine ⟨rfl, ?_⟩
    rw [e2] at c3
    exact vbf (by omega)
end

/-! Walks of the rider's Writer: put, spoil, Byte, Num, Word, Text, Bytes, Write. No condition but what each theorem says. -/
section
open Go Go.Eng

/-- a Writer lies at block p; vb: its slice; all: what was put into it; sp: is it spoilt? -/
structure W (h : Heap) (p : Nat) (vb : Value) (all : List UInt8) (sp : Bool) : Prop where
  blk : h[p]? = some (.cells #[vb, .bool sp, .bool (decide (131072 < all.length))] 96 (0, 0))
  own : ∃ xs, Owns h 5 1 vb xs.length (bcells xs) ∧ (all.length ≤ 131072 → xs = all)
  ne : ¬ ownB vb p

/-- what a Writer's call lets go: its own blocks -/
structure WS (h : Heap) (p : Nat) (vb : Value) (h' : Heap) (vb' : Value) : Prop where
  mod : Mod (fun k => k = p ∨ ownB vb k) h h'
  new : ∀ k, ownB vb' k → ownB vb k ∨ h.size ≤ k
theorem WS.refl (h : Heap) (p : Nat) (vb : Value) : WS h p vb h vb := ⟨Mod.refl _ _, fun _ hk => .inl hk⟩
theorem WS.trans {h h1 h2 : Heap} {p : Nat} {vb v1 v2 : Value} (a : WS h p vb h1 v1) (b : WS h1 p v1 h2 v2) : WS h p vb h2 v2 :=
  ⟨⟨Nat.le_trans a.mod.size b.mod.size, fun k hk hn => (b.mod.same k (Nat.lt_of_lt_of_le hk a.mod.size) (fun e => e.elim (fun e => hn (.inl e)) (fun e => (a.new k e).elim (fun e => hn (.inr e)) (fun e => by omega)))).trans (a.mod.same k hk hn)⟩,
   fun k hk => (b.new k hk).elim (a.new k) (fun e => .inr (Nat.le_trans a.mod.size e))⟩
theorem WS.ext {h h1 : Heap} {p : Nat} {vb : Value} (x : Ext h h1) : WS h p vb h1 vb := ⟨x.mod _, fun _ hk => .inl hk⟩
theorem W.mod {S : Nat → Prop} {h h' : Heap} {p : Nat} {vb : Value} {all : List UInt8} {sp : Bool} (w : W h p vb all sp) (x : Mod S h h') (hp : ¬ S p) (hv : ∀ k, ownB vb k → ¬ S k) : W h' p vb all sp :=
  ⟨x.get w.blk hp, w.own.imp fun _ ⟨a, b⟩ => ⟨a.mod x hv, b⟩, w.ne⟩
theorem W.ext {h h' : Heap} {p : Nat} {vb : Value} {all : List UInt8} {sp : Bool} (w : W h p vb all sp) (x : Ext h h') : W h' p vb all sp := w.mod x (fun e => e) (fun _ _ e => e)

theorem Write_fn (h : Heap) : Does Tryz.prog 35 [] h (fun v h' => v = ptr h.size 0 ∧ W h' h.size (.slice none 0 0) [] false ∧ Ext h h') := by
  refine fn_enter (N := 3) Tryz.func35 (by kernel_rfl) rfl rfl rfl (fun w0 => ?_)
  refine c_seq ?_; refine c_reg ?_; refine asg rfl rfl ?_; refine o_nil ?_; refine x_seq ?_; refine c_seq ?_; refine c_reg ?_
  refine bld (vs := []) (v := .agg #[.slice none 0 0, .bool false, .bool false]) rfl (fun _ => by kernel_rfl) rfl (bx rfl nofun rfl (fun h1 n1 => ?_))
  refine asg rfl rfl ?_; refine o_nil ?_; refine x_seq ?_; refine c_ret ?_; refine ret1 (.inr rfl) rfl rfl ?_
  exact ⟨rfl, ⟨n1.at_, ⟨[], Owns.nil _ _ _, fun _ => rfl⟩, by simp [ownB, Value.ownBlock]⟩, n1.ext⟩

theorem put_fn {h : Heap} {p : Nat} {vb : Value} {all : List UInt8} {sp : Bool} (w : W h p vb all sp) (s : List UInt8) (hs : s.length ≤ 1073741824) :
    Does Tryz.prog 62 [ptr p 0, str s] h (fun v h' => v = .tuple #[] ∧ ∃ vb', W h' p vb' (all ++ s) sp ∧ WS h p vb h' vb') := by
  have hb := w.blk
  refine fn_enter (N := 30) Tryz.func62 (by kernel_rfl) rfl rfl rfl (fun w0 => ?_)
  refine c_seq ?_; refine c_seq ?_; refine c_reg ?_; refine mv rfl rfl (eqpn rfl rfl rfl (mv rfl rfl ?_))
  refine cf 6 rfl (by simp) ?_
  refine gd rfl rfl (mv rfl rfl (gd rfl rfl (nck rfl rfl (gd rfl rfl (fa rfl rfl (gd rfl rfl (ld rfl (cell hb rfl) rfl (pkf rfl rfl rfl ?_))))))))
  refine o_nil ?_; refine x_seq ?_; refine c_cond rfl (fun c2 => ?_) (fun c2 => ?_)
  · refine c_ret ?_
    refine x_seq_ret ?_; refine ret0 (.inr rfl) rfl ?_
    refine ⟨rfl, vb, ⟨?_, ?_, w.ne⟩, WS.refl _ _ _⟩
    · rw [hb]; simp [c2]; omega
    · obtain ⟨xs, o, -⟩ := w.own; exact ⟨xs, o, fun e => by simp at e; omega⟩
  · refine c_skip ?_
    obtain ⟨xs, o, hx⟩ := w.own
    obtain rfl := hx (by omega)
    refine x_seq ?_; refine c_seq ?_; refine c_reg ?_
    refine mv rfl rfl (mv rfl rfl (nck rfl rfl (fa rfl rfl (ld rfl (cell hb rfl) rfl (mv rfl rfl (app U_st rfl rfl o (Src.str s) (by simp [bcells]) (bcells_one s) (by unfold maxLen; omega) (by omega) nofun rfl (fun v3 h3 o3 m3 f3 => ?_)))))))
    have hb3 := m3.get hb w.ne
    obtain ⟨a3, k3, rfl⟩ := o3.form
    refine nck rfl rfl (fa rfl rfl (st rfl rfl o3.one hb3 rfl nofun (fun h4 u4 => ?_)))
    have hb4 := u4.at_
    refine o_nil ?_; refine x_seq ?_; refine c_reg ?_
    refine mv rfl rfl (mv rfl rfl (nck rfl rfl (fa rfl rfl (ld rfl (cell hb4 rfl) rfl (lnl rfl rfl (gti rfl rfl rfl (nck rfl rfl (fa rfl rfl (st rfl rfl rfl hb4 rfl nofun (fun h5 u5 => ?_))))))))))
    have hb5 := u5.at_
    refine o_nil ?_; refine ret0 (.inl rfl) rfl ?_
    have hne : ¬ ownB (.slice a3 (xs.length + s.length) k3) p := fun e => (f3 p e).elim w.ne (fun e => by have := lt_of_get hb; omega)
    refine ⟨rfl, _, ⟨?_, ⟨xs ++ s, ?_, fun _ => rfl⟩, hne⟩, ⟨⟨by have := m3.size; rw [u5.size, u4.size]; exact this, fun k hk hn => ?_⟩, f3⟩⟩
    · rw [hb5]; simp; omega
    · have e : bcells xs ++ bcells s = bcells (xs ++ s) := by simp [bcells]
      rw [e] at o3
      rw [List.length_append]
      exact (o3.mod u4.mod (fun k hk e => hne (e ▸ hk))).mod u5.mod (fun k hk e => hne (e ▸ hk))
    · have hp : k ≠ p := fun e => hn (.inl e)
      have := m3.size
      rw [u5.mod.same k (by rw [u4.size]; omega) hp, u4.mod.same k (by omega) hp]
      exact m3.same k hk (fun e => hn (.inr e))
end

/-! Walks of the rider's Writer: spoil, Byte, Word, Text, Bytes, a compact number's groups, Num. No condition but what each theorem says. -/
section
open Go Go.Eng

theorem spoil_fn {h : Heap} {p : Nat} {vb : Value} {all : List UInt8} {sp : Bool} (w : W h p vb all sp) :
    Does Tryz.prog 61 [ptr p 0] h (fun v h' => v = .tuple #[] ∧ W h' p vb all true ∧ WS h p vb h' vb) := by
  have hb := w.blk
  refine fn_enter (N := 7) Tryz.func61 (by kernel_rfl) rfl rfl rfl (fun w0 => ?_)
  refine c_seq ?_; refine c_reg ?_; refine mv rfl rfl (nepn rfl rfl rfl ?_)
  refine o_nil ?_; refine x_seq ?_; refine c_t rfl (by simp) ?_
  refine c_reg ?_
  refine mv rfl rfl (nck rfl rfl (fa rfl rfl (st rfl rfl rfl hb rfl nofun (fun h2 u2 => ?_))))
  refine o_nil ?_; refine ret0 (.inl rfl) rfl ?_
  exact ⟨rfl, ⟨u2.at_, w.own.imp fun _ ⟨a, b⟩ => ⟨a.mod u2.mod (fun k hk e => w.ne (e ▸ hk)), b⟩, w.ne⟩, u2.mod.mono (fun k _ e => .inl e), fun k hk => .inl hk⟩

theorem Byte_fn {h : Heap} {p : Nat} {vb : Value} {all : List UInt8} {sp : Bool} (w : W h p vb all sp) (x : Int) :
    Does Tryz.prog 40 [ptr p 0, i64 x] h (fun v h' => v = .tuple #[] ∧ ∃ vb', W h' p vb' (all ++ [b8 x]) sp ∧ WS h p vb h' vb') := by
  refine fn_enter (N := 10) Tryz.func40 (by kernel_rfl) rfl rfl rfl (fun w0 => ?_)
  refine c_reg ?_
  refine mv rfl rfl (mv rfl rfl (cvi rfl rfl (bsl (vs := [(0, .int .u8 (IntKind.u8.wrap x))]) (cs := #[.int .u8 (IntKind.u8.wrap x)]) (E := 5) rfl (fun _ => by kernel_rfl) nofun rfl (fun h1 n1 => ?_))))
  have o1 : Owns h1 5 1 (.slice (some ⟨h.size, 0, none⟩) 1 1) 1 (bcells [b8 x]) := by
    have := n1.owns (size := 1) (n := 1) rfl (by decide)
    rw [b8_cell] at this; exact this
  refine cvo rfl o1 rfl (cl (vs := [ptr p 0, str [b8 x]]) rfl (put_fn (w.ext n1.ext) _ (by simp)) rfl (fun v2 h2 r2 => ?_))
  obtain ⟨rfl, vb', w2, s2⟩ := r2
  refine o_nil ?_; refine ret0 (.inl rfl) rfl ?_
  exact ⟨rfl, vb', w2, (WS.ext n1.ext).trans s2⟩

/-- a word's bytes -/
def wordb (x : Int) : List UInt8 := [b8 x, b8 (x / 256), b8 (x / 65536), b8 (x / 16777216)]
def wordc (x : Int) (i : Nat) : List Value := [.int .u8 (if 0 < i then x % 256 else 0), .int .u8 (if 1 < i then x / 256 % 256 else 0), .int .u8 (if 2 < i then x / 65536 % 256 else 0), .int .u8 (if 3 < i then x / 16777216 % 256 else 0)]

theorem Word_fn {h : Heap} {p : Nat} {vb : Value} {all : List UInt8} {sp : Bool} (w : W h p vb all sp) (x : Int) :
    Does Tryz.prog 37 [ptr p 0, .int .u32 x] h (fun v h' => v = .tuple #[] ∧ ∃ vb', W h' p vb' (all ++ wordb x) sp ∧ WS h p vb h' vb') := by
  refine fn_enter (N := 21) Tryz.func37 (by kernel_rfl) rfl rfl rfl (fun w0 => ?_)
  refine c_seq ?_; refine c_reg ?_; refine alc nofun rfl (fun h1 n1 => ?_)
  refine o_nil ?_; refine x_seq ?_; refine c_seq ?_; refine c_seq ?_; refine c_reg ?_; refine mv rfl rfl ?_; refine o_nil ?_; refine x_seq ?_
  refine c_blk ?_
  refine c_loop (α := Nat × Heap) (fun y => [(0, ptr p 0), (1, .int .u32 x), (4, ptr h.size 0), (6, i64 y.1)]) (fun y => y.2)
    (fun y => y.1 ≤ 4 ∧ Ext h y.2 ∧ y.2[h.size]? = some (.cells (wordc x y.1).toArray 97 (0, 0))) (fun y => 4 - y.1) (0, h1) ⟨by omega, n1.ext, n1.at_⟩ ⟨rfl, rfl, rfl, rfl, trivial⟩ rfl (fun y hy => ?_)
  obtain ⟨i, h2⟩ := y
  obtain ⟨hi, x2, b2⟩ := hy
  simp only at hi x2 b2
  refine c_seq ?_; refine c_reg ?_; refine lti rfl rfl rfl ?_; refine o_nil ?_; refine x_seq ?_; refine c_seq ?_
  refine c_cond rfl (fun c2 => ?_) (fun c2 => ?_)
  · refine c_skip ?_
    refine x_seq ?_; refine c_seq ?_; refine c_blk ?_; refine c_seq ?_; refine c_reg ?_; refine mv rfl rfl (asg rfl rfl ?_)
    refine o_nil ?_; refine x_seq ?_; refine c_reg ?_
    refine mv rfl rfl (mv rfl rfl (mv rfl rfl (mul rfl rfl (by omega) rfl (shr rfl rfl (by omega) rfl (cvi rfl rfl (ixa rfl rfl (by omega) rfl (st rfl rfl rfl b2 (by simp [wordc]; omega) nofun (fun h3 u3 => ?_))))))))
    have b3 := u3.at_
    refine o_nil ?_; refine x_blk ?_; refine x_seq ?_; refine c_reg ?_; refine add rfl rfl (by omega) rfl (mv rfl rfl ?_)
    refine o_nil ?_
    refine x_loop (i + 1, h3) ⟨by simp only; omega, ⟨by rw [u3.size]; exact x2.size, fun k hk _ => (u3.mod.same k (Nat.lt_of_lt_of_le hk x2.size) (by omega)).trans (x2.same k hk (fun e => e))⟩, ?_⟩ (by simp only; omega) ⟨rfl, rfl, rfl, rfl, trivial⟩ rfl
    rw [b3]
    have hi4 : i = 0 ∨ i = 1 ∨ i = 2 ∨ i = 3 := by omega
    rcases hi4 with rfl | rfl | rfl | rfl <;> simp [wordc, IntKind.wrap_u8, IntKind.bits, Int.fdiv_eq_ediv]
  · refine c_exit ?_
    have : i = 4 := by omega
    subst this
    refine x_seq_exit ?_; refine x_loop_exit ?_; refine x_blk_hit ?_; refine x_seq ?_; refine c_reg ?_
    have ob := row_blk b2
    have e2 : (wordc x 4) = bcells (wordb x) := by simp [wordc, bcells, wordb, b8_nat]
    simp only [e2] at ob
    refine mv rfl rfl (sla_array rfl rfl (cvs (l := wordb x) rfl (fun h' e _ => .inr ⟨h.size, 0, 4, rfl, by rw [e rfl]; exact ob⟩) rfl (cl (vs := [ptr p 0, str (wordb x)]) rfl (put_fn (w.ext x2) _ (by simp [wordb])) rfl (fun v4 h4 r4 => ?_))))
    obtain ⟨rfl, vb', w4, s4⟩ := r4
    refine o_nil ?_; refine ret0 (.inl rfl) rfl ?_
    exact ⟨rfl, vb', w4, (WS.ext x2).trans s4⟩
end

/-! Walks of the rider's Writer: IndexByte, Text, Bytes, a compact number's groups, Num. No condition but what each theorem says. -/
section
open Go Go.Eng

theorem ibs (s : List UInt8) (c : Int) (w : World) : (callFunc 75 #[str s, .int .u8 c]).run Tryz.prog w = .ok (.value (i64 (Lib.indexByte s c.toNat.toUInt8))) w := by
  rw [run_callFunc_extern Tryz.func75 (by kernel_rfl) (by kernel_rfl) (by kernel_rfl) (e := Extern.BytealgIndexByte.indexByte) (by kernel_rfl), Lib.run_indexByteString]
  rfl
theorem ib1_fn (s : List UInt8) (c : Int) (h : Heap) : Does Tryz.prog 65 [str s, .int .u8 c] h (fun v h' => h' = h ∧ v = i64 (Lib.indexByte s c.toNat.toUInt8)) := by
  refine fn_enter (N := 8) Tryz.func65 (by kernel_rfl) rfl rfl rfl (fun w0 => ?_)
  refine c_seq ?_; refine c_reg ?_; refine asg rfl rfl ?_; refine o_nil ?_; refine x_seq ?_; refine c_seq ?_; refine c_reg ?_
  refine mv rfl rfl (mv rfl rfl (clx (vs := [str s, .int .u8 c]) rfl (ibs s c) nofun rfl ?_))
  refine asg rfl rfl ?_; refine o_nil ?_; refine x_seq ?_; refine c_ret ?_; refine ret1 (.inr rfl) rfl rfl ?_
  exact ⟨rfl, rfl⟩
theorem ib_fn (s : List UInt8) (c : Int) (h : Heap) : Does Tryz.prog 43 [str s, .int .u8 c] h (fun v h' => h' = h ∧ v = i64 (Lib.indexByte s c.toNat.toUInt8)) := by
  refine fn_enter (N := 8) Tryz.func43 (by kernel_rfl) rfl rfl rfl (fun w0 => ?_)
  refine c_seq ?_; refine c_reg ?_; refine asg rfl rfl ?_; refine o_nil ?_; refine x_seq ?_; refine c_seq ?_; refine c_reg ?_
  refine mv rfl rfl (mv rfl rfl (cl (vs := [str s, .int .u8 c]) rfl (ib1_fn s c h) rfl (fun v1 h1 r1 => ?_)))
  obtain ⟨rfl, rfl⟩ := r1
  refine asg rfl rfl ?_; refine o_nil ?_; refine x_seq ?_; refine c_ret ?_; refine ret1 (.inr rfl) rfl rfl ?_
  exact ⟨rfl, rfl⟩
theorem ib0_neg (s : List UInt8) : 0 ≤ Lib.indexByte s 0 ↔ 0 ∈ s := by
  induction s with
  | nil => simp [Lib.indexByte]
  | cons b l ih =>
    unfold Lib.indexByte
    have hg := Lib.indexByte_ge l 0
    by_cases h : b = 0
    · subst h; simp
    · have h1 : (b == 0) = false := by simpa using h
      have h2 : ¬ (0 : UInt8) = b := fun e => h e.symm
      simp only [h1, Bool.false_eq_true, if_false, List.mem_cons, h2, false_or]
      rw [← ih]
      split
      · rename_i e; have : Lib.indexByte l 0 = -1 := by simpa using e
        omega
      · rename_i e; have : Lib.indexByte l 0 ≠ -1 := by simpa using e
        omega

/-- is a text one that may be written? -/
def textOk (s : List UInt8) : Prop := s.length ≤ 64 ∧ 0 ∉ s
instance (s : List UInt8) : Decidable (textOk s) := by unfold textOk; exact inferInstance

theorem Text_fn {h : Heap} {p : Nat} {vb : Value} {all : List UInt8} {sp : Bool} (w : W h p vb all sp) (s : List UInt8) :
    Does Tryz.prog 36 [ptr p 0, str s] h (fun v h' => v = .tuple #[] ∧ ∃ vb', W h' p vb' (if textOk s then all ++ (s ++ [0]) else all) (if textOk s then sp else true) ∧ WS h p vb h' vb') := by
  refine fn_enter (N := 18) Tryz.func36 (by kernel_rfl) rfl rfl rfl (fun w0 => ?_)
  refine c_seq ?_; refine c_seq ?_; refine c_reg ?_; refine mv rfl rfl (lns rfl rfl (gti rfl rfl rfl (mv rfl rfl ?_)))
  refine cs 7 rfl (fun c1 => ?_) (fun c1 => ?_)
  · refine gs rfl rfl rfl rfl (gs rfl rfl rfl rfl (gs rfl rfl rfl rfl (pkt rfl rfl rfl ?_)))
    refine o_nil ?_; refine x_seq ?_; refine c_t rfl rfl ?_; refine c_seq ?_; refine c_reg ?_
    refine mv rfl rfl (cl (vs := [ptr p 0]) rfl (spoil_fn w) rfl (fun v2 h2 r2 => ?_))
    obtain ⟨rfl, w2, s2⟩ := r2
    refine o_nil ?_; refine x_seq ?_; refine c_ret ?_; refine x_seq_ret ?_; refine ret0 (.inr rfl) rfl ?_
    have : ¬ textOk s := fun e => by have := e.1; omega
    rw [if_neg this, if_neg this]
    exact ⟨rfl, vb, w2, s2⟩
  · refine gd rfl rfl (mv rfl rfl (gd rfl rfl (cl (vs := [str s, .int .u8 0]) rfl (ib_fn s 0 h) rfl (fun v3 h3 r3 => ?_))))
    obtain ⟨rfl, rfl⟩ := r3
    refine gd rfl rfl (gei rfl rfl rfl (pkf rfl rfl rfl ?_))
    refine o_nil ?_; refine x_seq ?_; refine c_cond rfl (fun c4 => ?_) (fun c4 => ?_)
    · refine c_seq ?_
      refine c_reg ?_; refine mv rfl rfl (cl (vs := [ptr p 0]) rfl (spoil_fn w) rfl (fun v5 h5 r5 => ?_))
      obtain ⟨rfl, w2, s2⟩ := r5
      refine o_nil ?_; refine x_seq ?_; refine c_ret ?_; refine x_seq_ret ?_; refine ret0 (.inr rfl) rfl ?_
      have : ¬ textOk s := fun e => e.2 ((ib0_neg s).1 c4)
      rw [if_neg this, if_neg this]
      exact ⟨rfl, vb, w2, s2⟩
    · refine c_skip ?_
      refine x_seq ?_; refine c_reg ?_
      refine mv rfl rfl (mv rfl rfl (cat (m := [0]) rfl rfl (by simp; omega) rfl (cl (vs := [ptr p 0, str (s ++ [0])]) rfl (put_fn w _ (by simp; omega)) rfl (fun v6 h6 r6 => ?_))))
      obtain ⟨rfl, vb', w2, s2⟩ := r6
      refine o_nil ?_; refine ret0 (.inl rfl) rfl ?_
      have : textOk s := ⟨by omega, fun e => c4 ((ib0_neg s).2 e)⟩
      rw [if_pos this, if_pos this]
      exact ⟨rfl, vb', w2, s2⟩

theorem Bytes_fn {h : Heap} {p : Nat} {vb : Value} {all : List UInt8} {sp : Bool} (w : W h p vb all sp) :
    Does Tryz.prog 42 [ptr p 0] h (fun v h' => h' = h ∧ v = .tuple #[str (if sp then [] else if 131072 < all.length then [] else all), i64 (if sp then 1 else if 131072 < all.length then 2 else 0)]) := by
  have hb := w.blk
  refine fn_enter (N := 21) Tryz.func42 (by kernel_rfl) rfl rfl rfl (fun w0 => ?_)
  refine c_seq ?_; refine c_reg ?_; refine asg rfl rfl (asg rfl rfl ?_)
  refine o_nil ?_; refine x_seq ?_; refine c_seq ?_; refine c_seq ?_; refine c_reg ?_; refine mv rfl rfl (eqpn rfl rfl rfl (mv rfl rfl ?_))
  refine cf 6 rfl (by simp) ?_
  refine gd rfl rfl (mv rfl rfl (gd rfl rfl (nck rfl rfl (gd rfl rfl (fa rfl rfl (gd rfl rfl (ld rfl (cell hb rfl) rfl (pkf rfl rfl rfl ?_))))))))
  refine o_nil ?_; refine x_seq ?_; refine c_cond rfl (fun c2 => ?_) (fun c2 => ?_)
  · refine c_seq ?_
    refine c_reg ?_; refine asg rfl rfl (asg rfl rfl ?_)
    refine o_nil ?_; refine x_seq ?_; refine c_ret ?_; refine x_seq_ret ?_; refine ret2 (.inr rfl) rfl rfl rfl ?_
    exact ⟨rfl, by rw [c2]; rfl⟩
  · refine c_skip ?_
    simp only [Bool.not_eq_true] at c2
    refine x_seq ?_; refine c_seq ?_; refine c_seq ?_; refine c_reg ?_; refine mv rfl rfl (nck rfl rfl (fa rfl rfl (ld rfl (cell hb rfl) rfl ?_)))
    refine o_nil ?_; refine x_seq ?_; refine c_cond rfl (fun c3 => ?_) (fun c3 => ?_)
    · refine c_seq ?_
      refine c_reg ?_; refine asg rfl rfl (asg rfl rfl ?_)
      refine o_nil ?_; refine x_seq ?_; refine c_ret ?_; refine x_seq_ret ?_; refine ret2 (.inr rfl) rfl rfl rfl ?_
      exact ⟨rfl, by simp [c2, c3]⟩
    · refine c_skip ?_
      obtain ⟨xs, o, hx⟩ := w.own
      obtain rfl := hx (by omega)
      refine x_seq ?_; refine c_seq ?_; refine c_reg ?_
      refine mv rfl rfl (nck rfl rfl (fa rfl rfl (ld rfl (cell hb rfl) rfl (cvo rfl o rfl (asg rfl rfl (asg rfl rfl ?_))))))
      refine o_nil ?_; refine x_seq ?_; refine c_ret ?_; refine ret2 (.inr rfl) rfl rfl rfl ?_
      exact ⟨rfl, by simp [c2, c3]⟩
end

/-! Walks of the rider's Writer: a compact number's groups, Num. No condition but what each theorem says. -/
section
open Go Go.Eng

theorem or128 (x : Int) : bits2 .or .u8 (IntKind.u8.wrap x) 128 = x % 128 + 128 := by
  have key : ∀ m : Fin 256, bits2 .or .u8 (m.val : Int) 128 = (m.val : Int) % 128 + 128 := by decide +kernel
  have h1 := Int.emod_nonneg x (show (256 : Int) ≠ 0 by decide)
  have h2 := Int.emod_lt_of_pos x (show (0 : Int) < 256 by decide)
  have := key ⟨(x % 256).toNat, by omega⟩
  rw [IntKind.wrap_u8]
  simp only [Int.toNat_of_nonneg h1] at this
  rw [this]; omega
theorem and127 (x : Int) : bits2 .and .u8 (IntKind.u8.wrap x) 127 = x % 128 := by
  have key : ∀ m : Fin 256, bits2 .and .u8 (m.val : Int) 127 = (m.val : Int) % 128 := by decide +kernel
  have h1 := Int.emod_nonneg x (show (256 : Int) ≠ 0 by decide)
  have h2 := Int.emod_lt_of_pos x (show (0 : Int) < 256 by decide)
  have := key ⟨(x % 256).toNat, by omega⟩
  rw [IntKind.wrap_u8]
  simp only [Int.toNat_of_nonneg h1] at this
  rw [this]; omega
theorem shr7 (x : Int) : x.fdiv (2 ^ min (7 : Int).toNat IntKind.i64.bits) = x / 128 := by
  have : (2 : Int) ^ min (7 : Int).toNat IntKind.i64.bits = 128 := by decide
  rw [this, Int.fdiv_eq_ediv]; simp

/-- a compact number's groups -/
def cg : Nat → Int → List UInt8
  | 0, n => [b8 (n % 128)]
  | f + 1, n => if -64 ≤ n ∧ n < 64 then [b8 (n % 128)] else b8 (n % 128 + 128) :: cg f (n / 128)
def compact (n : Int) : List UInt8 := cg 10 n
theorem cg_len : ∀ (f : Nat) (n : Int), (cg f n).length ≤ f + 1
  | 0, n => by simp [cg]
  | f + 1, n => by
    unfold cg
    split
    · simp
    · have := cg_len f (n / 128); simp; omega

set_option maxHeartbeats 400000 in
theorem compact_fn (n : Int) (hn : -9223372036854775808 ≤ n ∧ n ≤ 9223372036854775807) (h : Heap) :
    Does Tryz.prog 49 [i64 n] h (fun v h' => v = str (compact n) ∧ Ext h h') := by
  refine fn_enter (N := 22) Tryz.func49 (by kernel_rfl) rfl rfl rfl (fun w0 => ?_)
  refine c_seq ?_; refine c_reg ?_; refine asg rfl rfl ?_; refine o_nil ?_; refine x_seq ?_; refine c_seq ?_; refine c_reg ?_; refine asg rfl rfl ?_
  refine o_nil ?_; refine x_seq ?_; refine c_seq ?_; refine c_blk ?_
  refine c_loop (α := Nat × Int × List UInt8 × Value × Heap) (fun y => [(0, i64 y.2.1), (3, y.2.2.2.1)]) (fun y => y.2.2.2.2)
    (fun y => -(64 * 128 ^ y.1) ≤ y.2.1 ∧ y.2.1 < 64 * 128 ^ y.1 ∧ y.2.2.1 ++ cg y.1 y.2.1 = compact n ∧ y.2.2.1.length + y.1 = 10 ∧ Owns y.2.2.2.2 5 1 y.2.2.2.1 y.2.2.1.length (bcells y.2.2.1) ∧ Ext h y.2.2.2.2 ∧ ∀ k, ownB y.2.2.2.1 k → h.size ≤ k)
    (fun y => y.1) (10, n, [], .slice none 0 0, h) ⟨by simp only; omega, by simp only; omega, rfl, rfl, Owns.nil _ _ _, Mod.refl _ _, fun k hk => by simp [ownB, Value.ownBlock] at hk⟩ ⟨rfl, rfl, trivial⟩ rfl (fun y hy => ?_)
  obtain ⟨f, m, xs, v, h1⟩ := y
  obtain ⟨hm1, hm2, hcg, hlen, ho, x1, hk1⟩ := hy
  simp only at hm1 hm2 hcg hlen ho x1 hk1
  refine c_seq ?_; refine c_seq ?_; refine c_reg ?_; refine mv rfl rfl (cl (vs := [i64 m, i64 7]) rfl (fits_fn m 7 (by omega) h1) rfl (fun v1 h1' r1 => ?_))
  obtain ⟨rfl, rfl⟩ := r1
  have e6 : (2 : Int) ^ (7 - 1 : Int).toNat = 64 := by decide
  rw [e6]
  refine nt rfl rfl ?_; refine o_nil ?_; refine x_seq ?_; refine c_cond rfl (fun c2 => ?_) (fun c2 => ?_)
  · refine c_skip ?_
    obtain ⟨f, rfl⟩ : ∃ g, f = g + 1 := by
      cases f with
      | zero => simp at hm1 hm2; omega
      | succ g => exact ⟨g, rfl⟩
    refine x_seq ?_; refine c_seq ?_; refine c_blk ?_; refine c_reg ?_
    refine mv rfl rfl (mv rfl rfl (cvi rfl rfl (bit (by decide) rfl rfl rfl (rv 12 rfl (vi (or128 m)) (bsl (vs := [(0, .int .u8 (m % 128 + 128))]) (cs := #[.int .u8 (m % 128 + 128)]) (E := 5) rfl (fun _ => by kernel_rfl) nofun rfl (fun h3 n3 => ?_))))))
    have eb : Value.int .u8 (m % 128 + 128) = .int .u8 ((b8 (m % 128 + 128)).toNat : Int) := by rw [b8_nat]; exact vi (by omega)
    have o3 := ho.mod n3.ext (fun _ _ e => e)
    refine app (news := bcells [b8 (m % 128 + 128)]) U_sl rfl rfl o3 (Src.slice rfl (by rw [show bcells [b8 (m % 128 + 128)] = [.int .u8 (m % 128 + 128)] by simp [bcells, eb]]; exact row_blk n3.at_)) rfl (bcells_one _) (by unfold maxLen; omega) (by omega) nofun rfl (fun v4 h4 o4 m4 f4 => ?_)
    refine asg rfl rfl ?_; refine o_nil ?_; refine x_blk ?_; refine x_seq ?_; refine c_reg ?_
    refine mv rfl rfl (shr rfl rfl (by omega) rfl (rv 8 rfl (vi (shr7 m)) (asg rfl rfl ?_)))
    refine o_nil ?_
    have e1 : bcells xs ++ bcells [b8 (m % 128 + 128)] = bcells (xs ++ [b8 (m % 128 + 128)]) := by simp [bcells]
    rw [e1] at o4
    refine x_loop (f, m / 128, xs ++ [b8 (m % 128 + 128)], v4, h4) ⟨?_, ?_, ?_, ?_, ?_, ?_, ?_⟩ (by simp only; omega) ⟨rfl, rfl, trivial⟩ rfl
    · simp only; rw [Int.pow_succ] at hm1; omega
    · simp only; rw [Int.pow_succ] at hm2; omega
    · simp only; rw [← hcg, cg, if_neg c2]; simp
    · simp only [List.length_append, List.length_singleton]; omega
    · simpa using o4
    · exact ⟨Nat.le_trans x1.size (Nat.le_trans n3.ext.size m4.size), fun k hk _ => (m4.same k (by have := x1.size; have := n3.size; omega) (fun e => by have := hk1 k e; omega)).trans ((n3.ext.same k (by have := x1.size; omega) (fun e => e)).trans (x1.same k hk (fun e => e)))⟩
    · intro k hk
      rcases f4 k hk with e | e
      · exact hk1 k e
      · have := x1.size; have := n3.size; omega
  · refine c_exit ?_
    have c3 : -64 ≤ m ∧ m < 64 := by simpa using c2
    refine x_seq_exit ?_; refine x_loop_exit ?_; refine x_blk_hit ?_; refine x_seq ?_; refine c_seq ?_; refine c_reg ?_
    refine mv rfl rfl (mv rfl rfl (cvi rfl rfl (bit (by decide) rfl rfl rfl (rv 18 rfl (vi (and127 m)) (bsl (vs := [(0, .int .u8 (m % 128))]) (cs := #[.int .u8 (m % 128)]) (E := 5) rfl (fun _ => by kernel_rfl) nofun rfl (fun h5 n5 => ?_))))))
    have eb : Value.int .u8 (m % 128) = .int .u8 ((b8 (m % 128)).toNat : Int) := by rw [b8_nat]; exact vi (by omega)
    have o5 := ho.mod n5.ext (fun _ _ e => e)
    refine app (news := bcells [b8 (m % 128)]) U_sl rfl rfl o5 (Src.slice rfl (by rw [show bcells [b8 (m % 128)] = [.int .u8 (m % 128)] by simp [bcells, eb]]; exact row_blk n5.at_)) rfl (bcells_one _) (by unfold maxLen; omega) (by omega) nofun rfl (fun v6 h6 o6 m6 f6 => ?_)
    have e1 : bcells xs ++ bcells [b8 (m % 128)] = bcells (compact n) := by
      rw [← hcg]
      have : cg f m = [b8 (m % 128)] := by cases f with
        | zero => rfl
        | succ g => rw [cg, if_pos c3]
      simp [bcells, this]
    rw [e1] at o6
    refine cvo rfl o6 rfl (asg rfl rfl ?_)
    refine o_nil ?_; refine x_seq ?_; refine c_ret ?_; refine ret1 (.inr rfl) rfl rfl ?_
    exact ⟨rfl, ⟨Nat.le_trans x1.size (Nat.le_trans n5.ext.size m6.size), fun k hk _ => (m6.same k (by have := x1.size; have := n5.size; omega) (fun e => by have := hk1 k e; omega)).trans ((n5.ext.same k (by have := x1.size; omega) (fun e => e)).trans (x1.same k hk (fun e => e)))⟩⟩

/-- does a number fit 32 bits? -/
def fit32 (n : Int) : Prop := -2147483648 ≤ n ∧ n < 2147483648
instance (n : Int) : Decidable (fit32 n) := by unfold fit32; exact inferInstance
theorem Num_fn {h : Heap} {p : Nat} {vb : Value} {all : List UInt8} {sp : Bool} (w : W h p vb all sp) (n : Int) (hn : -9223372036854775808 ≤ n ∧ n ≤ 9223372036854775807) :
    Does Tryz.prog 38 [ptr p 0, i64 n] h (fun v h' => v = .tuple #[] ∧ ∃ vb', W h' p vb' (if fit32 n then all ++ compact n else all) (if fit32 n then sp else true) ∧ WS h p vb h' vb') := by
  refine fn_enter (N := 13) Tryz.func38 (by kernel_rfl) rfl rfl rfl (fun w0 => ?_)
  refine c_seq ?_; refine c_seq ?_; refine c_reg ?_; refine mv rfl rfl (cl (vs := [i64 n, i64 32]) rfl (fits_fn n 32 (by omega) h) rfl (fun v1 h1 r1 => ?_))
  obtain ⟨rfl, rfl⟩ := r1
  have e6 : (2 : Int) ^ (32 - 1 : Int).toNat = 2147483648 := by decide
  rw [e6]
  refine nt rfl rfl ?_; refine o_nil ?_; refine x_seq ?_; refine c_cond rfl (fun c2 => ?_) (fun c2 => ?_)
  · refine c_seq ?_
    refine c_reg ?_; refine mv rfl rfl (cl (vs := [ptr p 0]) rfl (spoil_fn w) rfl (fun v3 h3 r3 => ?_))
    obtain ⟨rfl, w3, s3⟩ := r3
    refine o_nil ?_; refine x_seq ?_; refine c_ret ?_; refine x_seq_ret ?_; refine ret0 (.inr rfl) rfl ?_
    have c4 : ¬ fit32 n := c2
    rw [if_neg c4, if_neg c4]
    exact ⟨rfl, vb, w3, s3⟩
  · refine c_skip ?_
    have c3 : fit32 n := Classical.not_not.1 c2
    refine x_seq ?_; refine c_reg ?_; refine mv rfl rfl (mv rfl rfl (cl (vs := [i64 n]) rfl (compact_fn n hn h1) rfl (fun v4 h4 r4 => ?_)))
    obtain ⟨rfl, x4⟩ := r4
    refine cl (vs := [ptr p 0, str (compact n)]) rfl (put_fn (w.ext x4) _ (by have := cg_len 10 n; unfold compact; omega)) rfl (fun v5 h5 r5 => ?_)
    obtain ⟨rfl, vb', w5, s5⟩ := r5
    refine o_nil ?_; refine ret0 (.inl rfl) rfl ?_
    rw [if_pos c3, if_pos c3]
    exact ⟨rfl, vb', w5, (WS.ext x4).trans s5⟩
end
end Go.Proofs.YtgnkfegkdjfnjaaGreat.R
