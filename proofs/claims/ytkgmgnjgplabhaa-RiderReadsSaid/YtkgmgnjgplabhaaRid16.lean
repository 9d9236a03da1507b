/- Walks of the reference's Writer. No condition but what each theorem says. -/
import Derived.Test.YtkgmgnjgplabhaaRid15
namespace Go.Proofs.Ytkgmgnjgplabhaa
open Go Go.Eng

/-- the reference's Writer lies at block q -/
structure Q (h : Heap) (q : Nat) (vb : Value) (all : List UInt8) (sp : Bool) : Prop where
  blk : h[q]? = some (.cells #[vb, .bool sp] 37 (0, 0))
  own : Owns h 5 1 vb all.length (bcells all)
  ne : ¬ ownB vb q
theorem Q.mod {S : Nat → Prop} {h h' : Heap} {q : Nat} {vb : Value} {all : List UInt8} {sp : Bool} (w : Q h q vb all sp) (x : Mod S h h') (hp : ¬ S q) (hv : ∀ k, ownB vb k → ¬ S k) : Q h' q vb all sp :=
  ⟨x.get w.blk hp, w.own.mod x hv, w.ne⟩

/-- an append's end: the slice is laid back -/
theorem Q.laid {h h1 h2 h3 : Heap} {q : Nat} {vb v2 : Value} {all l : List UInt8} {sp : Bool} (w : Q h q vb all sp) (x1 : Ext h h1) (o2 : Owns h2 5 1 v2 (all.length + l.length) (bcells all ++ bcells l)) (m2 : Mod (ownB vb) h1 h2)
    (f2 : ∀ k, ownB v2 k → ownB vb k ∨ h1.size ≤ k) (u3 : Upd h2 q (.cells #[v2, .bool sp] 37 (0, 0)) h3) : Q h3 q v2 (all ++ l) sp ∧ WS h q vb h3 v2 := by
  have hq := lt_of_get w.blk
  have hs := x1.size
  have hne : ¬ ownB v2 q := fun e => (f2 q e).elim w.ne (fun e => by omega)
  have e : bcells all ++ bcells l = bcells (all ++ l) := by simp [bcells]
  rw [e, ← List.length_append] at o2
  refine ⟨⟨u3.at_, o2.mod u3.mod (fun k hk e => hne (e ▸ hk)), hne⟩, ⟨⟨by rw [u3.size]; exact Nat.le_trans hs m2.size, fun k hk hn => ?_⟩, fun k hk => (f2 k hk).imp id (fun e => Nat.le_trans hs e)⟩⟩
  rw [u3.mod.same k (by have := m2.size; omega) (fun e => hn (.inl e)), m2.same k (by omega) (fun e => hn (.inr e))]
  exact x1.same k hk (fun e => e)
theorem Q.spoilt {h h3 : Heap} {q : Nat} {vb : Value} {all : List UInt8} {sp : Bool} (w : Q h q vb all sp) (u3 : Upd h q (.cells #[vb, .bool true] 37 (0, 0)) h3) : Q h3 q vb all true ∧ WS h q vb h3 vb := by
  refine ⟨⟨u3.at_, w.own.mod u3.mod (fun k hk e => w.ne (e ▸ hk)), w.ne⟩, ⟨u3.mod.mono (fun k _ e => .inl e), fun k hk => .inl hk⟩⟩

theorem QByte_fn {h : Heap} {q : Nat} {vb : Value} {all : List UInt8} {sp : Bool} (w : Q h q vb all sp) (hl : all.length ≤ 100000000) (b : Int) :
    Does Try.prog 31 [ptr q 0, i64 b] h (fun v h' => v = .tuple #[] ∧ ∃ vb', Q h' q vb' (all ++ [b8 b]) sp ∧ WS h q vb h' vb') := by
  have hb := w.blk
  have ht := t256 b
  have hr : -256 < b.tmod 256 ∧ b.tmod 256 < 256 := by rw [tmod_lit]; split <;> omega
  refine fn_enter (N := 18) Try.func31 (by kernel_rfl) rfl rfl rfl (fun w0 => ?_)
  refine c_reg ?_
  refine mv rfl rfl (mv rfl rfl (nck rfl rfl (fa rfl rfl (ld rfl (cell hb rfl) rfl (mv rfl rfl (rem rfl rfl (by decide) rfl (add rfl rfl (by omega) rfl (rem rfl rfl (by decide) rfl ?_))))))))
  refine cvi rfl rfl (rv 13 rfl (vi (show IntKind.u8.wrap ((b.tmod 256 + 256).tmod 256) = ((b8 b).toNat : Int) from by rw [ht, b8_nat, IntKind.wrap_u8]; omega)) (bsl (vs := [(0, .int .u8 ((b8 b).toNat : Int))]) (cs := #[.int .u8 ((b8 b).toNat : Int)]) (E := 5) rfl (fun _ => by kernel_rfl) nofun rfl (fun h1 n1 => ?_)))
  have o1 := w.own.mod n1.ext (fun _ _ e => e)
  refine app (news := bcells [b8 b]) U_sl rfl rfl o1 (Src.slice rfl (row_blk n1.at_)) rfl (bcells_one _) (by unfold maxLen; omega) (by omega) nofun rfl (fun v2 h2 o2 m2 f2 => ?_)
  have hb2 := m2.get (n1.ext.get hb) w.ne
  refine nck rfl rfl (fa rfl rfl (st rfl rfl o2.one hb2 rfl nofun (fun h3 u3 => ?_)))
  refine o_nil ?_; refine ret0 (.inl rfl) rfl ?_
  exact ⟨rfl, v2, w.laid n1.ext o2 m2 f2 u3⟩

theorem WS.comp {h h1 h2 : Heap} {q : Nat} {vb v1 : Value} {R : Value → Prop} (a : WS h q vb h1 v1) (b : ∃ v2, R v2 ∧ WS h1 q v1 h2 v2) : ∃ v2, R v2 ∧ WS h q vb h2 v2 :=
  b.imp fun _ ⟨r, s⟩ => ⟨r, a.trans s⟩

set_option maxHeartbeats 800000 in
theorem QNum_fn {h : Heap} {q : Nat} {vb : Value} {all : List UInt8} {sp : Bool} (w : Q h q vb all sp) (hl : all.length ≤ 90000000) (n : Int) :
    Does Try.prog 32 [ptr q 0, i64 n] h (fun v h' => v = .tuple #[] ∧ ∃ vb', Q h' q vb' (if fit32 n then all ++ compact n else all) (if fit32 n then sp else true) ∧ WS h q vb h' vb') := by
  have hb := w.blk
  refine fn_enter (N := 35) Try.func32 (by kernel_rfl) rfl rfl rfl (fun w0 => ?_)
  refine c_seq ?_; refine c_seq ?_; refine c_reg ?_; refine mv rfl rfl (cl (vs := [i64 n, i64 32]) rfl (rfits_fn n h) rfl (fun v1 h1 r1 => ?_))
  obtain ⟨rfl, rfl⟩ := r1
  refine nt rfl rfl ?_; refine o_nil ?_; refine x_seq ?_; refine c_cond rfl (fun c2 => ?_) (fun c2 => ?_)
  · refine c_seq ?_
    refine c_reg ?_; refine mv rfl rfl (nck rfl rfl (fa rfl rfl (st rfl rfl rfl hb rfl nofun (fun h3 u3 => ?_))))
    refine o_nil ?_; refine x_seq ?_; refine c_ret ?_; refine x_seq_ret ?_; refine ret0 (.inr rfl) rfl ?_
    rw [if_neg c2, if_neg c2]
    exact ⟨rfl, vb, w.spoilt u3⟩
  · have hf : fit32 n := Classical.not_not.1 c2
    rw [if_pos hf, if_pos hf]
    have hf' := hf
    unfold fit32 at hf'
    refine c_skip ?_
    refine x_seq ?_; refine c_seq ?_; refine c_blk ?_
    refine c_loop (α := Nat × Int × List UInt8 × Value × Heap) (fun y => [(0, ptr q 0), (1, i64 y.2.1)]) (fun y => y.2.2.2.2)
      (fun y => (-4294967296 ≤ y.2.1 ∧ y.2.1 ≤ 4294967296) ∧ rng y.1 y.2.1 ∧ y.2.2.1 ++ cg y.1 y.2.1 = compact n ∧ y.2.2.1.length + y.1 = 10 ∧ Q y.2.2.2.2 q y.2.2.2.1 (all ++ y.2.2.1) sp ∧ WS h1 q vb y.2.2.2.2 y.2.2.2.1)
      (fun y => y.1) (10, n, [], vb, h1) ⟨by simp only; omega, by unfold rng; simp only; omega, rfl, rfl, by simpa using w, WS.refl _ _ _⟩ ⟨rfl, rfl, trivial⟩ rfl (fun y hy => ?_)
    obtain ⟨f, m, ys, v, h2⟩ := y
    obtain ⟨hm, hrng, hcg, hlen, w2, s2⟩ := hy
    simp only at hm hrng hcg hlen w2 s2
    have hl2 : (all ++ ys).length ≤ 90000010 := by simp; omega
    refine c_seq ?_
    refine c_cut (α := Unit) (fun _ => [(0, ptr q 0), (1, i64 m), (15, .bool (decide (¬ (-64 ≤ m ∧ m < 64))))]) (fun _ => h2) (fun _ => True) ?_ ?_
    · refine c_reg ?_; refine mv rfl rfl (lti rfl rfl rfl (mv rfl rfl ?_))
      refine cs 12 rfl (fun c4 => ?_) (fun c4 => ?_)
      · refine gs rfl rfl rfl rfl (gs rfl rfl rfl rfl (pkt rfl rfl rfl ?_))
        refine o_nil ?_
        exact x_cut () trivial ⟨rfl, rfl, by rw [decide_eq_true (show ¬ (-64 ≤ m ∧ m < 64) from fun e => absurd (show m < -64 from c4) (by omega))]; rfl, trivial⟩ rfl
      · have c5 : ¬ m < -64 := c4
        refine gd rfl rfl (mv rfl rfl (gd rfl rfl (gti rfl rfl rfl (pkf rfl rfl rfl ?_))))
        refine o_nil ?_
        refine x_cut () trivial ⟨rfl, rfl, ?_, trivial⟩ rfl
        have : (m > 63) ↔ ¬ (-64 ≤ m ∧ m < 64) := by omega
        exact congrArg some (congrArg Value.bool (decide_eq_decide.2 this))
    intro _ _
    have hr : -128 < m.tmod 128 ∧ m.tmod 128 < 128 := by rw [tmod_lit]; split <;> omega
    have ht := t128 m
    refine c_cond rfl (fun c6 => ?_) (fun c6 => ?_)
    · obtain ⟨f, rfl⟩ : ∃ g, f = g + 1 := by
        cases f with
        | zero => exact absurd (by unfold rng at hrng; omega) c6
        | succ g => exact ⟨g, rfl⟩
      rw [cg_big c6] at hcg
      refine c_skip ?_
      refine x_seq ?_; refine c_blk ?_; refine c_seq ?_; refine c_reg ?_
      refine mv rfl rfl (mv rfl rfl (rem rfl rfl (by decide) rfl (add rfl rfl (by omega) rfl (rem rfl rfl (by decide) rfl (rv 20 rfl (vi ht) (add rfl rfl (by omega) rfl (cl (vs := [ptr q 0, i64 (m % 128 + 128)]) rfl (QByte_fn w2 (by omega) _) rfl (fun v7 h7 r7 => ?_))))))))
      obtain ⟨rfl, v8, w8, s8⟩ := r7
      rw [List.append_assoc] at w8
      refine o_nil ?_; refine x_seq ?_; refine c_reg ?_
      refine mv rfl rfl (mv rfl rfl (rem rfl rfl (by decide) rfl (add rfl rfl (by omega) rfl (rem rfl rfl (by decide) rfl (rv 27 rfl (vi ht) (sub rfl rfl (by omega) rfl (quo rfl rfl (by decide) rfl ?_)))))))
      refine rv 29 rfl (vi (show IntKind.i64.wrap ((m - m % 128).tdiv 128) = m / 128 from ?_)) ?_
      · rw [Int.tdiv_eq_ediv_of_dvd (by omega), w64 (by omega)]; omega
      refine asg rfl rfl ?_; refine o_nil ?_; refine x_blk ?_
      exact x_loop (f, m / 128, ys ++ [b8 (m % 128 + 128)], v8, h7) ⟨by simp only; omega, (rng_succ f m).1 hrng, by simp only; rw [← hcg]; simp, by simp only [List.length_append, List.length_singleton]; omega, w8, s2.trans s8⟩ (by simp only; omega) ⟨rfl, rfl, trivial⟩ rfl
    · have c7 : -64 ≤ m ∧ m < 64 := Classical.not_not.1 c6
      rw [cg_small c7] at hcg
      refine c_exit ?_
      refine x_seq_exit ?_; refine x_loop_exit ?_; refine x_blk_hit ?_; refine x_seq ?_; refine c_reg ?_
      refine mv rfl rfl (mv rfl rfl (add rfl rfl (by omega) rfl (rem rfl rfl (by decide) rfl (rv 33 rfl (vi (show (m + 128).tmod 128 = m % 128 from by rw [tmod_lit]; split <;> omega)) (cl (vs := [ptr q 0, i64 (m % 128)]) rfl (QByte_fn w2 (by omega) _) rfl (fun v8 h8 r8 => ?_))))))
      obtain ⟨rfl, r8⟩ := r8
      rw [List.append_assoc, hcg] at r8
      refine o_nil ?_; refine ret0 (.inl rfl) rfl ?_
      exact ⟨rfl, s2.comp r8⟩

theorem QWord_fn {h : Heap} {q : Nat} {vb : Value} {all : List UInt8} {sp : Bool} (w : Q h q vb all sp) (hl : all.length ≤ 90000000) (x : Int) (hx : 0 ≤ x ∧ x < 4294967296) :
    Does Try.prog 33 [ptr q 0, .int .u32 x] h (fun v h' => v = .tuple #[] ∧ ∃ vb', Q h' q vb' (all ++ wordb x) sp ∧ WS h q vb h' vb') := by
  refine fn_enter (N := 16) Try.func33 (by kernel_rfl) rfl rfl rfl (fun w0 => ?_)
  refine c_seq ?_; refine c_reg ?_; refine asg rfl rfl ?_; refine o_nil ?_; refine x_seq ?_; refine c_blk ?_
  refine c_loop (α := Nat × Value × Heap) (fun y => [(0, ptr q 0), (1, .int .u32 x), (4, i64 (y.1 : Nat))]) (fun y => y.2.2) (fun y => y.1 ≤ 4 ∧ Q y.2.2 q y.2.1 (all ++ (wordb x).take y.1) sp ∧ WS h q vb y.2.2 y.2.1)
    (fun y => 4 - y.1) (0, vb, h) ⟨by simp, by simpa using w, WS.refl _ _ _⟩ ⟨rfl, rfl, rfl, trivial⟩ rfl (fun y hy => ?_)
  obtain ⟨i, v, h1⟩ := y
  obtain ⟨hi, w1, s1⟩ := hy
  simp only at hi w1 s1
  refine c_seq ?_; refine c_seq ?_; refine c_reg ?_; refine mv rfl rfl (lti rfl rfl rfl ?_)
  refine o_nil ?_; refine x_seq ?_; refine c_cond rfl (fun c1 => ?_) (fun c1 => ?_)
  · have hi4 : i < 4 := by simp only at c1; omega
    have hl2 : (all ++ (wordb x).take i).length ≤ 90000010 := by simp [wordb]; omega
    refine c_skip ?_
    refine x_seq ?_; refine c_seq ?_; refine c_blk ?_; refine c_reg ?_
    refine mv rfl rfl (mv rfl rfl (mv rfl rfl (mul rfl rfl (by omega) rfl (rv 12 rfl (vi (show (8 : Int) * (i : Int) = ((8 * i : Nat) : Int) from by omega)) (cl (vs := [.int .u32 x, i64 ((8 * i : Nat) : Int), i64 8]) rfl (Get_fn x hx (8 * i) (by omega) h1) rfl (fun v2 h2 r2 => ?_))))))
    obtain ⟨rfl, rfl⟩ := r2
    have hm := Int.emod_nonneg (x / 2 ^ (8 * i)) (show (256 : Int) ≠ 0 by decide)
    have hm2 := Int.emod_lt_of_pos (x / 2 ^ (8 * i)) (show (0 : Int) < 256 by decide)
    refine cvi rfl rfl (rv 14 rfl (vi (w64 (by omega))) (cl (vs := [ptr q 0, i64 (x / 2 ^ (8 * i) % 256)]) rfl (QByte_fn w1 (by omega) _) rfl (fun v3 h3 r3 => ?_)))
    obtain ⟨rfl, v4, w4, s4⟩ := r3
    refine o_nil ?_; refine x_blk ?_; refine x_seq ?_; refine c_reg ?_; refine mv rfl rfl (add rfl rfl (by omega) rfl (asg rfl rfl ?_))
    refine o_nil ?_
    have e : all ++ (wordb x).take i ++ [b8 (x / 2 ^ (8 * i) % 256)] = all ++ (wordb x).take (i + 1) := by
      rw [List.append_assoc]; congr 1
      have hc : ∀ y : Int, b8 (y % 256) = b8 y := fun y => b8_congr (by omega)
      rw [hc]
      match i, hi4 with
      | 0, _ => simp [wordb]
      | 1, _ => simp [wordb]
      | 2, _ => simp [wordb]
      | 3, _ => simp [wordb]
    rw [e] at w4
    exact x_loop (i + 1, v4, h3) ⟨hi4, w4, s1.trans s4⟩ (by simp only; omega) ⟨rfl, rfl, rfl, trivial⟩ rfl
  · have hi4 : i = 4 := by simp only at c1; omega
    subst hi4
    refine c_exit ?_
    refine x_seq_exit ?_; refine x_loop_exit ?_; refine x_blk_hit ?_; refine ret0 (.inl rfl) rfl ?_
    exact ⟨rfl, v, w1, s1⟩

theorem QText_fn {h : Heap} {q : Nat} {vb : Value} {all : List UInt8} {sp : Bool} (w : Q h q vb all sp) (hl : all.length ≤ 90000000) (s : List UInt8) :
    Does Try.prog 34 [ptr q 0, str s] h (fun v h' => v = .tuple #[] ∧ ∃ vb', Q h' q vb' (if textOk s then all ++ (s ++ [0]) else all) (if textOk s then sp else true) ∧ WS h q vb h' vb') := by
  have hb := w.blk
  refine fn_enter (N := 35) Try.func34 (by kernel_rfl) rfl rfl rfl (fun w0 => ?_)
  refine c_seq ?_; refine c_seq ?_; refine c_reg ?_; refine mv rfl rfl (lns rfl rfl (gti rfl rfl rfl ?_))
  refine o_nil ?_; refine x_seq ?_; refine c_cond rfl (fun c1 => ?_) (fun c1 => ?_)
  · refine c_seq ?_
    refine c_reg ?_; refine mv rfl rfl (nck rfl rfl (fa rfl rfl (st rfl rfl rfl hb rfl nofun (fun h2 u2 => ?_))))
    refine o_nil ?_; refine x_seq ?_; refine c_ret ?_; refine x_seq_ret ?_; refine ret0 (.inr rfl) rfl ?_
    have : ¬ textOk s := fun e => by have := e.1; omega
    rw [if_neg this, if_neg this]
    exact ⟨rfl, vb, w.spoilt u2⟩
  · refine c_skip ?_
    refine x_seq ?_; refine c_seq ?_; refine c_seq ?_; refine c_reg ?_; refine asg rfl rfl ?_; refine o_nil ?_; refine x_seq ?_; refine c_blk ?_
    refine c_loop (α := Nat) (fun i => [(0, ptr q 0), (1, str s), (4, i64 (i : Nat))]) (fun _ => h) (fun i => i ≤ s.length ∧ 0 ∉ s.take i) (fun i => s.length - i) 0 ⟨by omega, by simp⟩ ⟨rfl, rfl, rfl, trivial⟩ rfl (fun i hi => ?_)
    obtain ⟨hi, hno⟩ := hi
    refine c_seq ?_; refine c_seq ?_; refine c_reg ?_; refine mv rfl rfl (mv rfl rfl (lns rfl rfl (lti rfl rfl rfl ?_)))
    refine o_nil ?_; refine x_seq ?_; refine c_cond rfl (fun c3 => ?_) (fun c3 => ?_)
    · have hil : i < s.length := by omega
      have hgi : s[i]? = some s[i] := List.getElem?_eq_getElem hil
      refine c_skip ?_
      refine x_seq ?_; refine c_seq ?_; refine c_blk ?_; refine c_seq ?_; refine c_reg ?_
      refine mv rfl rfl (mv rfl rfl (idx rfl rfl (by omega) (by rw [Int.toNat_natCast]; exact hgi) rfl (eqi rfl rfl rfl ?_)))
      refine o_nil ?_; refine x_seq ?_; refine c_cond rfl (fun c4 => ?_) (fun c4 => ?_)
      · have h0 : s[i] = 0 := by apply UInt8.toNat_inj.1; have : ((s[i].toNat : Int)) = 0 := c4; simp; omega
        have : ¬ textOk s := fun e => e.2 (h0 ▸ List.getElem_mem hil)
        refine c_seq ?_
        refine c_reg ?_; refine mv rfl rfl (nck rfl rfl (fa rfl rfl (st rfl rfl rfl hb rfl nofun (fun h5 u5 => ?_))))
        refine o_nil ?_; refine x_seq ?_; refine c_ret ?_; refine x_blk_ret ?_; refine x_seq_ret ?_; refine x_loop_ret ?_; refine x_blk_ret ?_
        refine x_seq_ret ?_; refine ret0 (.inr rfl) rfl ?_
        rw [if_neg this, if_neg this]
        exact ⟨rfl, vb, w.spoilt u5⟩
      · have h0 : s[i] ≠ 0 := fun e => c4 (by rw [e]; rfl)
        refine c_skip ?_
        refine x_blk ?_; refine x_seq ?_; refine c_reg ?_; refine mv rfl rfl (add rfl rfl (by omega) rfl (asg rfl rfl ?_))
        refine o_nil ?_
        refine x_loop (i + 1) ⟨hil, ?_⟩ (by omega) ⟨rfl, rfl, rfl, trivial⟩ rfl
        rw [List.take_add_one, hgi]
        simp only [Option.toList_some, List.mem_append, List.mem_singleton, not_or]
        exact ⟨hno, fun e => h0 e.symm⟩
    · have hil : i = s.length := by omega
      subst hil
      rw [List.take_length] at hno
      have hok : textOk s := ⟨by omega, hno⟩
      have hs64 := hok.1
      rw [if_pos hok, if_pos hok]
      refine c_exit ?_
      refine x_seq_exit ?_; refine x_loop_exit ?_; refine x_blk_hit ?_; refine x_seq ?_; refine c_reg ?_
      refine mv rfl rfl (mv rfl rfl (nck rfl rfl (fa rfl rfl (ld rfl (cell hb rfl) rfl (mv rfl rfl (app U_st rfl rfl w.own (Src.str s) (by simp [bcells]) (bcells_one s) (by unfold maxLen; omega) (by omega) nofun rfl (fun v6 h6 o6 m6 f6 => ?_)))))))
      refine bsl (vs := [(0, .int .u8 0)]) (cs := #[.int .u8 0]) (E := 5) rfl (fun _ => by kernel_rfl) nofun rfl (fun h7 n7 => ?_)
      have e6 : bcells all ++ bcells s = bcells (all ++ s) := by simp [bcells]
      rw [e6, ← List.length_append] at o6
      have hl6 : (all ++ s).length ≤ 90000064 := by simp; omega
      have o7 := o6.mod n7.ext (fun _ _ e => e)
      refine app (news := bcells [0]) U_sl rfl rfl o7 (Src.slice rfl (row_blk n7.at_)) rfl (bcells_one _) (by unfold maxLen; omega) (by omega) nofun rfl (fun v8 h8 o8 m8 f8 => ?_)
      have hq := lt_of_get hb
      have hne6 : ¬ ownB v6 q := fun e => (f6 q e).elim w.ne (fun e => by omega)
      have hb8 := m8.get (n7.ext.get (m6.get hb w.ne)) hne6
      refine nck rfl rfl (fa rfl rfl (st rfl rfl o8.one hb8 rfl nofun (fun h9 u9 => ?_)))
      refine o_nil ?_; refine ret0 (.inl rfl) rfl ?_
      have hs6 := m6.size
      have hs7 := n7.ext.size
      have mm : Mod (ownB vb) h h8 := ⟨Nat.le_trans hs6 (Nat.le_trans hs7 m8.size), fun k hk hn =>
        (m8.same k (by omega) (fun e => (f6 k e).elim hn (fun e => by omega))).trans ((n7.ext.same k (by omega) (fun e => e)).trans (m6.same k hk hn))⟩
      have ff : ∀ k, ownB v8 k → ownB vb k ∨ h.size ≤ k := fun k hk => (f8 k hk).elim (f6 k) (fun e => .inr (by omega))
      have o9 : Owns h8 5 1 v8 (all.length + (s ++ [0]).length) (bcells all ++ bcells (s ++ [0])) := by
        have e1 : (all ++ s).length + 1 = all.length + (s ++ [0]).length := by simp; omega
        have e2 : bcells (all ++ s) ++ bcells [0] = bcells all ++ bcells (s ++ [0]) := by simp [bcells]
        rw [← e1, ← e2]; exact o8
      exact ⟨rfl, v8, w.laid (Mod.refl _ h) o9 mm ff u9⟩

theorem QBytes_fn {h : Heap} {q : Nat} {vb : Value} {all : List UInt8} {sp : Bool} (w : Q h q vb all sp) :
    Does Try.prog 17 [ptr q 0] h (fun v h' => h' = h ∧ v = .tuple #[str (if sp then [] else if 131072 < all.length then [] else all), i64 (if sp then 1 else if 131072 < all.length then 2 else 0)]) := by
  have hb := w.blk
  refine fn_enter (N := 19) Try.func17 (by kernel_rfl) rfl rfl rfl (fun w0 => ?_)
  refine c_seq ?_; refine c_reg ?_; refine asg rfl rfl (asg rfl rfl ?_)
  refine o_nil ?_; refine x_seq ?_; refine c_seq ?_; refine c_seq ?_; refine c_reg ?_
  refine mv rfl rfl (nck rfl rfl (fa rfl rfl (ld rfl (cell hb rfl) rfl ?_)))
  refine o_nil ?_; refine x_seq ?_; refine c_cond rfl (fun c1 => ?_) (fun c1 => ?_)
  · refine c_seq ?_
    refine c_reg ?_; refine asg rfl rfl (asg rfl rfl ?_)
    refine o_nil ?_; refine x_seq ?_; refine c_ret ?_; refine x_seq_ret ?_; refine ret2 (.inr rfl) rfl rfl rfl ?_
    exact ⟨rfl, by rw [if_pos c1, if_pos c1]⟩
  · rw [if_neg c1, if_neg c1]
    obtain ⟨a, c, hv⟩ := w.own.form
    refine c_skip ?_
    refine x_seq ?_; refine c_seq ?_; refine c_seq ?_; refine c_reg ?_
    refine mv rfl rfl (nck rfl rfl (fa rfl rfl (ld rfl (cell hb rfl) rfl (lnl (n := all.length) (c := c) (a0 := a) (congrArg some hv) rfl (gti rfl rfl rfl ?_)))))
    refine o_nil ?_; refine x_seq ?_; refine c_cond rfl (fun c2 => ?_) (fun c2 => ?_)
    · refine c_seq ?_
      refine c_reg ?_; refine asg rfl rfl (asg rfl rfl ?_)
      refine o_nil ?_; refine x_seq ?_; refine c_ret ?_; refine x_seq_ret ?_; refine ret2 (.inr rfl) rfl rfl rfl ?_
      exact ⟨rfl, by rw [if_pos (by omega), if_pos (by omega)]⟩
    · rw [if_neg (by omega), if_neg (by omega)]
      refine c_skip ?_
      refine x_seq ?_; refine c_seq ?_; refine c_reg ?_
      refine mv rfl rfl (nck rfl rfl (fa rfl rfl (ld rfl (cell hb rfl) rfl (cvo rfl w.own rfl (asg rfl rfl (asg rfl rfl ?_))))))
      refine o_nil ?_; refine x_seq ?_; refine c_ret ?_; refine ret2 (.inr rfl) rfl rfl rfl ?_
      exact ⟨rfl, rfl⟩
end Go.Proofs.Ytkgmgnjgplabhaa
