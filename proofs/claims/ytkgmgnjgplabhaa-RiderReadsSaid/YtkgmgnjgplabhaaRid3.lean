/- Walks of the rider's Writer: spoil, Byte, Word, Text, Bytes, a compact number's groups, Num. No condition but what each theorem says. -/
import Derived.Test.YtkgmgnjgplabhaaRid2
import Derived.Lib.Bytealg
namespace Go.Proofs.Ytkgmgnjgplabhaa
open Go Go.Eng

theorem spoil_fn {h : Heap} {p : Nat} {vb : Value} {all : List UInt8} {sp : Bool} (w : W h p vb all sp) :
    Does Try.prog 28 [ptr p 0] h (fun v h' => v = .tuple #[] ∧ W h' p vb all true ∧ WS h p vb h' vb) := by
  have hb := w.blk
  refine fn_enter (N := 7) Try.func28 (by kernel_rfl) rfl rfl rfl (fun w0 => ?_)
  refine c_seq ?_; refine c_reg ?_; refine mv rfl rfl (nepn rfl rfl rfl ?_)
  refine o_nil ?_; refine x_seq ?_; refine c_t rfl (by simp) ?_
  refine c_reg ?_
  refine mv rfl rfl (nck rfl rfl (fa rfl rfl (st rfl rfl rfl hb rfl nofun (fun h2 u2 => ?_))))
  refine o_nil ?_; refine ret0 (.inl rfl) rfl ?_
  exact ⟨rfl, ⟨u2.at_, w.own.imp fun _ ⟨a, b⟩ => ⟨a.mod u2.mod (fun k hk e => w.ne (e ▸ hk)), b⟩, w.ne⟩, u2.mod.mono (fun k _ e => .inl e), fun k hk => .inl hk⟩

theorem Byte_fn {h : Heap} {p : Nat} {vb : Value} {all : List UInt8} {sp : Bool} (w : W h p vb all sp) (x : Int) :
    Does Try.prog 24 [ptr p 0, i64 x] h (fun v h' => v = .tuple #[] ∧ ∃ vb', W h' p vb' (all ++ [b8 x]) sp ∧ WS h p vb h' vb') := by
  refine fn_enter (N := 10) Try.func24 (by kernel_rfl) rfl rfl rfl (fun w0 => ?_)
  refine c_reg ?_
  refine mv rfl rfl (mv rfl rfl (cvi rfl rfl (bsl (vs := [(0, .int .u8 (IntKind.u8.wrap x))]) (cs := #[.int .u8 (IntKind.u8.wrap x)]) (E := 5) rfl (fun _ => by kernel_rfl) nofun rfl (fun h1 n1 => ?_))))
  have o1 : Owns h1 5 1 (.slice (some ⟨h.size, 0, none⟩) 1 1) 1 (bcells [b8 x]) := by
    have := n1.owns (size := 1) (n := 1) rfl (by decide)
    rw [b8_cell] at this; exact this
  refine cvo rfl o1 rfl (cl (vs := [ptr p 0, str [b8 x]]) rfl (put_fn (w.ext n1.ext) _ (by simp)) rfl (fun v2 h2 r2 => ?_))
  obtain ⟨rfl, vb', w2, s2⟩ := r2
  refine o_nil ?_; refine ret0 (.inl rfl) rfl ?_
  exact ⟨rfl, vb', w2, (WS.ext n1.ext).trans s2⟩

/-- a word's bytes -/
def wordb (x : Int) : List UInt8 := [b8 x, b8 (x / 256), b8 (x / 65536), b8 (x / 16777216)]
def wordc (x : Int) (i : Nat) : List Value := [.int .u8 (if 0 < i then x % 256 else 0), .int .u8 (if 1 < i then x / 256 % 256 else 0), .int .u8 (if 2 < i then x / 65536 % 256 else 0), .int .u8 (if 3 < i then x / 16777216 % 256 else 0)]

theorem Word_fn {h : Heap} {p : Nat} {vb : Value} {all : List UInt8} {sp : Bool} (w : W h p vb all sp) (x : Int) :
    Does Try.prog 25 [ptr p 0, .int .u32 x] h (fun v h' => v = .tuple #[] ∧ ∃ vb', W h' p vb' (all ++ wordb x) sp ∧ WS h p vb h' vb') := by
  refine fn_enter (N := 21) Try.func25 (by kernel_rfl) rfl rfl rfl (fun w0 => ?_)
  refine c_seq ?_; refine c_reg ?_; refine alc nofun rfl (fun h1 n1 => ?_)
  refine o_nil ?_; refine x_seq ?_; refine c_seq ?_; refine c_seq ?_; refine c_reg ?_; refine mv rfl rfl ?_; refine o_nil ?_; refine x_seq ?_
  refine c_blk ?_
  refine c_loop (α := Nat × Heap) (fun y => [(0, ptr p 0), (1, .int .u32 x), (4, ptr h.size 0), (6, i64 y.1)]) (fun y => y.2)
    (fun y => y.1 ≤ 4 ∧ Ext h y.2 ∧ y.2[h.size]? = some (.cells (wordc x y.1).toArray 65 (0, 0))) (fun y => 4 - y.1) (0, h1) ⟨by omega, n1.ext, n1.at_⟩ ⟨rfl, rfl, rfl, rfl, trivial⟩ rfl (fun y hy => ?_)
  obtain ⟨i, h2⟩ := y
  obtain ⟨hi, x2, b2⟩ := hy
  simp only at hi x2 b2
  refine c_seq ?_; refine c_reg ?_; refine lti rfl rfl rfl ?_; refine o_nil ?_; refine x_seq ?_; refine c_seq ?_
  refine c_cond rfl (fun c2 => ?_) (fun c2 => ?_)
  · refine c_skip ?_
    refine x_seq ?_; refine c_seq ?_; refine c_blk ?_; refine c_seq ?_; refine c_reg ?_; refine mv rfl rfl (asg rfl rfl ?_)
    refine o_nil ?_; refine x_seq ?_; refine c_reg ?_
    refine mv rfl rfl (mv rfl rfl (mv rfl rfl (mul rfl rfl (by omega) rfl (shr rfl rfl (by omega) rfl (cvi rfl rfl (ixa rfl rfl (by omega) rfl (st rfl rfl rfl b2 (by simp [wordc]; omega) nofun (fun h3 u3 => ?_))))))))
    have b3 := u3.at_
    refine o_nil ?_; refine x_blk ?_; refine x_seq ?_; refine c_reg ?_; refine add rfl rfl (by omega) rfl (mv rfl rfl ?_)
    refine o_nil ?_
    refine x_loop (i + 1, h3) ⟨by simp only; omega, ⟨by rw [u3.size]; exact x2.size, fun k hk _ => (u3.mod.same k (Nat.lt_of_lt_of_le hk x2.size) (by omega)).trans (x2.same k hk (fun e => e))⟩, ?_⟩ (by simp only; omega) ⟨rfl, rfl, rfl, rfl, trivial⟩ rfl
    rw [b3]
    have hi4 : i = 0 ∨ i = 1 ∨ i = 2 ∨ i = 3 := by omega
    rcases hi4 with rfl | rfl | rfl | rfl <;> simp [wordc, IntKind.wrap_u8, IntKind.bits, Int.fdiv_eq_ediv]
  · refine c_exit ?_
    have : i = 4 := by omega
    subst this
    refine x_seq_exit ?_; refine x_loop_exit ?_; refine x_blk_hit ?_; refine x_seq ?_; refine c_reg ?_
    have ob := row_blk b2
    have e2 : (wordc x 4) = bcells (wordb x) := by simp [wordc, bcells, wordb, b8_nat]
    simp only [e2] at ob
    refine mv rfl rfl (sla_array rfl rfl (cvs (l := wordb x) rfl (fun h' e _ => .inr ⟨h.size, 0, 4, rfl, by rw [e rfl]; exact ob⟩) rfl (cl (vs := [ptr p 0, str (wordb x)]) rfl (put_fn (w.ext x2) _ (by simp [wordb])) rfl (fun v4 h4 r4 => ?_))))
    obtain ⟨rfl, vb', w4, s4⟩ := r4
    refine o_nil ?_; refine ret0 (.inl rfl) rfl ?_
    exact ⟨rfl, vb', w4, (WS.ext x2).trans s4⟩
end Go.Proofs.Ytkgmgnjgplabhaa
