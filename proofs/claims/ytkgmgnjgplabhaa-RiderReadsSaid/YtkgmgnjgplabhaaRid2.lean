/- Walks of the rider's Writer: put, spoil, Byte, Num, Word, Text, Bytes, Write. No condition but what each theorem says. -/
import Derived.Test.YtkgmgnjgplabhaaRid1
namespace Go.Proofs.Ytkgmgnjgplabhaa
open Go Go.Eng

/-- a Writer lies at block p; vb: its slice; all: what was put into it; sp: is it spoilt? -/
structure W (h : Heap) (p : Nat) (vb : Value) (all : List UInt8) (sp : Bool) : Prop where
  blk : h[p]? = some (.cells #[vb, .bool sp, .bool (decide (131072 < all.length))] 57 (0, 0))
  own : ∃ xs, Owns h 5 1 vb xs.length (bcells xs) ∧ (all.length ≤ 131072 → xs = all)
  ne : ¬ ownB vb p

/-- what a Writer's call lets go: its own blocks -/
structure WS (h : Heap) (p : Nat) (vb : Value) (h' : Heap) (vb' : Value) : Prop where
  mod : Mod (fun k => k = p ∨ ownB vb k) h h'
  new : ∀ k, ownB vb' k → ownB vb k ∨ h.size ≤ k
theorem WS.refl (h : Heap) (p : Nat) (vb : Value) : WS h p vb h vb := ⟨Mod.refl _ _, fun _ hk => .inl hk⟩
theorem WS.trans {h h1 h2 : Heap} {p : Nat} {vb v1 v2 : Value} (a : WS h p vb h1 v1) (b : WS h1 p v1 h2 v2) : WS h p vb h2 v2 :=
  ⟨⟨Nat.le_trans a.mod.size b.mod.size, fun k hk hn => (b.mod.same k (Nat.lt_of_lt_of_le hk a.mod.size) (fun e => e.elim (fun e => hn (.inl e)) (fun e => (a.new k e).elim (fun e => hn (.inr e)) (fun e => by omega)))).trans (a.mod.same k hk hn)⟩,
   fun k hk => (b.new k hk).elim (a.new k) (fun e => .inr (Nat.le_trans a.mod.size e))⟩
theorem WS.ext {h h1 : Heap} {p : Nat} {vb : Value} (x : Ext h h1) : WS h p vb h1 vb := ⟨x.mod _, fun _ hk => .inl hk⟩
theorem W.mod {S : Nat → Prop} {h h' : Heap} {p : Nat} {vb : Value} {all : List UInt8} {sp : Bool} (w : W h p vb all sp) (x : Mod S h h') (hp : ¬ S p) (hv : ∀ k, ownB vb k → ¬ S k) : W h' p vb all sp :=
  ⟨x.get w.blk hp, w.own.imp fun _ ⟨a, b⟩ => ⟨a.mod x hv, b⟩, w.ne⟩
theorem W.ext {h h' : Heap} {p : Nat} {vb : Value} {all : List UInt8} {sp : Bool} (w : W h p vb all sp) (x : Ext h h') : W h' p vb all sp := w.mod x (fun e => e) (fun _ _ e => e)

theorem Write_fn (h : Heap) : Does Try.prog 8 [] h (fun v h' => v = ptr h.size 0 ∧ W h' h.size (.slice none 0 0) [] false ∧ Ext h h') := by
  refine fn_enter (N := 3) Try.func8 (by kernel_rfl) rfl rfl rfl (fun w0 => ?_)
  refine c_seq ?_; refine c_reg ?_; refine asg rfl rfl ?_; refine o_nil ?_; refine x_seq ?_; refine c_seq ?_; refine c_reg ?_
  refine bld (vs := []) (v := .agg #[.slice none 0 0, .bool false, .bool false]) rfl (fun _ => by kernel_rfl) rfl (bx rfl nofun rfl (fun h1 n1 => ?_))
  refine asg rfl rfl ?_; refine o_nil ?_; refine x_seq ?_; refine c_ret ?_; refine ret1 (.inr rfl) rfl rfl ?_
  exact ⟨rfl, ⟨n1.at_, ⟨[], Owns.nil _ _ _, fun _ => rfl⟩, by simp [ownB, Value.ownBlock]⟩, n1.ext⟩

theorem put_fn {h : Heap} {p : Nat} {vb : Value} {all : List UInt8} {sp : Bool} (w : W h p vb all sp) (s : List UInt8) (hs : s.length ≤ 1073741824) :
    Does Try.prog 29 [ptr p 0, str s] h (fun v h' => v = .tuple #[] ∧ ∃ vb', W h' p vb' (all ++ s) sp ∧ WS h p vb h' vb') := by
  have hb := w.blk
  refine fn_enter (N := 30) Try.func29 (by kernel_rfl) rfl rfl rfl (fun w0 => ?_)
  refine c_seq ?_; refine c_seq ?_; refine c_reg ?_; refine mv rfl rfl (eqpn rfl rfl rfl (mv rfl rfl ?_))
  refine cf 6 rfl (by simp) ?_
  refine gd rfl rfl (mv rfl rfl (gd rfl rfl (nck rfl rfl (gd rfl rfl (fa rfl rfl (gd rfl rfl (ld rfl (cell hb rfl) rfl (pkf rfl rfl rfl ?_))))))))
  refine o_nil ?_; refine x_seq ?_; refine c_cond rfl (fun c2 => ?_) (fun c2 => ?_)
  · refine c_ret ?_
    refine x_seq_ret ?_; refine ret0 (.inr rfl) rfl ?_
    refine ⟨rfl, vb, ⟨?_, ?_, w.ne⟩, WS.refl _ _ _⟩
    · rw [hb]; simp [c2]; omega
    · obtain ⟨xs, o, -⟩ := w.own; exact ⟨xs, o, fun e => by simp at e; omega⟩
  · refine c_skip ?_
    obtain ⟨xs, o, hx⟩ := w.own
    obtain rfl := hx (by omega)
    refine x_seq ?_; refine c_seq ?_; refine c_reg ?_
    refine mv rfl rfl (mv rfl rfl (nck rfl rfl (fa rfl rfl (ld rfl (cell hb rfl) rfl (mv rfl rfl (app U_st rfl rfl o (Src.str s) (by simp [bcells]) (bcells_one s) (by unfold maxLen; omega) (by omega) nofun rfl (fun v3 h3 o3 m3 f3 => ?_)))))))
    have hb3 := m3.get hb w.ne
    obtain ⟨a3, k3, rfl⟩ := o3.form
    refine nck rfl rfl (fa rfl rfl (st rfl rfl o3.one hb3 rfl nofun (fun h4 u4 => ?_)))
    have hb4 := u4.at_
    refine o_nil ?_; refine x_seq ?_; refine c_reg ?_
    refine mv rfl rfl (mv rfl rfl (nck rfl rfl (fa rfl rfl (ld rfl (cell hb4 rfl) rfl (lnl rfl rfl (gti rfl rfl rfl (nck rfl rfl (fa rfl rfl (st rfl rfl rfl hb4 rfl nofun (fun h5 u5 => ?_))))))))))
    have hb5 := u5.at_
    refine o_nil ?_; refine ret0 (.inl rfl) rfl ?_
    have hne : ¬ ownB (.slice a3 (xs.length + s.length) k3) p := fun e => (f3 p e).elim w.ne (fun e => by have := lt_of_get hb; omega)
    refine ⟨rfl, _, ⟨?_, ⟨xs ++ s, ?_, fun _ => rfl⟩, hne⟩, ⟨⟨by have := m3.size; rw [u5.size, u4.size]; exact this, fun k hk hn => ?_⟩, f3⟩⟩
    · rw [hb5]; simp; omega
    · have e : bcells xs ++ bcells s = bcells (xs ++ s) := by simp [bcells]
      rw [e] at o3
      rw [List.length_append]
      exact (o3.mod u4.mod (fun k hk e => hne (e ▸ hk))).mod u5.mod (fun k hk e => hne (e ▸ hk))
    · have hp : k ≠ p := fun e => hn (.inl e)
      have := m3.size
      rw [u5.mod.same k (by rw [u4.size]; omega) hp, u4.mod.same k (by omega) hp]
      exact m3.same k hk (fun e => hn (.inr e))
end Go.Proofs.Ytkgmgnjgplabhaa
