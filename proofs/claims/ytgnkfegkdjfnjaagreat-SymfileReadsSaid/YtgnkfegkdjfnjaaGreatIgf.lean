/- The walks of the reference's constants. The walks of the reference's names of types, and of its objects. The walks of the reference's places, elements, bases. The walk of the reference's record. No condition but what each theorem says. -/
import Derived.Test.YtgnkfegkdjfnjaaGreatIge
namespace Go.Proofs.YtgnkfegkdjfnjaaGreat
/-! The walks of the reference's constants. No condition but what each theorem says. -/
section
open Go Go.Eng

theorem wrapU64 (n : Int) : IntKind.u64.wrap n = n % 18446744073709551616 := by simp [IntKind.wrap, IntKind.bits, IntKind.signed]
theorem pow_fn {x : Int} (n : Nat) (hx : x = (n : Int)) (hn : n ≤ 62) (h : Heap) : Does Tryz.prog 77 [.int .u32 x] h (fun v h' => h' = h ∧ v = .int .u64 ((2 ^ n : Nat) : Int)) := by
  subst hx
  have hw : ∀ i, i < n → IntKind.u64.wrap (((2 ^ i : Nat) : Int) * 2) = ((2 ^ (i + 1) : Nat) : Int) := fun i hi => by
    have h1 : 2 ^ i ≤ 2 ^ 62 := Nat.pow_le_pow_right (by omega) (by omega)
    rw [wrapU64, Nat.pow_succ]; omega
  have hw2 : ∀ i, i < n → IntKind.u32.wrap ((i : Int) + 1) = ((i + 1 : Nat) : Int) := fun i hi => by rw [IntKind.wrap_u32]; omega
  refine fn_enter (N := 13) Tryz.func77 (by kernel_rfl) rfl rfl rfl (fun w0 => ?_)
  refine c_seq ?_; refine c_reg ?_; refine asg rfl rfl ?_; refine o_nil ?_; refine x_seq ?_; refine c_seq ?_; refine c_reg ?_; refine asg rfl rfl ?_
  refine o_nil ?_; refine x_seq ?_
  refine c_seq ?_; refine c_seq ?_; refine c_reg ?_; refine asg rfl rfl ?_; refine o_nil ?_; refine x_seq ?_; refine c_blk ?_
  refine c_loop (α := Nat) (fun i => [(0, .int .u32 (n : Int)), (3, .int .u64 ((2 ^ i : Nat) : Int)), (4, .int .u32 ((i : Nat) : Int))]) (fun _ => h) (fun i => i ≤ n) (fun i => n - i) 0 (Nat.zero_le _) ⟨rfl, rfl, rfl, trivial⟩ rfl (fun i hi => ?_)
  refine c_seq ?_; refine c_seq ?_; refine c_reg ?_; refine mv rfl rfl (mv rfl rfl (lti rfl rfl rfl ?_))
  refine o_nil ?_; refine x_seq ?_; refine c_cond rfl (fun c1 => ?_) (fun c1 => ?_)
  · refine c_skip ?_; refine x_seq ?_
    refine c_seq ?_; refine c_blk ?_; refine c_reg ?_; refine mv rfl rfl (mulw rfl rfl rfl (asg rfl rfl ?_))
    refine o_nil ?_; refine x_blk ?_; refine x_seq ?_; refine c_reg ?_; refine mv rfl rfl (addw rfl rfl rfl (asg rfl rfl ?_))
    refine o_nil ?_
    have hlt : i < n := by omega
    exact x_loop (i + 1) hlt (by omega) ⟨rfl, congrArg some (vi (hw i hlt)), congrArg some (vi (hw2 i hlt)), trivial⟩ rfl
  · refine c_exit ?_; refine x_seq_exit ?_; refine x_loop_exit ?_; refine x_blk_hit ?_; refine x_seq ?_; refine c_seq ?_; refine c_reg ?_
    refine mv rfl rfl (asg rfl rfl ?_)
    refine o_nil ?_; refine x_seq ?_; refine c_ret ?_; refine ret1 (.inr rfl) rfl rfl ?_
    have : i = n := by omega
    subst this
    exact ⟨rfl, rfl⟩
theorem fits01_fn_ (n b : Int) (hb : b = 32) (h : Heap) : Does Tryz.prog 67 [i64 n, i64 b] h (fun v h' => v = .bool (tb (FitsP n)) ∧ Ext h h') := by
  refine fn_enter (N := 26) Tryz.func67 (by kernel_rfl) rfl rfl rfl (fun w0 => ?_)
  refine c_seq ?_; refine c_reg ?_; refine asg rfl rfl ?_; refine o_nil ?_; refine x_seq ?_
  refine c_seq ?_; refine c_seq ?_; refine c_reg ?_
  refine mv rfl rfl (lti rfl rfl rfl (mv rfl rfl (gqf rfl rfl rfl (fun e => mv rfl rfl) (gqf rfl rfl rfl (fun e => gti (cg rfl e) rfl rfl) (pko rfl rfl rfl rfl ?_)))))
  refine o_nil ?_; refine x_seq ?_; refine c_cond rfl (fun c1 => ?_) (fun c1 => ?_)
  · refine c_seq ?_; refine c_reg ?_; refine asg rfl rfl ?_; refine o_nil ?_; refine x_seq ?_; refine c_ret ?_; refine x_seq_ret ?_
    refine ret1 (.inr rfl) rfl rfl ?_
    omega
  · refine c_skip ?_; refine x_seq ?_; refine c_seq ?_; refine c_reg ?_
    refine mv rfl rfl (cvi rfl rfl (clp ((pow_fn 32 (by subst hb; decide) (by decide) _)) rfl rfl (cvi rfl rfl (quo rfl rfl (by decide) rfl (asg rfl rfl ?_)))))
    refine o_nil ?_; refine x_seq ?_; refine c_seq ?_; refine c_reg ?_
    refine mv rfl rfl (mv rfl rfl (ng rfl rfl (gei rfl rfl rfl (mv rfl rfl (gqt rfl rfl rfl (fun e => mv rfl rfl) (gqt rfl rfl rfl (fun e => mv rfl rfl) (gqt rfl rfl rfl (fun e => lti (cg rfl e) (cg rfl e) rfl) ?_)))))))
    refine pka rfl rfl rfl rfl (asg rfl rfl ?_)
    refine o_nil ?_; refine x_seq ?_; refine c_ret ?_; refine ret1 (.inr rfl) rfl rfl ?_
    have e1 : IntKind.i64.wrap ((IntKind.i64.wrap ((2 ^ 32 : Nat) : Int)).tdiv 2) = 2147483648 := by decide
    have e2 : IntKind.i64.wrap (-2147483648) = -2147483648 := by decide
    refine ⟨vtb ?_, Mod.refl _ _⟩
    rw [e1, e2]; exact Iff.rfl
theorem fits01_fn (n : Int) (h : Heap) : Does Tryz.prog 67 [i64 n, i64 32] h (fun v h' => v = .bool (tb (FitsP n)) ∧ Ext h h') := fits01_fn_ n 32 rfl h
theorem const12_fn (x : Val) (h : Heap) : Does Tryz.prog 82 [valV x] h (fun v h' => v = .bool (tb (ConstP x)) ∧ Ext h h') := by
  refine fn_enter (N := 63) Tryz.func82 (by kernel_rfl) rfl rfl rfl (fun w0 => ?_)
  refine c_seq ?_; refine c_reg ?_; refine bx rfl nofun rfl (fun h1 n1 => ?_)
  have s1 : h1.size = h.size + 1 := n1.size
  have b1_1 := n1.at_
  refine asg rfl rfl ?_; refine o_nil ?_; refine x_seq ?_
  refine c_seq ?_; refine c_seq ?_; refine c_reg ?_
  refine fa rfl rfl (ld rfl (cell b1_1 rfl) rfl (nei rfl rfl rfl (mv rfl rfl (gqt rfl rfl rfl (fun e => fa rfl rfl) (gqt rfl rfl rfl (fun e => ld (cg rfl e) (cell b1_1 rfl) rfl) ?_)))))
  refine gqt rfl rfl rfl (fun e => nes (cg rfl e) rfl rfl) (pka rfl rfl rfl rfl ?_)
  refine o_nil ?_; refine x_seq ?_; refine c_cond rfl (fun c2 => ?_) (fun c2 => ?_)
  · refine c_seq ?_; refine c_reg ?_; refine asg rfl rfl ?_; refine o_nil ?_; refine x_seq ?_; refine c_ret ?_; refine x_seq_ret ?_
    refine ret1 (.inr rfl) rfl rfl ?_
    refine ⟨congrArg Value.bool (tb_f (fun hs => ?_)).symm, n1.ext⟩
    rcases hs with ⟨e, -⟩ | ⟨e, -⟩
    · exact c2.1 e
    · exact c2.2 e
  · have c2' : x.form = 6 ∨ x.text = [] := (Classical.em _).imp id (fun e => Classical.byContradiction fun e' => c2 ⟨e, e'⟩)
    have hnum : x.form ≠ 6 → (ConstP x ↔ NumP x) := fun e => ⟨fun hs => by rcases hs with ⟨h, -⟩ | ⟨-, h⟩; exact absurd h e; exact h, fun h => .inr ⟨c2'.resolve_left e, h⟩⟩
    refine c_skip ?_; refine x_seq ?_
    refine c_seq ?_; refine c_seq ?_; refine c_reg ?_; refine fa rfl rfl (ld rfl (cell b1_1 rfl) rfl ?_)
    refine o_nil ?_; refine x_seq ?_; refine c_blk ?_; refine c_seq ?_; refine c_reg ?_; refine eqi rfl rfl rfl (asg rfl rfl ?_)
    refine o_nil ?_; refine x_seq ?_; refine c_cond rfl (fun c3 => ?_) (fun c3 => ?_)
    · refine c_seq ?_; refine c_reg ?_; refine fa rfl rfl (ld rfl (cell b1_1 rfl) rfl (clE ((fits01_fn _ _)) rfl rfl (fun h4 x4 => ?_)))
      have s4 : h1.size ≤ h4.size := x4.size
      have b1_4 := x4.get b1_1
      refine asg rfl rfl ?_; refine o_nil ?_; refine x_seq ?_; refine c_ret ?_; refine x_blk_ret ?_; refine x_seq_ret ?_
      refine ret1 (.inr rfl) rfl rfl ?_
      refine ⟨vtb ?_, n1.ext.trans x4⟩
      rw [hnum (by omega)]; unfold NumP FitsP; omega
    · refine c_seq ?_; refine c_reg ?_; refine eqi rfl rfl rfl (asg rfl rfl ?_)
      refine o_nil ?_; refine x_seq ?_; refine c_cond rfl (fun c5 => ?_) (fun c5 => ?_)
      · refine c_seq ?_; refine c_reg ?_
        refine fa rfl rfl (ld rfl (cell b1_1 rfl) rfl (eqi rfl rfl rfl (mv rfl rfl (gqf rfl rfl rfl (fun e => fa rfl rfl) (gqf rfl rfl rfl (fun e => ld (cg rfl e) (cell b1_1 rfl) rfl) ?_)))))
        refine gqf rfl rfl rfl (fun e => eqi (cg rfl e) rfl rfl) (pko rfl rfl rfl rfl (asg rfl rfl ?_))
        refine o_nil ?_; refine x_seq ?_; refine c_ret ?_; refine x_blk_ret ?_; refine x_seq_ret ?_; refine ret1 (.inr rfl) rfl rfl ?_
        refine ⟨vtb ?_, n1.ext⟩
        rw [hnum (by omega)]; unfold NumP FitsP; omega
      · refine c_seq ?_; refine c_reg ?_; refine eqi rfl rfl rfl (asg rfl rfl ?_)
        refine o_nil ?_; refine x_seq ?_; refine c_cond rfl (fun c6 => ?_) (fun c6 => ?_)
        · refine c_seq ?_; refine c_reg ?_
          refine fa rfl rfl (ld rfl (cell b1_1 rfl) rfl (gei rfl rfl rfl (mv rfl rfl (gqt rfl rfl rfl (fun e => fa rfl rfl) (gqt rfl rfl rfl (fun e => ld (cg rfl e) (cell b1_1 rfl) rfl) ?_)))))
          refine gqt rfl rfl rfl (fun e => lti (cg rfl e) rfl rfl) (pka rfl rfl rfl rfl (asg rfl rfl ?_))
          refine o_nil ?_; refine x_seq ?_; refine c_ret ?_; refine x_blk_ret ?_; refine x_seq_ret ?_; refine ret1 (.inr rfl) rfl rfl ?_
          refine ⟨vtb ?_, n1.ext⟩
          rw [hnum (by omega)]; unfold NumP FitsP; omega
        · refine c_seq ?_; refine c_reg ?_; refine eqi rfl rfl rfl (asg rfl rfl ?_)
          refine o_nil ?_; refine x_seq ?_; refine c_cond rfl (fun c7 => ?_) (fun c7 => ?_)
          · refine c_seq ?_; refine c_reg ?_
            refine fa rfl rfl (ld rfl (cell b1_1 rfl) rfl (gei rfl rfl rfl (mv rfl rfl (gqt rfl rfl rfl (fun e => fa rfl rfl) (gqt rfl rfl rfl (fun e => ld (cg rfl e) (cell b1_1 rfl) rfl) ?_)))))
            refine gqt rfl rfl rfl (fun e => lti (cg rfl e) rfl rfl) (pka rfl rfl rfl rfl (asg rfl rfl ?_))
            refine o_nil ?_; refine x_seq ?_; refine c_ret ?_; refine x_blk_ret ?_; refine x_seq_ret ?_; refine ret1 (.inr rfl) rfl rfl ?_
            refine ⟨vtb ?_, n1.ext⟩
            rw [hnum (by omega)]; unfold NumP FitsP; omega
          · refine c_seq ?_; refine c_reg ?_; refine eqi rfl rfl rfl (asg rfl rfl ?_)
            refine o_nil ?_; refine x_seq ?_; refine c_cond rfl (fun c8 => ?_) (fun c8 => ?_)
            · refine c_seq ?_; refine c_reg ?_; refine fa rfl rfl (ld rfl (cell b1_1 rfl) rfl (eqi rfl rfl rfl (asg rfl rfl ?_)))
              refine o_nil ?_; refine x_seq ?_; refine c_ret ?_; refine x_blk_ret ?_; refine x_seq_ret ?_; refine ret1 (.inr rfl) rfl rfl ?_
              refine ⟨vtb ?_, n1.ext⟩
              rw [hnum (by omega)]; unfold NumP FitsP; omega
            · refine c_seq ?_; refine c_reg ?_; refine eqi rfl rfl rfl (asg rfl rfl ?_)
              refine o_nil ?_; refine x_seq ?_; refine c_cond rfl (fun c9 => ?_) (fun c9 => ?_)
              · refine c_seq ?_; refine c_reg ?_
                refine fa rfl rfl (ld rfl (cell b1_1 rfl) rfl (eqi rfl rfl rfl (mv rfl rfl (gqt rfl rfl rfl (fun e => fa rfl rfl) (gqt rfl rfl rfl (fun e => ld (cg rfl e) (cell b1_1 rfl) rfl) ?_)))))
                refine gqt rfl rfl rfl (fun e => clp (string_fn _ _) (a1 (cg rfl e)) rfl) (pka rfl rfl rfl rfl (asg rfl rfl ?_))
                refine o_nil ?_; refine x_seq ?_; refine c_ret ?_; refine x_blk_ret ?_; refine x_seq_ret ?_; refine ret1 (.inr rfl) rfl rfl ?_
                refine ⟨vtb ⟨fun ⟨a, b⟩ => .inl ⟨c9, a, b⟩, fun hs => ?_⟩, n1.ext⟩
                rcases hs with ⟨-, b, d⟩ | ⟨-, e⟩
                · exact ⟨b, d⟩
                · unfold NumP at e; omega
              · refine c_skip ?_; refine x_blk ?_; refine x_seq ?_; refine c_seq ?_; refine c_reg ?_; refine asg rfl rfl ?_; refine o_nil ?_
                refine x_seq ?_; refine c_ret ?_; refine ret1 (.inr rfl) rfl rfl ?_
                refine ⟨congrArg Value.bool (tb_f (fun hs => ?_)).symm, n1.ext⟩
                rcases hs with ⟨e, -⟩ | ⟨-, e⟩
                · omega
                · unfold NumP at e; omega
end

/-! The walks of the reference's names of types, and of its objects. No condition but what each theorem says. -/
section
open Go Go.Eng

theorem used_mod {f : Face} {m : Bytes} : usedP f m ↔ modOk f m := by
  unfold usedP modOk
  constructor
  · exact fun e => e.elim .inr (fun e => .inl e.symm)
  · exact fun e => e.elim (fun e => .inr e.symm) .inl
theorem first_bare {t : List Ty} (h : TGood t) {j : Nat} {x : Ty} (hj : j < 7) (hx : t[j]? = some x) : BareP x j := by
  rcases h.2.1 j x hx with ⟨-, hb⟩ | ⟨e, -⟩
  · exact hb
  · omega
theorem bare_name {x : Ty} {n : Int} (h : BareP x n) : x.name = [] := h.1.1.1.1.1.1.1.2
theorem bare_mod {x : Ty} {n : Int} (h : BareP x n) : x.mod = [] := h.1.1.1.1.1.1.1.1.2
theorem keys7 {t : List Ty} (h : TGood t) : tkeys (t.take 7) = [] := by
  unfold tkeys
  rw [List.map_eq_nil_iff, List.filter_eq_nil_iff]
  intro x hx
  obtain ⟨j, hj⟩ := List.mem_iff_getElem?.1 hx
  have hl := (List.getElem?_eq_some_iff.1 hj).1
  rw [List.length_take] at hl
  rw [List.getElem?_take, if_pos (by omega)] at hj
  have := bare_name (first_bare h (by omega) hj)
  simp [isNamed, this]
theorem keys_mem {t : List Ty} {v : Value} : v ∈ tkeys t ↔ ∃ y ∈ t, y.name ≠ [] ∧ tkey y = v := by
  unfold tkeys
  simp only [List.mem_map, List.mem_filter, isNamed, decide_eq_true_eq, and_assoc]
def Twin (x y : Ty) : Prop := x.name ≠ [] ∧ tkey x = tkey y

set_option maxHeartbeats 1000000 in
theorem named16_fn {h : Heap} {fv : Value} {f : Face} (hF : FaceV h.size h fv f) (hg : TGood f.types) :
    Does Tryz.prog 70 [fv] h (fun v h' => v = .bool (tb (TypesP f)) ∧ Ext h h') := by
  have hF0 := hF
  obtain ⟨vu, vt, vo, rfl, hn, hk, hU, hT, hO⟩ := hF
  have hT0 := hT
  obtain ⟨at0, ct0, rfl⟩ := SliceAt.form hT
  have htl := hT.1
  have h7 := hg.1.1
  have hmx : maxLen = 9223372036854775807 := by decide
  have k0 : At h.size h h := At.refl (Nat.le_refl _)
  refine fn_enter (N := 65) Tryz.func70 (by kernel_rfl) rfl rfl rfl (fun w0 => ?_)
  refine c_seq ?_; refine c_reg ?_; refine bx rfl nofun rfl (fun h1 n1 => ?_)
  have s1 : h1.size = h.size + 1 := n1.size
  have k_1 := k0.ext n1.ext
  have b1_1 := n1.at_
  refine asg rfl rfl ?_; refine o_nil ?_; refine x_seq ?_
  refine c_seq ?_; refine c_seq ?_; refine c_reg ?_; refine asg rfl rfl ?_; refine o_nil ?_; refine x_seq ?_; refine c_blk ?_
  refine c_loop (α := Nat × Heap) (fun s => [(1, ptr h.size 0), (3, i64 (s.1 : Nat))]) (fun s => s.2)
    (fun s => At h.size h s.2 ∧ s.2[h.size]? = some (.cells #[str f.name, .int .u32 f.key, vu, .slice at0 f.types.length ct0, vo] 28 (0, 0)) ∧ (7 ≤ s.1 ∧ s.1 ≤ f.types.length) ∧ upTo f.types (fun x => x.mod = [] ∨ modOk f x.mod) s.1 ∧ (tkeys (f.types.take s.1)).Nodup)
    (fun s => f.types.length - s.1) (7, h1) ⟨k_1, b1_1, ⟨Nat.le_refl _, h7⟩, fun j y hj hy => .inl (bare_mod (first_bare hg hj hy)), by simp only; rw [keys7 hg]; exact .nil⟩ ⟨rfl, rfl, trivial⟩ rfl (fun s hs => ?_)
  obtain ⟨i, g⟩ := s
  obtain ⟨kg, g1, hil, hup, hnd⟩ := hs
  simp only at kg g1 hil hup hnd
  have kgn := kg.n
  have g1l := lt_of_get g1
  change SC _ _ _ _ g
  refine c_seq ?_; refine c_seq ?_; refine c_reg ?_; refine mv rfl rfl (fa rfl rfl (ld rfl (cell g1 rfl) rfl (lnl rfl rfl (lti rfl rfl rfl ?_))))
  refine o_nil ?_; refine x_seq ?_; refine c_cond rfl (fun c2 => ?_) (fun c2 => ?_)
  · have hlt : i < f.types.length := by have := c2; simp only at this; omega
    have hxi : f.types[i]? = some f.types[i] := List.getElem?_eq_getElem hlt
    obtain ⟨b2, o2, cs2, ha2, hb2, hl2, hr2, hR2⟩ := SliceAt.el hT0 kg hxi
    have htk := tkeys_take hxi
    have hxm : f.types[i] ∈ f.types := List.getElem_mem hlt
    have hsp := tkeys_split f.types (i + 1)
    generalize f.types[i] = x at *
    subst ha2
    obtain ⟨hfit, vf, vp, rfl, hFx, hPx⟩ := hR2
    obtain ⟨a4, c4', rfl⟩ := hFx.form
    obtain ⟨a5, c5', rfl⟩ := hPx.form
    refine c_skip ?_; refine x_seq ?_
    refine c_seq ?_; refine c_blk ?_; refine c_seq ?_; refine c_reg ?_
    refine fa rfl rfl (ld rfl (cell g1 rfl) rfl (mv rfl rfl (ixs rfl rfl (by omega) rfl (ldn rfl rfl hr2 rfl (alc nofun rfl (fun h3 n3 => ?_))))))
    have s3 : h3.size = g.size + 1 := n3.size
    have k_3 := kg.ext n3.ext
    have g1_3 := n3.ext.get g1
    have b4_3 := n3.at_
    refine stw rfl rfl rfl (ones rfl) b4_3 rfl nofun (fun h4 u4 => ?_)
    have s4 : h4.size = h3.size := u4.size
    have k_4 := k_3.upd u4 (by omega)
    have g1_4 := u4.ne g1_3 (by omega)
    have b4_4 := u4.at_
    refine o_nil ?_; refine x_seq ?_
    refine c_seq ?_; refine c_seq ?_; refine c_reg ?_
    refine fa rfl rfl (ld rfl (cell b4_4 rfl) rfl (nes rfl rfl rfl (mv rfl rfl (gqt rfl rfl rfl (fun e => ldn rfl rfl (row_blk g1_4) rfl) (gqt rfl rfl rfl (fun e => fa rfl rfl) ?_)))))
    refine gqt rfl rfl rfl (fun e => ld (cg rfl e) (cell b4_4 rfl) rfl) (getr rfl rfl rfl (fun e kk => clE ((used_fn (FaceV.keep hF0 (At.k k_4) (At.n k_4)) _)) (a2 (cg rfl e) (cg rfl e)) rfl kk) (fun h5 x5 => ?_))
    have s5 : h4.size ≤ h5.size := x5.size
    have k_5 := k_4.ext x5
    have g1_5 := x5.get g1_4
    have b4_5 := x5.get b4_4
    refine gqt rfl rfl rfl (fun e => nt (cg rfl e) rfl) (pka rfl rfl rfl rfl ?_)
    refine o_nil ?_; refine x_seq ?_; refine c_cond rfl (fun c6 => ?_) (fun c6 => ?_)
    · refine c_seq ?_; refine c_reg ?_; refine asg rfl rfl ?_; refine o_nil ?_; refine x_seq ?_; refine c_ret ?_; refine x_seq_ret ?_
      refine x_blk_ret ?_; refine x_seq_ret ?_; refine x_loop_ret ?_; refine x_blk_ret ?_; refine x_seq_ret ?_; refine ret1 (.inr rfl) rfl rfl ?_
      exact ⟨congrArg Value.bool (tb_f (fun hs => c6.2 (used_mod.2 ((hs.1 x hxm).resolve_left c6.1)))).symm, (k_5).toExt⟩
    · have hmod : x.mod = [] ∨ modOk f x.mod := (Classical.em _).imp id (fun e => Classical.byContradiction fun e' => c6 ⟨e, fun e2 => e' (used_mod.1 e2)⟩)
      refine c_skip ?_; refine x_seq ?_; refine c_seq ?_; refine c_reg ?_; refine asg rfl rfl ?_; refine o_nil ?_; refine x_seq ?_; refine c_blk ?_
      refine c_loop (α := Nat × Heap) (fun s => [(1, ptr h.size 0), (3, i64 (i : Nat)), (4, ptr g.size 0), (5, i64 (s.1 : Nat))]) (fun s => s.2)
        (fun s => At h.size h s.2 ∧ s.2[h.size]? = some (.cells #[str f.name, .int .u32 f.key, vu, .slice (some ⟨b2, o2, none⟩) f.types.length ct0, vo] 28 (0, 0)) ∧ s.2[g.size]? = some (.cells (tyCells x (.slice a4 x.fields.length c4') (.slice a5 x.params.length c5')).toArray 52 (0, 0)) ∧ (7 ≤ s.1 ∧ s.1 ≤ i) ∧ upTo f.types (fun y => ¬ Twin x y) s.1)
        (fun s => i - s.1) (7, h5) ⟨k_5, g1_5, b4_5, ⟨Nat.le_refl _, hil.1⟩, fun j y hj hy e => e.1 ((tkey_eq.1 e.2).2.1.trans (bare_name (first_bare hg hj hy)))⟩ ⟨rfl, rfl, rfl, rfl, trivial⟩ rfl (fun s hs => ?_)
      obtain ⟨q, g'⟩ := s
      obtain ⟨kg', g1', g4', hql, hup'⟩ := hs
      simp only at kg' g1' g4' hql hup'
      have kgn' := kg'.n
      have g1l' := lt_of_get g1'
      have g4l' := lt_of_get g4'
      change SC _ _ _ _ g'
      refine c_seq ?_; refine c_seq ?_; refine c_reg ?_; refine mv rfl rfl (mv rfl rfl (lti rfl rfl rfl ?_))
      refine o_nil ?_; refine x_seq ?_; refine c_cond rfl (fun c7 => ?_) (fun c7 => ?_)
      · have hlt' : q < i := by have := c7; simp only at this; omega
        have hyi : f.types[q]? = some (f.types[q]'(by omega)) := List.getElem?_eq_getElem _
        have hym : f.types[q]'(by omega) ∈ f.types := List.getElem_mem _
        obtain ⟨b3, o3, cs3, ha3, hb3, hl3, hr3, hR3⟩ := SliceAt.el hT0 kg' hyi
        generalize f.types[q]'(by omega) = y at *
        cases ha3
        obtain ⟨hfit', vf', vp', rfl, hFy, hPy⟩ := hR3
        obtain ⟨a6, c6', rfl⟩ := hFy.form
        obtain ⟨a7, c7', rfl⟩ := hPy.form
        refine c_skip ?_; refine x_seq ?_
        refine c_seq ?_; refine c_blk ?_; refine c_seq ?_; refine c_reg ?_
        refine fa rfl rfl (ld rfl (cell g1' rfl) rfl (mv rfl rfl (ixs rfl rfl (by omega) rfl (ldn rfl rfl hr3 rfl (alc nofun rfl (fun h8 n8 => ?_))))))
        have s8 : h8.size = g'.size + 1 := n8.size
        have k_8 := kg'.ext n8.ext
        have g1'_8 := n8.ext.get g1'
        have g4'_8 := n8.ext.get g4'
        have b6_8 := n8.at_
        refine stw rfl rfl rfl (ones rfl) b6_8 rfl nofun (fun h9 u9 => ?_)
        have s9 : h9.size = h8.size := u9.size
        have k_9 := k_8.upd u9 (by omega)
        have g1'_9 := u9.ne g1'_8 (by omega)
        have g4'_9 := u9.ne g4'_8 (by omega)
        have b6_9 := u9.at_
        refine o_nil ?_; refine x_seq ?_; refine c_seq ?_; refine c_reg ?_
        refine fa rfl rfl (ld rfl (cell g4'_9 rfl) rfl (nes rfl rfl rfl (mv rfl rfl (gqt rfl rfl rfl (fun e => fa rfl rfl) (gqt rfl rfl rfl (fun e => ld (cg rfl e) (cell g4'_9 rfl) rfl) ?_)))))
        refine gqt rfl rfl rfl (fun e => fa rfl rfl) (gqt rfl rfl rfl (fun e => ld (cg rfl e) (cell b6_9 rfl) rfl) (gqt rfl rfl rfl (fun e => eqs (cg rfl e) (cg rfl e) rfl) ?_))
        refine pka rfl rfl rfl rfl (mv rfl rfl (gqt rfl rfl rfl (fun e => fa rfl rfl) (gqt rfl rfl rfl (fun e => ld (cg rfl e) (cell g4'_9 rfl) rfl) (gqt rfl rfl rfl (fun e => fa rfl rfl) ?_))))
        refine gqt rfl rfl rfl (fun e => ld (cg rfl e) (cell b6_9 rfl) rfl) (gqt rfl rfl rfl (fun e => eqs (cg rfl e) (cg rfl e) rfl) (pka rfl rfl rfl rfl (mv rfl rfl ?_)))
        refine gqt rfl rfl rfl (fun e => fa rfl rfl) (gqt rfl rfl rfl (fun e => ld (cg rfl e) (cell g4'_9 rfl) rfl) (gqt rfl rfl rfl (fun e => eqi (cg rfl e) rfl rfl) ?_))
        refine gqt rfl rfl rfl (fun e => fa rfl rfl) (gqt rfl rfl rfl (fun e => ld (cg rfl e) (cell b6_9 rfl) rfl) (gqt rfl rfl rfl (fun e => eqi (cg rfl e) rfl rfl) (gqt rfl rfl rfl (fun e => eqb (cg rfl e) (cg rfl e) rfl) ?_)))
        refine pka rfl rfl rfl rfl ?_; refine o_nil ?_; refine x_seq ?_; refine c_cond rfl (fun c10 => ?_) (fun c10 => ?_)
        · refine c_seq ?_; refine c_reg ?_; refine asg rfl rfl ?_; refine o_nil ?_; refine x_seq ?_; refine c_ret ?_; refine x_blk_ret ?_
          refine x_seq_ret ?_; refine x_loop_ret ?_; refine x_blk_ret ?_; refine x_blk_ret ?_; refine x_seq_ret ?_; refine x_loop_ret ?_
          refine x_blk_ret ?_; refine x_seq_ret ?_; refine ret1 (.inr rfl) rfl rfl ?_
          refine ⟨congrArg Value.bool (tb_f (fun hs => ?_)).symm, (k_9).toExt⟩
          obtain ⟨⟨⟨c1, c2'⟩, c3⟩, c4⟩ := c10
          have c4 : (x.form = 9) = (y.form = 9) := by
           have : (x.form == 9) = (y.form == 9) := c4
           exact propext (decide_eq_decide.1 this)
          exact filt_ne hs.2 (by omega) hxi hyi (decide_eq_true c1) (decide_eq_true (by rw [← c3]; exact c1)) (tkey_eq.2 ⟨c2', c3, by rw [c4]⟩)
        · have hno : ¬ Twin x y := fun e => c10 ⟨⟨⟨e.1, (tkey_eq.1 e.2).1⟩, (tkey_eq.1 e.2).2.1⟩, by show (x.form == 9) = (y.form == 9); exact decide_eq_decide.2 (tkey_eq.1 e.2).2.2⟩
          refine c_skip ?_; refine x_blk ?_; refine x_seq ?_; refine c_reg ?_; refine mv rfl rfl (add rfl rfl (by omega) rfl (asg rfl rfl ?_))
          refine o_nil ?_
          refine x_loop (q + 1, h9) ⟨k_9, g1'_9, g4'_9, by simp only; omega, (upTo_succ hyi).2 ⟨hup', hno⟩⟩ (by simp only; omega) ⟨rfl, rfl, rfl, rfl, trivial⟩ rfl
      · have hq : q = i := by have := c7; simp only at this; omega
        subst hq
        refine c_exit ?_; refine x_seq_exit ?_; refine x_loop_exit ?_; refine x_blk_hit ?_; refine x_blk ?_; refine x_seq ?_; refine c_reg ?_
        refine mv rfl rfl (add rfl rfl (by omega) rfl (asg rfl rfl ?_))
        refine o_nil ?_
        refine x_loop (q + 1, g') ⟨kg', g1', by simp only; omega, (upTo_succ hxi).2 ⟨hup, hmod⟩, ?_⟩ (by simp only; omega) ⟨rfl, rfl, trivial⟩ rfl
        simp only
        rw [htk]
        by_cases hx0 : x.name = []
        · rw [if_pos hx0, List.append_nil]; exact hnd
        · rw [if_neg hx0]
          refine nodup_snoc hnd (fun e => ?_)
          obtain ⟨y, hy, hy1, hy2⟩ := keys_mem.1 e
          obtain ⟨j, hj⟩ := List.mem_iff_getElem?.1 hy
          have hjl := (List.getElem?_eq_some_iff.1 hj).1
          rw [List.length_take] at hjl
          rw [List.getElem?_take, if_pos (by omega)] at hj
          exact hup' j y (by omega) hj ⟨hx0, hy2.symm⟩
  · have hi : i = f.types.length := by have := c2; simp only at this; omega
    subst hi
    rw [List.take_length] at hnd
    refine c_exit ?_; refine x_seq_exit ?_; refine x_loop_exit ?_; refine x_blk_hit ?_; refine x_seq ?_; refine c_seq ?_; refine c_reg ?_
    refine asg rfl rfl ?_; refine o_nil ?_; refine x_seq ?_; refine c_ret ?_; refine ret1 (.inr rfl) rfl rfl ?_
    exact ⟨congrArg Value.bool (tb_t ⟨fun x hx => upTo_all.1 hup x hx, hnd⟩).symm, (kg).toExt⟩
set_option maxHeartbeats 1000000 in
theorem obj16_fn {N : Nat} {h0 h : Heap} {fv : Value} {f : Face} {o : Ob} (hF : FaceV N h0 fv f) (k0 : At N h0 h) (hg : TGood f.types) :
    Does Tryz.prog 71 [fv, objV o] h (fun v h' => v = .bool (tb (ObjP f.types o)) ∧ Ext h h') := by
  obtain ⟨vu, vt, vo, rfl, hn, hk, hU, hT, hO⟩ := hF
  have hT0 := hT
  obtain ⟨at0, ct0, rfl⟩ := SliceAt.form hT
  have htl := hT.1
  have hmx : maxLen = 9223372036854775807 := by decide
  refine fn_enter (N := 126) Tryz.func71 (by kernel_rfl) rfl rfl rfl (fun w0 => ?_)
  refine c_seq ?_; refine c_reg ?_; refine bx rfl nofun rfl (fun h1 n1 => ?_)
  have s1 : h1.size = h.size + 1 := n1.size
  have k_1 := k0.ext n1.ext
  have b2_1 := n1.at_
  refine bx rfl nofun rfl (fun h2 n2 => ?_)
  have s2 : h2.size = h1.size + 1 := n2.size
  have k_2 := k_1.ext n2.ext
  have b2_2 := n2.ext.get b2_1
  have b3_2 := n2.at_
  refine asg rfl rfl ?_; refine o_nil ?_; refine x_seq ?_
  refine c_seq ?_; refine c_seq ?_; refine c_reg ?_
  refine fa rfl rfl (ld rfl (cell b3_2 rfl) rfl (clp (word16_fn _ _) rfl rfl (nt rfl rfl (mv rfl rfl (gqf rfl rfl rfl (fun e => fa rfl rfl) (gqf rfl rfl rfl (fun e => ld (cg rfl e) (cell b3_2 rfl) rfl) ?_))))))
  refine gqf rfl rfl rfl (fun e => lti (cg rfl e) rfl rfl) (pko rfl rfl rfl rfl (mv rfl rfl (gqf rfl rfl rfl (fun e => fa rfl rfl) (gqf rfl rfl rfl (fun e => ld (cg rfl e) (cell b3_2 rfl) rfl) ?_))))
  refine gqf rfl rfl rfl (fun e => fa rfl rfl) (gqf rfl rfl rfl (fun e => ld (cg rfl e) (cell b2_2 rfl) rfl) (gqf rfl rfl rfl (fun e => lnl (cg rfl e) rfl) (gqf rfl rfl rfl (fun e => gei (cg rfl e) (cg rfl e) rfl) ?_)))
  refine pko rfl rfl rfl rfl (mv rfl rfl (gqf rfl rfl rfl (fun e => fa rfl rfl) (gqf rfl rfl rfl (fun e => ld (cg rfl e) (cell b3_2 rfl) rfl) (gqf rfl rfl rfl (fun e => nei (cg rfl e) rfl rfl) ?_))))
  refine gqf rfl rfl rfl (fun e => mv (cg rfl e) rfl) (gqt2 rfl rfl rfl (fun e => fa rfl rfl) (gqt2 rfl rfl rfl (fun e => ldn (cg rfl e) rfl (row_part b3_2 (val_part o)) rfl) ?_))
  refine gqt2 rfl rfl rfl (fun e => bld (vs := []) (v := valV ⟨0, 0, []⟩) rfl (fun _ => by kernel_rfl) rfl) (getr2 rfl rfl rfl (fun e kk => clE ((val12_fn o.val ⟨0, 0, []⟩ _)) (a2 (cg rfl e) (cg rfl e)) rfl kk) (fun h3 x3 => ?_))
  have s3 : h2.size ≤ h3.size := x3.size
  have k_3 := k_2.ext x3
  have b2_3 := x3.get b2_2
  have b3_3 := x3.get b3_2
  refine gqt2 rfl rfl rfl (fun e => nt (cg rfl e) rfl) (gqf rfl rfl rfl (fun e => pka (cg rfl e) (cg2 rfl e) rfl rfl) (pko rfl rfl rfl rfl ?_))
  refine o_nil ?_; refine x_seq ?_; refine c_cond rfl (fun c4 => ?_) (fun c4 => ?_)
  · refine c_seq ?_; refine c_reg ?_; refine asg rfl rfl ?_; refine o_nil ?_; refine x_seq ?_; refine c_ret ?_; refine x_seq_ret ?_
    refine ret1 (.inr rfl) rfl rfl ?_
    refine ⟨congrArg Value.bool (tb_f (fun hs => ?_)).symm, (n1.ext.trans n2.ext).trans x3⟩
    obtain ⟨h1, h2, h3, -⟩ := hs
    rcases c4 with ((c | c) | c) | ⟨c, d⟩
    · exact c h1
    · omega
    · omega
    · refine d ?_
      obtain ⟨e1, e2, e3⟩ := h3.resolve_left c
      cases ho : o.val; rw [ho] at e1 e2 e3; simp only at e1 e2 e3; rw [e1, e2, e3]
  · have e1 : WordP o.name := Classical.byContradiction fun e => c4 (.inl (.inl (.inl e)))
    have e2 : 0 ≤ o.type := Int.not_lt.1 fun e => c4 (.inl (.inl (.inr e)))
    have e3 : o.type < f.types.length := Int.not_le.1 fun e => c4 (.inl (.inr e))
    have e4 : o.cls = 1 ∨ (o.val.form = 0 ∧ o.val.n = 0 ∧ o.val.text = []) := (Classical.em _).imp id (fun e => by
     have e' : o.val = ⟨0, 0, []⟩ := Classical.byContradiction fun e' => c4 (.inr ⟨e, e'⟩)
     rw [e']; exact ⟨rfl, rfl, rfl⟩)
    have hiff : ObjP f.types o ↔ ClsP f.types o := ⟨fun e => e.2.2.2, fun e => ⟨e1, ⟨e2, e3⟩, e4, e⟩⟩
    have hx : f.types[o.type.toNat]? = some (f.types[o.type.toNat]'(by omega)) := List.getElem?_eq_getElem _
    have hfm : formAt f.types o.type = (f.types[o.type.toNat]'(by omega)).form := by rw [formAt, hx]; rfl
    have hlow : o.type ≤ 6 → (f.types[o.type.toNat]'(by omega)).form = o.type := fun e => by
     have := bare_form (first_bare hg (by omega) hx); omega
    generalize f.types[o.type.toNat]'(by omega) = x at *
    obtain ⟨b', o', cs, ha, hb', hl', hr, hR⟩ := SliceAt.el hT0 k_3 hx
    subst ha
    obtain ⟨hfit, vf, vp, rfl, -, -⟩ := hR
    have hE : Ext h h3 := (n1.ext.trans n2.ext).trans x3
    refine c_skip ?_; refine x_seq ?_; refine c_seq ?_; refine c_reg ?_
    refine fa rfl rfl (ld rfl (cell b2_3 rfl) rfl (fa rfl rfl (ld rfl (cell b3_3 rfl) rfl (ixs rfl rfl (by omega) rfl (fa rfl rfl (ld rfl (hr 0 _ rfl) rfl (asg rfl rfl ?_)))))))
    refine o_nil ?_; refine x_seq ?_
    refine c_seq ?_; refine c_seq ?_; refine c_reg ?_; refine fa rfl rfl (ld rfl (cell b3_3 rfl) rfl ?_)
    refine o_nil ?_; refine x_seq ?_; refine c_blk ?_; refine c_seq ?_; refine c_reg ?_; refine eqi rfl rfl rfl (asg rfl rfl ?_)
    refine o_nil ?_; refine x_seq ?_; refine c_cond rfl (fun c5 => ?_) (fun c5 => ?_)
    · refine c_seq ?_; refine c_reg ?_
      refine fa rfl rfl (ldn rfl rfl (row_part b3_3 (val_part o)) rfl (clE ((const12_fn o.val _)) rfl rfl (fun h6 x6 => ?_)))
      have s6 : h3.size ≤ h6.size := x6.size
      have k_6 := k_3.ext x6
      have b2_6 := x6.get b2_3
      have b3_6 := x6.get b3_3
      refine mv rfl rfl (gqt rfl rfl rfl (fun e => fa rfl rfl) (gqt rfl rfl rfl (fun e => ld (cg rfl e) (cell b3_6 rfl) rfl) (gqt rfl rfl rfl (fun e => fa rfl rfl) (gqt rfl rfl rfl (fun e => fa (cg rfl e) rfl) ?_))))
      refine gqt rfl rfl rfl (fun e => ld (cg rfl e) (cell b3_6 rfl) rfl) (gqt rfl rfl rfl (fun e => eqi (cg rfl e) (cg rfl e) rfl) (pka rfl rfl rfl rfl (mv rfl rfl ?_)))
      refine gqt rfl rfl rfl (fun e => fa rfl rfl) (gqt rfl rfl rfl (fun e => ld (cg rfl e) (cell b3_6 rfl) rfl) (gqt rfl rfl rfl (fun e => eqi (cg rfl e) rfl rfl) (pka rfl rfl rfl rfl ?_)))
      refine asg rfl rfl ?_; refine o_nil ?_; refine x_seq ?_; refine c_ret ?_; refine x_blk_ret ?_; refine x_seq_ret ?_
      refine ret1 (.inr rfl) rfl rfl ?_
      refine ⟨vtb (Iff.trans ?_ hiff.symm), hE.trans x6⟩
      simp [ClsP, c5, and_assoc]
    · refine c_seq ?_; refine c_reg ?_; refine eqi rfl rfl rfl (asg rfl rfl ?_)
      refine o_nil ?_; refine x_seq ?_; refine c_cond rfl (fun c7 => ?_) (fun c7 => ?_)
      · refine c_seq ?_; refine c_reg ?_
        refine fa rfl rfl (ld rfl (cell b3_3 rfl) rfl (gei rfl rfl rfl (mv rfl rfl (gqt rfl rfl rfl (fun e => fa rfl rfl) (gqt rfl rfl rfl (fun e => ld (cg rfl e) (cell b3_3 rfl) rfl) ?_)))))
        refine gqt rfl rfl rfl (fun e => lei (cg rfl e) rfl rfl) (pka rfl rfl rfl rfl (mv rfl rfl (gqf rfl rfl rfl (fun e => fa rfl rfl) (gqf rfl rfl rfl (fun e => ld (cg rfl e) (cell b3_3 rfl) rfl) ?_))))
        refine gqf rfl rfl rfl (fun e => gei (cg rfl e) rfl rfl) (gqf rfl rfl rfl (fun e => mv (cg rfl e) rfl) (gqt2 rfl rfl rfl (fun e => mv rfl rfl) (gqt2 rfl rfl rfl (fun e => nei (cg rfl e) rfl rfl) ?_)))
        refine gqf rfl rfl rfl (fun e => pka (cg rfl e) (cg2 rfl e) rfl rfl) (pko rfl rfl rfl rfl (mv rfl rfl (gqt rfl rfl rfl (fun e => fa rfl rfl) (gqt rfl rfl rfl (fun e => ld (cg rfl e) (cell b3_3 rfl) rfl) ?_))))
        refine gqt rfl rfl rfl (fun e => eqi (cg rfl e) rfl rfl) (pka rfl rfl rfl rfl (asg rfl rfl ?_))
        refine o_nil ?_; refine x_seq ?_; refine c_ret ?_; refine x_blk_ret ?_; refine x_seq_ret ?_; refine ret1 (.inr rfl) rfl rfl ?_
        refine ⟨vtb (Iff.trans ?_ hiff.symm), hE⟩
        simp only [ClsP, c7, hfm, Int.reduceEq, false_and, or_false, false_or, true_and, ne_eq]
        omega
      · refine c_seq ?_; refine c_reg ?_; refine eqi rfl rfl rfl (asg rfl rfl ?_)
        refine o_nil ?_; refine x_seq ?_; refine c_cond rfl (fun c8 => ?_) (fun c8 => ?_)
        · refine c_seq ?_; refine c_reg ?_
          refine mv rfl rfl (nei rfl rfl rfl (mv rfl rfl (gqt rfl rfl rfl (fun e => mv rfl rfl) (gqt rfl rfl rfl (fun e => nei (cg rfl e) rfl rfl) (pka rfl rfl rfl rfl (mv rfl rfl ?_))))))
          refine gqt rfl rfl rfl (fun e => mv rfl rfl) (gqt rfl rfl rfl (fun e => nei (cg rfl e) rfl rfl) (pka rfl rfl rfl rfl (mv rfl rfl (gqt rfl rfl rfl (fun e => mv rfl rfl) ?_))))
          refine gqt rfl rfl rfl (fun e => nei (cg rfl e) rfl rfl) (pka rfl rfl rfl rfl (mv rfl rfl (gqt rfl rfl rfl (fun e => fa rfl rfl) (gqt rfl rfl rfl (fun e => ld (cg rfl e) (cell b3_3 rfl) rfl) ?_))))
          refine gqt rfl rfl rfl (fun e => gei (cg rfl e) rfl rfl) (pka rfl rfl rfl rfl (mv rfl rfl (gqt rfl rfl rfl (fun e => fa rfl rfl) (gqt rfl rfl rfl (fun e => ld (cg rfl e) (cell b3_3 rfl) rfl) ?_))))
          refine gqt rfl rfl rfl (fun e => lti (cg rfl e) rfl rfl) (pka rfl rfl rfl rfl (asg rfl rfl ?_))
          refine o_nil ?_; refine x_seq ?_; refine c_ret ?_; refine x_blk_ret ?_; refine x_seq_ret ?_; refine ret1 (.inr rfl) rfl rfl ?_
          refine ⟨vtb (Iff.trans ?_ hiff.symm), hE⟩
          simp only [ClsP, c8, hfm, Int.reduceEq, false_and, or_false, false_or, true_and, ne_eq]
          omega
        · refine c_seq ?_; refine c_reg ?_; refine eqi rfl rfl rfl (asg rfl rfl ?_)
          refine o_nil ?_; refine x_seq ?_; refine c_cond rfl (fun c9 => ?_) (fun c9 => ?_)
          · refine c_seq ?_; refine c_reg ?_
            refine mv rfl rfl (eqi rfl rfl rfl (mv rfl rfl (gqt rfl rfl rfl (fun e => fa rfl rfl) (gqt rfl rfl rfl (fun e => ld (cg rfl e) (cell b3_3 rfl) rfl) (gqt rfl rfl rfl (fun e => gei (cg rfl e) rfl rfl) ?_)))))
            refine pka rfl rfl rfl rfl (mv rfl rfl (gqt rfl rfl rfl (fun e => fa rfl rfl) (gqt rfl rfl rfl (fun e => ld (cg rfl e) (cell b3_3 rfl) rfl) (gqt rfl rfl rfl (fun e => lti (cg rfl e) rfl rfl) ?_))))
            refine pka rfl rfl rfl rfl (asg rfl rfl ?_)
            refine o_nil ?_; refine x_seq ?_; refine c_ret ?_; refine x_blk_ret ?_; refine x_seq_ret ?_; refine ret1 (.inr rfl) rfl rfl ?_
            refine ⟨vtb (Iff.trans ?_ hiff.symm), hE⟩
            simp only [ClsP, c9, hfm, Int.reduceEq, false_and, false_or, true_and, ne_eq]
            omega
          · refine c_skip ?_; refine x_blk ?_; refine x_seq ?_; refine c_seq ?_; refine c_reg ?_; refine asg rfl rfl ?_; refine o_nil ?_
            refine x_seq ?_; refine c_ret ?_; refine ret1 (.inr rfl) rfl rfl ?_
            refine ⟨congrArg Value.bool (tb_f (fun hs => ?_)).symm, hE⟩
            rcases (hiff.1 hs) with c | c | c | c
            · exact c5 c.1
            · exact c7 c.1
            · exact c8 c.1
            · exact c9 c.1
end

/-! The walks of the reference's places, elements, bases. No condition but what each theorem says. -/
section
open Go Go.Eng

theorem place_fn (a : Option Addr) (n c : Nat) (i : Int) (h : Heap) : Does Tryz.prog 91 [.slice a n c, i64 i] h (fun v h' => h' = h ∧ v = .bool (tb (0 ≤ i ∧ i < n))) := by
  refine fn_enter (N := 13) Tryz.func91 (by kernel_rfl) rfl rfl rfl (fun w0 => ?_)
  refine c_seq ?_; refine c_reg ?_; refine asg rfl rfl ?_; refine o_nil ?_; refine x_seq ?_; refine c_seq ?_; refine c_reg ?_
  refine mv rfl rfl (gei rfl rfl rfl (mv rfl rfl (gqt rfl rfl rfl (fun e => mv rfl rfl) (gqt rfl rfl rfl (fun e => mv rfl rfl) (gqt rfl rfl rfl (fun e => lnl (cg rfl e) rfl) ?_)))))
  refine gqt rfl rfl rfl (fun e => lti (cg rfl e) (cg rfl e) rfl) (pka rfl rfl rfl rfl (asg rfl rfl ?_))
  refine o_nil ?_; refine x_seq ?_; refine c_ret ?_; refine ret1 (.inr rfl) rfl rfl ?_
  exact ⟨rfl, vtb Iff.rfl⟩
def HoldsF (n : Int) : Prop := n ≠ 0 ∧ n ≠ 5 ∧ n ≠ 6 ∧ n ≠ 8
def HoldsP (t : List Ty) (r : Int) : Prop := (0 ≤ r ∧ r < t.length) ∧ HoldsF (formOf t r)
/-- a table that is not empty lies in one block -/
theorem types_some {N : Nat} {h : Heap} {vt : Value} {t : List Ty} (ht : TypesAt N h vt t) (h0 : 0 < t.length) : ∃ b o c, vt = .slice (some ⟨b, o, none⟩) t.length c ∧ b < N ∧
    ∀ (i : Nat) x, t[i]? = some x → ∃ cs, cs.length = 10 ∧ Go.Eng.rowAt h b (o + i * 10) cs ∧ tyR N h x cs := by
  obtain ⟨-, a, c, rfl, hi⟩ := ht
  obtain ⟨b, o, -, ha, hb, -⟩ := hi 0 _ (List.getElem?_eq_getElem h0)
  subst ha
  refine ⟨b, o, c, rfl, hb, fun i x hx => ?_⟩
  obtain ⟨b2, o2, cs, he, -, hl, hr, hR⟩ := hi i x hx
  cases he
  exact ⟨cs, hl, hr, hR⟩
theorem form_cell {N : Nat} {h0 h : Heap} {b o : Nat} {t : List Ty} (hi : ∀ (i : Nat) x, t[i]? = some x → ∃ cs, cs.length = 10 ∧ Go.Eng.rowAt h0 b (o + i * 10) cs ∧ tyR N h0 x cs) (k : At N h0 h) (hb : b < N) {r : Int} (hr : 0 ≤ r ∧ r < t.length) :
    cellAt h b (o + r.toNat * 10 + 0) = some (i64 (formOf t r)) := by
  have hx : t[r.toNat]? = some (t[r.toNat]'(by omega)) := List.getElem?_eq_getElem _
  obtain ⟨cs, -, hrow, -, vf, vp, rfl, -⟩ := hi _ _ hx
  rw [formOf_at hr.1 hx]
  exact k.k.row hb hrow 0 _ rfl
theorem holds_fn {N : Nat} {h0 h : Heap} {vt : Value} {t : List Ty} (ht : TypesAt N h0 vt t) (k : At N h0 h) (hl : 0 < t.length) (i : Int) : Does Tryz.prog 90 [vt, i64 i] h (fun v h' => h' = h ∧ v = .bool (tb (HoldsP t i))) := by
  obtain ⟨b, o, c, rfl, hb, hi⟩ := types_some ht hl
  have hc := fun hr => form_cell hi k hb (r := i) hr
  refine fn_enter (N := 40) Tryz.func90 (by kernel_rfl) rfl rfl rfl (fun w0 => ?_)
  refine c_seq ?_; refine c_reg ?_; refine asg rfl rfl ?_; refine o_nil ?_; refine x_seq ?_; refine c_seq ?_; refine c_reg ?_
  refine mv rfl rfl (mv rfl rfl (clp ((place_fn _ _ _ _ _)) rfl rfl (mv rfl rfl (gqt rfl rfl rfl (fun e => mv rfl rfl) (gqt rfl rfl rfl (fun e => mv rfl rfl) (gqt rfl rfl rfl (fun e => ixs (cg rfl e) (cg rfl e) (by omega) rfl) ?_))))))
  refine gqt rfl rfl rfl (fun e => fa (cg rfl e) rfl) (gqt rfl rfl rfl (fun e => ld (cg rfl e) (hc e) rfl) (gqt rfl rfl rfl (fun e => nei (cg rfl e) rfl rfl) (pka rfl rfl rfl rfl ?_)))
  refine mv rfl rfl (gqt rfl rfl rfl (fun e => mv rfl rfl) (gqt rfl rfl rfl (fun e => mv rfl rfl) (gqt rfl rfl rfl (fun e => ixs (cg rfl e) (cg rfl e) (by omega) rfl) ?_)))
  refine gqt rfl rfl rfl (fun e => fa (cg rfl e) rfl) (gqt rfl rfl rfl (fun e => ld (cg rfl e) (hc e.1) rfl) (gqt rfl rfl rfl (fun e => nei (cg rfl e) rfl rfl) (pka rfl rfl rfl rfl ?_)))
  refine mv rfl rfl (gqt rfl rfl rfl (fun e => mv rfl rfl) (gqt rfl rfl rfl (fun e => mv rfl rfl) (gqt rfl rfl rfl (fun e => ixs (cg rfl e) (cg rfl e) (by omega) rfl) ?_)))
  refine gqt rfl rfl rfl (fun e => fa (cg rfl e) rfl) (gqt rfl rfl rfl (fun e => ld (cg rfl e) (hc e.1.1) rfl) (gqt rfl rfl rfl (fun e => nei (cg rfl e) rfl rfl) ?_))
  refine pka rfl rfl rfl rfl (mv rfl rfl (gqt rfl rfl rfl (fun e => mv rfl rfl) (gqt rfl rfl rfl (fun e => mv rfl rfl) (gqt rfl rfl rfl (fun e => ixs (cg rfl e) (cg rfl e) (by omega) rfl) ?_))))
  refine gqt rfl rfl rfl (fun e => fa (cg rfl e) rfl) (gqt rfl rfl rfl (fun e => ld (cg rfl e) (hc e.1.1.1) rfl) (gqt rfl rfl rfl (fun e => nei (cg rfl e) rfl rfl) ?_))
  refine pka rfl rfl rfl rfl (asg rfl rfl ?_)
  refine o_nil ?_; refine x_seq ?_; refine c_ret ?_; refine ret1 (.inr rfl) rfl rfl ?_
  exact ⟨rfl, vtb (by unfold HoldsP HoldsF; simp only [and_assoc, ne_eq])⟩
/-- a record's bases, itself first; none: one is no record, or they are too many -/
def basesF (t : List Ty) : Nat → Nat → Option (List Nat)
  | 0, a => if (tyAt t a).base = 0 then some [a] else none
  | k + 1, a => if (tyAt t a).base = 0 then some [a] else
      if (0 ≤ (tyAt t a).base ∧ (tyAt t a).base < t.length) ∧ formOf t (tyAt t a).base = 9 then (basesF t k (tyAt t a).base.toNat).map (a :: ·) else none
theorem bases_zero {t : List Ty} {k a : Nat} (h : (tyAt t a).base = 0) : basesF t k a = some [a] := by
  cases k <;> simp [basesF, h]
theorem bases_bad {t : List Ty} {k a : Nat} (h : ¬ (tyAt t a).base = 0) (h2 : ¬ ((0 ≤ (tyAt t a).base ∧ (tyAt t a).base < t.length) ∧ formOf t (tyAt t a).base = 9) ∨ k = 0) : basesF t k a = none := by
  cases k with
  | zero => simp [basesF, h]
  | succ k => rw [basesF, if_neg h, if_neg (h2.resolve_right (by omega))]
theorem bases_more {t : List Ty} {k a : Nat} (h : ¬ (tyAt t a).base = 0) (h2 : (0 ≤ (tyAt t a).base ∧ (tyAt t a).base < t.length) ∧ formOf t (tyAt t a).base = 9) : basesF t (k + 1) a = (basesF t k (tyAt t a).base.toNat).map (a :: ·) := by
  rw [basesF, if_neg h, if_pos h2]
theorem bases_in {t : List Ty} : ∀ {k a : Nat} {l : List Nat}, a < t.length → basesF t k a = some l → ∀ b ∈ l, b < t.length
  | 0, a, l, ha, h, b, hb => by
    simp only [basesF] at h
    split at h
    · cases h; simp at hb; omega
    · cases h
  | k + 1, a, l, ha, h, b, hb => by
    simp only [basesF] at h
    split at h
    · cases h; simp at hb; omega
    · split at h
      · rename_i hc
        rw [Option.map_eq_some_iff] at h
        obtain ⟨l', hl', rfl⟩ := h
        rcases List.mem_cons.1 hb with rfl | hb
        · exact ha
        · exact bases_in (by omega) hl' b hb
      · cases h
def ncells (l : List Nat) : List Value := l.map (fun n : Nat => i64 (n : Int))
def BasesR (t : List Ty) (a : Nat) (v : Value) (h' : Heap) : Prop := match basesF t 5 a with
  | none => v = .tuple #[.slice none 0 0, .bool false]
  | some l => ∃ vl, v = .tuple #[vl, .bool true] ∧ Owns h' 3 1 vl l.length (ncells l)
theorem bases_fn {h : Heap} {vt : Value} {t : List Ty} (ht : TypesAt h.size h vt t) (a : Nat) (ha : a < t.length) (hin : ∀ x ∈ t, in64 x.base) : Does Tryz.prog 101 [vt, i64 (a : Int)] h (fun v h' => Ext h h' ∧ BasesR t a v h') := by
  obtain ⟨b, o, c, rfl, hb, hi⟩ := types_some ht (by omega)
  have htl := ht.1
  have hmx : maxLen = 9223372036854775807 := by decide
  have k0 : At h.size h h := At.refl (Nat.le_refl _)
  refine fn_enter (N := 42) Tryz.func101 (by kernel_rfl) rfl rfl rfl (fun w0 => ?_)
  refine c_seq ?_; refine c_reg ?_; refine asg rfl rfl (asg rfl rfl ?_)
  refine o_nil ?_; refine x_seq ?_; refine c_seq ?_; refine c_reg ?_
  refine mv rfl rfl (bsl (vs := [(0, i64 (a : Int))]) (cs := #[i64 (a : Int)]) (E := 3) rfl (fun _ => by kernel_rfl) nofun rfl (fun h1 n1 => ?_))
  have s1 : h1.size = h.size + 1 := n1.size
  have k_1 := k0.ext n1.ext
  refine asg rfl rfl ?_; refine o_nil ?_; refine x_seq ?_
  refine c_seq ?_; refine c_blk ?_
  refine c_loop (α := Nat × List Nat × Value × Heap) (fun s => [(0, .slice (some ⟨b, o, none⟩) t.length c), (1, i64 (s.1 : Nat)), (6, s.2.2.1)]) (fun s => s.2.2.2)
    (fun s => At h.size h s.2.2.2 ∧ s.1 < t.length ∧ s.2.1.length ≤ 5 ∧ basesF t 5 a = (basesF t (5 - s.2.1.length) s.1).map (s.2.1 ++ ·) ∧ Owns s.2.2.2 3 1 s.2.2.1 (s.2.1.length + 1) (ncells (s.2.1 ++ [s.1])) ∧ (∀ j, ownB s.2.2.1 j → h.size ≤ j))
    (fun s => 6 - s.2.1.length) (a, [], .slice (some ⟨h.size, 0, none⟩) 1 1, h1) ⟨k_1, ha, Nat.zero_le _, by simp, n1.owns (n := 1) rfl (by decide), fun j e => by have := ownB_eq e; omega⟩ ⟨rfl, rfl, rfl, trivial⟩ rfl (fun s hs => ?_)
  obtain ⟨q, pre, vl, g⟩ := s
  obtain ⟨kg, hq, hpl, hbs, hO, hOb⟩ := hs
  simp only at kg hq hpl hbs hO hOb
  have kgn := kg.n
  have hx : t[q]? = some (t[q]'hq) := List.getElem?_eq_getElem hq
  have hxm : t[q]'hq ∈ t := List.getElem_mem hq
  have hta := tyAt_of hx
  have hib := hin _ hxm
  generalize t[q]'hq = x at *
  obtain ⟨cs, -, hrow, -, vf, vp, rfl, -⟩ := hi q x hx
  have hc5 := kg.k.row hb hrow 5 _ rfl
  obtain ⟨al, cl', rfl⟩ := hO.form
  change SC _ _ _ _ g
  refine c_seq ?_; refine c_seq ?_; refine c_reg ?_
  refine mv rfl rfl (mv rfl rfl (ixs rfl rfl (by omega) rfl (fa rfl rfl (ld rfl hc5 rfl (nei rfl rfl rfl ?_)))))
  refine o_nil ?_; refine x_seq ?_; refine c_cond rfl (fun c2 => ?_) (fun c2 => ?_)
  · refine c_skip ?_; refine x_seq ?_; refine c_blk ?_; refine c_seq ?_; refine c_reg ?_
    refine mv rfl rfl (mv rfl rfl (ixs rfl rfl (by omega) rfl (fa rfl rfl (ld rfl hc5 rfl (asg rfl rfl ?_)))))
    refine o_nil ?_; refine x_seq ?_
    refine c_seq ?_; refine c_seq ?_; refine c_reg ?_
    refine mv rfl rfl (mv rfl rfl (clp ((place_fn _ _ _ _ _)) rfl rfl (nt rfl rfl (mv rfl rfl (gqf rfl rfl rfl (fun e => mv rfl rfl) (gqf rfl rfl rfl (fun e => mv rfl rfl) ?_))))))
    refine gqf rfl rfl rfl (fun e => ixs (cg rfl e) (cg rfl e) (by omega) rfl) (gqf rfl rfl rfl (fun e => fa (cg rfl e) rfl) (gqf rfl rfl rfl (fun e => ld (cg rfl e) (form_cell hi kg hb (Classical.not_not.1 e)) rfl) ?_))
    refine gqf rfl rfl rfl (fun e => nei (cg rfl e) rfl rfl) (pko rfl rfl rfl rfl (mv rfl rfl (gqf rfl rfl rfl (fun e => mv rfl rfl) (gqf rfl rfl rfl (fun e => lnl (cg rfl e) rfl) ?_))))
    refine gqf rfl rfl rfl (fun e => gti (cg rfl e) rfl rfl) (pko rfl rfl rfl rfl ?_)
    refine o_nil ?_; refine x_seq ?_; refine c_cond rfl (fun c3 => ?_) (fun c3 => ?_)
    · refine c_seq ?_; refine c_reg ?_; refine asg rfl rfl (asg rfl rfl ?_)
      refine o_nil ?_; refine x_seq ?_; refine c_ret ?_; refine x_seq_ret ?_; refine x_blk_ret ?_; refine x_loop_ret ?_; refine x_blk_ret ?_
      refine x_seq_ret ?_; refine ret2 (.inr rfl) rfl rfl rfl ?_
      refine ⟨(kg).toExt, ?_⟩
      have : basesF t (5 - pre.length) q = none := bases_bad (by rw [hta]; exact c2) (by rw [hta]; rcases c3 with (c | c) | c; exact .inl fun e => c e.1; exact .inl fun e => c e.2; exact .inr (by omega))
      rw [this] at hbs
      unfold BasesR
      rw [hbs]; rfl
    · have d1 : 0 ≤ x.base ∧ x.base < t.length := Classical.byContradiction fun e => c3 (.inl (.inl e))
      have d2 : formOf t x.base = 9 := Classical.byContradiction fun e => c3 (.inl (.inr e))
      have d3 : pre.length ≤ 4 := by have := fun e => c3 (.inr e); omega
      have hstep : basesF t (5 - pre.length) q = (basesF t (4 - pre.length) x.base.toNat).map (q :: ·) := by
       rw [show 5 - pre.length = (4 - pre.length) + 1 by omega, bases_more (by rw [hta]; exact c2) (by rw [hta]; exact ⟨d1, d2⟩), hta]
      rw [hstep, Option.map_map] at hbs
      refine c_skip ?_; refine x_seq ?_; refine c_reg ?_
      refine mv rfl rfl (mv rfl rfl (bsl (vs := [(0, i64 x.base)]) (cs := #[i64 x.base]) (E := 3) rfl (fun _ => by kernel_rfl) nofun rfl (fun h4 n4 => ?_)))
      have s4 : h4.size = g.size + 1 := n4.size
      have k_4 := kg.ext n4.ext
      refine app U_sl rfl rfl (hO.mod n4.ext (fun _ _ e => e)) (Src.slice rfl (row_blk n4.at_)) rfl (one_i _) (by omega) (by omega) nofun rfl (fun v5 h5 o5 m5 f5 => ?_)
      have s5 : h4.size ≤ h5.size := m5.size
      have k_5 := (k_4.mod m5 (fun j e => hOb j e))
      refine asg rfl rfl ?_; refine o_nil ?_; refine x_blk ?_
      refine x_loop (x.base.toNat, pre ++ [q], v5, h5) ⟨k_5, by simp only; omega, by simp only [List.length_append, List.length_singleton]; omega, ?_, ?_, fun j e => ?_⟩ (by simp only [List.length_append, List.length_singleton]; omega) ⟨rfl, congrArg some (vi (by simp only; omega)), rfl, trivial⟩ rfl
      · simp only [List.length_append, List.length_singleton]
        rw [hbs, show 5 - (pre.length + 1) = 4 - pre.length by omega]
        congr 1
        funext l
        simp
      · have e1 : ncells (pre ++ [q] ++ [x.base.toNat]) = ncells (pre ++ [q]) ++ [i64 x.base] := by
          simp only [ncells, List.map_append, List.map_cons, List.map_nil, Int.toNat_of_nonneg d1.1]
        simp only [List.length_append, List.length_singleton]
        rw [e1]; exact o5
      · rcases f5 j e with e | e
        · exact hOb j e
        · omega
  · have hb0 : (tyAt t q).base = 0 := by rw [hta]; exact Classical.not_not.1 c2
    rw [bases_zero hb0] at hbs
    refine c_exit ?_; refine x_seq_exit ?_; refine x_loop_exit ?_; refine x_blk_hit ?_; refine x_seq ?_; refine c_seq ?_; refine c_reg ?_
    refine mv rfl rfl (asg rfl rfl (asg rfl rfl ?_))
    refine o_nil ?_; refine x_seq ?_; refine c_ret ?_; refine ret2 (.inr rfl) rfl rfl rfl ?_
    refine ⟨(kg).toExt, ?_⟩
    unfold BasesR
    rw [hbs]
    exact ⟨_, rfl, by simpa using hO⟩
end

/-! The walk of the reference's record. No condition but what each theorem says. -/
section
open Go Go.Eng

theorem types_fits {N : Nat} {h : Heap} {vt : Value} {t : List Ty} (ht : TypesAt N h vt t) : ∀ x ∈ t, x.fits := by
  intro x hx
  obtain ⟨i, hi⟩ := List.mem_iff_getElem?.1 hx
  obtain ⟨-, a, c, -, hf⟩ := ht
  obtain ⟨b, o, cs, -, -, -, -, hR, -⟩ := hf i x hi
  exact hR
def namesT (t : List Ty) (l : List Nat) : List Bytes := l.flatMap (fun b => (tyAt t b).fields.map (·.name))
def FldR (t : List Ty) (f : Fld) : Prop := WordP f.name ∧ HoldsP t f.type
def RecP (t : List Ty) (a : Nat) : Prop := ∃ l, basesF t 5 a = some l ∧ l.length ≤ 5 ∧ (∀ b ∈ l, (tyAt t b).fields.length ≤ 64 ∧ ∀ f ∈ (tyAt t b).fields, FldR t f) ∧ (namesT t l).Nodup
theorem names_take {t : List Ty} {l : List Nat} {i b : Nat} (h : l[i]? = some b) : namesT t (l.take (i + 1)) = namesT t (l.take i) ++ (tyAt t b).fields.map (·.name) := by
  rw [List.take_add_one, h]; simp [namesT]
theorem names_split (t : List Ty) (l : List Nat) (i : Nat) : namesT t l = namesT t (l.take i) ++ namesT t (l.drop i) := by
  unfold namesT; rw [← List.flatMap_append, List.take_append_drop]
theorem bases_two {t : List Ty} {a : Nat} {v : Value} {h' : Heap} (h : BasesR t a v h') : ∃ av nl cv ok, v = .tuple #[.slice av nl cv, .bool ok] ∧ (ok = true → ∃ l, basesF t 5 a = some l ∧ nl = l.length ∧ Owns h' 3 1 (.slice av nl cv) nl (ncells l)) ∧ (ok = false → basesF t 5 a = none) := by
  unfold BasesR at h
  split at h
  · rename_i e
    exact ⟨none, 0, 0, false, h, nofun, fun _ => e⟩
  · rename_i l e
    obtain ⟨vl, rfl, hO⟩ := h
    obtain ⟨av, cv, rfl⟩ := hO.form
    exact ⟨av, l.length, cv, true, rfl, fun _ => ⟨l, e, rfl, hO⟩, nofun⟩

set_option maxHeartbeats 2000000 in
theorem record_fn {h : Heap} {vt : Value} {t : List Ty} (ht : TypesAt h.size h vt t) (a : Nat) (ha : a < t.length) : Does Tryz.prog 92 [vt, i64 (a : Int)] h (fun v h' => v = .bool (tb (RecP t a)) ∧ Ext h h') := by
  have ht0 := ht
  obtain ⟨b, o, c, rfl, hb, hi⟩ := types_some ht (by omega)
  have htl := ht.1
  have hmx : maxLen = 9223372036854775807 := by decide
  have hfits := types_fits ht0
  have k0 : At h.size h h := At.refl (Nat.le_refl _)
  have hxa : t[a]? = some (t[a]'ha) := List.getElem?_eq_getElem ha
  have htya := tyAt_of hxa
  generalize t[a]'ha = xa at *
  obtain ⟨csa, -, hrowa, -, vfa, vpa, rfl, hFa, -⟩ := hi a xa hxa
  obtain ⟨afa, cfa, rfl⟩ := hFa.form
  refine fn_enter (N := 90) Tryz.func92 (by kernel_rfl) rfl rfl rfl (fun w0 => ?_)
  refine c_seq ?_; refine c_reg ?_; refine asg rfl rfl ?_; refine o_nil ?_; refine x_seq ?_; refine c_seq ?_; refine c_reg ?_
  refine mv rfl rfl (mv rfl rfl (cl (vs := [.slice (some ⟨b, o, none⟩) t.length c, i64 (a : Int)]) rfl ((bases_fn ht0 a ha (fun x hx => (hfits x hx).2.2.2.2.2.1))) rfl (fun v1 h1 r1 => ?_)))
  obtain ⟨x1, r1⟩ := r1
  obtain ⟨av, nl, cv, ok, rfl, hok, hno⟩ := bases_two r1
  have s1 := x1.size
  have k_1 := (k0.ext x1)
  refine mv rfl rfl (ext rfl rfl rfl (ext rfl rfl rfl (asg rfl rfl (asg rfl rfl ?_))))
  refine o_nil ?_; refine x_seq ?_
  refine c_seq ?_; refine c_seq ?_; refine c_reg ?_
  refine mv rfl rfl (nt rfl rfl (mv rfl rfl (gqf rfl rfl rfl (fun e => mv rfl rfl) (gqf rfl rfl rfl (fun e => lnl (cg rfl e) rfl) (gqf rfl rfl rfl (fun e => gti (cg rfl e) rfl rfl) ?_)))))
  refine pko rfl rfl rfl rfl (mv rfl rfl (gqf rfl rfl rfl (fun e => mv rfl rfl) (gqf rfl rfl rfl (fun e => mv rfl rfl) (gqf rfl rfl rfl (fun e => ixs (cg rfl e) (cg rfl e) (by omega) rfl) ?_))))
  refine gqf rfl rfl rfl (fun e => fa (cg rfl e) rfl) (gqf rfl rfl rfl (fun e => ld (cg rfl e) (k_1.k.row hb hrowa 6 _ rfl) rfl) (gqf rfl rfl rfl (fun e => lnl (cg rfl e) rfl) ?_))
  refine gqf rfl rfl rfl (fun e => gti (cg rfl e) rfl rfl) (pko rfl rfl rfl rfl ?_)
  refine o_nil ?_; refine x_seq ?_; refine c_cond rfl (fun c2 => ?_) (fun c2 => ?_)
  · refine c_seq ?_; refine c_reg ?_; refine asg rfl rfl ?_; refine o_nil ?_; refine x_seq ?_; refine c_ret ?_; refine x_seq_ret ?_
    refine ret1 (.inr rfl) rfl rfl ?_
    refine ⟨congrArg Value.bool (tb_f (fun hs => ?_)).symm, (k_1).toExt⟩
    obtain ⟨l, e1, e2, e3, -⟩ := hs
    rcases c2 with (d | d) | d
    · rw [hno (by simpa using d)] at e1; cases e1
    · cases hk : ok with
      | false => rw [hno hk] at e1; cases e1
      | true =>
        obtain ⟨l2, f1, f2, -⟩ := hok hk
        rw [f1] at e1; cases e1; omega
    · have hal : a ∈ l := by
        have : (tyAt t a).base = 0 ∨ ¬ (tyAt t a).base = 0 := Classical.em _
        unfold basesF at e1
        split at e1
        · cases e1; simp
        · split at e1
          · rw [Option.map_eq_some_iff] at e1; obtain ⟨l', -, rfl⟩ := e1; simp
          · cases e1
      have := (e3 a hal).1
      rw [htya] at this; omega
  · have hok1 : ok = true := Classical.byContradiction fun e => c2 (.inl (.inl e))
    obtain ⟨l, hl1, rfl, hO⟩ := hok hok1
    have hl5 : l.length ≤ 5 := by have := fun e => c2 (.inl (.inr e)); omega
    have hlin := bases_in ha hl1
    have hRec : RecP t a ↔ ((∀ b ∈ l, (tyAt t b).fields.length ≤ 64 ∧ ∀ f ∈ (tyAt t b).fields, FldR t f) ∧ (namesT t l).Nodup) := ⟨fun ⟨l', e1, _, e3⟩ => by rw [hl1] at e1; cases e1; exact e3, fun e => ⟨l, hl1, hl5, e⟩⟩
    refine c_skip ?_; refine x_seq ?_; refine c_seq ?_; refine c_reg ?_; refine mkm nofun rfl (fun h3 n3 => ?_)
    have s3 : h3.size = h1.size + 1 := n3.size
    have k_3 := k_1.ext n3.ext
    have M33_3 : MapIs Tryz.prog 9 h3 h1.size _ := map_new n3
    refine asg rfl rfl ?_; refine o_nil ?_; refine x_seq ?_
    refine c_seq ?_; refine c_seq ?_; refine c_reg ?_; refine asg rfl rfl ?_; refine o_nil ?_; refine x_seq ?_; refine c_blk ?_
    refine c_loop (α := Nat × Heap) (fun s => [(0, .slice (some ⟨b, o, none⟩) t.length c), (5, .slice av l.length cv), (7, .map (some h1.size)), (8, i64 (s.1 : Nat))]) (fun s => s.2)
      (fun s => At h.size h s.2 ∧ Owns s.2 3 1 (.slice av l.length cv) l.length (ncells l) ∧ h1.size < s.2.size ∧ s.1 ≤ l.length ∧ MapIs Tryz.prog 9 s.2 h1.size (seenV ((namesT t (l.take s.1)).map str)) ∧ (namesT t (l.take s.1)).Nodup ∧ upTo l (fun b => (tyAt t b).fields.length ≤ 64 ∧ ∀ f ∈ (tyAt t b).fields, FldR t f) s.1)
      (fun s => l.length - s.1) (0, h3) ⟨k_3, hO.mod n3.ext (fun _ _ e => e), by simp only; omega, Nat.zero_le _, M33_3, .nil, upTo_zero _ _⟩ ⟨rfl, rfl, rfl, rfl, trivial⟩ rfl (fun s hs => ?_)
    obtain ⟨i, g⟩ := s
    obtain ⟨kg, hOg, hgs, hil, hM, hnd, hup⟩ := hs
    simp only at kg hOg hgs hil hM hnd hup
    have kgn := kg.n
    change SC _ _ _ _ g
    refine c_seq ?_; refine c_seq ?_; refine c_reg ?_; refine mv rfl rfl (mv rfl rfl (lnl rfl rfl (lti rfl rfl rfl ?_)))
    refine o_nil ?_; refine x_seq ?_; refine c_cond rfl (fun c4 => ?_) (fun c4 => ?_)
    · have hlt : i < l.length := by have := c4; simp only at this; omega
      have hbi : l[i]? = some l[i] := List.getElem?_eq_getElem hlt
      have hbt := hlin _ (List.getElem_mem hlt)
      have htk := names_take (t := t) hbi
      have hsp := names_split t l (i + 1)
      obtain ⟨bo, co, hsl, hro⟩ := hOg.some (by omega)
      cases hsl
      generalize l[i] = q at *
      have hcq : cellAt g bo (0 + i * 1) = some (i64 (q : Int)) := by
       have := hro i (i64 (q : Int)) (by simp only [ncells, List.getElem?_map, hbi]; rfl)
       rw [Nat.mul_one]; exact this
      have hx : t[q]? = some (t[q]'hbt) := List.getElem?_eq_getElem hbt
      have hty := tyAt_of hx
      rw [hty] at htk
      generalize t[q]'hbt = x at *
      obtain ⟨cs, -, hrow, -, vf, vp, rfl, hF, -⟩ := hi q x hx
      have hF0 := hF
      obtain ⟨af, cf, rfl⟩ := hF.form
      have hFl := hF.1
      refine c_skip ?_; refine x_seq ?_
      refine c_seq ?_; refine c_blk ?_; refine c_seq ?_; refine c_reg ?_
      refine mv rfl rfl (mv rfl rfl (mv rfl rfl (ixs rfl rfl (by omega) rfl (ld rfl hcq rfl (ixs rfl rfl (by omega) rfl (fa rfl rfl (ld rfl (kg.k.row hb hrow 6 _ rfl) rfl ?_)))))))
      refine asg rfl rfl ?_; refine o_nil ?_; refine x_seq ?_
      refine c_seq ?_; refine c_seq ?_; refine c_reg ?_; refine mv rfl rfl (lnl rfl rfl (gti rfl rfl rfl ?_))
      refine o_nil ?_; refine x_seq ?_; refine c_cond rfl (fun c5 => ?_) (fun c5 => ?_)
      · refine c_seq ?_; refine c_reg ?_; refine asg rfl rfl ?_; refine o_nil ?_; refine x_seq ?_; refine c_ret ?_; refine x_seq_ret ?_
        refine x_blk_ret ?_; refine x_seq_ret ?_; refine x_loop_ret ?_; refine x_blk_ret ?_; refine x_seq_ret ?_; refine ret1 (.inr rfl) rfl rfl ?_
        refine ⟨congrArg Value.bool (tb_f (fun hs => ?_)).symm, (kg).toExt⟩
        have := ((hRec.1 hs).1 q (List.mem_of_getElem? hbi)).1
        rw [hty] at this; omega
      · have h64 : x.fields.length ≤ 64 := by omega
        refine c_skip ?_; refine x_seq ?_; refine c_seq ?_; refine c_reg ?_; refine asg rfl rfl ?_; refine o_nil ?_; refine x_seq ?_; refine c_blk ?_
        refine c_loop (α := Nat × Heap) (fun s => [(0, .slice (some ⟨b, o, none⟩) t.length c), (5, .slice (some ⟨bo, 0, none⟩) l.length cv), (7, .map (some h1.size)), (8, i64 (i : Nat)), (9, .slice af x.fields.length cf), (10, i64 (s.1 : Nat))]) (fun s => s.2)
          (fun s => At h.size h s.2 ∧ Owns s.2 3 1 (.slice (some ⟨bo, 0, none⟩) l.length cv) l.length (ncells l) ∧ h1.size < s.2.size ∧ s.1 ≤ x.fields.length ∧ MapIs Tryz.prog 9 s.2 h1.size (seenV ((namesT t (l.take i) ++ (x.fields.take s.1).map (·.name)).map str)) ∧ (namesT t (l.take i) ++ (x.fields.take s.1).map (·.name)).Nodup ∧ upTo x.fields (FldR t) s.1)
          (fun s => x.fields.length - s.1) (0, g) ⟨kg, hOg, hgs, Nat.zero_le _, by simpa using hM, by simpa using hnd, upTo_zero _ _⟩ ⟨rfl, rfl, rfl, rfl, rfl, rfl, trivial⟩ rfl (fun s hs => ?_)
        obtain ⟨k, g2⟩ := s
        obtain ⟨kg2, hOg2, hgs2, hkl, hM2, hnd2, hup2⟩ := hs
        simp only at kg2 hOg2 hgs2 hkl hM2 hnd2 hup2
        have kgn2 := kg2.n
        change SC _ _ _ _ g2
        refine c_seq ?_; refine c_seq ?_; refine c_reg ?_; refine mv rfl rfl (mv rfl rfl (lnl rfl rfl (lti rfl rfl rfl ?_)))
        refine o_nil ?_; refine x_seq ?_; refine c_cond rfl (fun c6 => ?_) (fun c6 => ?_)
        · have hlt2 : k < x.fields.length := by have := c6; simp only at this; omega
          have hfi : x.fields[k]? = some x.fields[k] := List.getElem?_eq_getElem hlt2
          have htk2 := take_map (·.name) hfi
          have hpre : ∃ r, namesT t l = (namesT t (l.take i) ++ (x.fields.take k).map (·.name)) ++ [x.fields[k].name] ++ r := ⟨(x.fields.drop (k + 1)).map (·.name) ++ namesT t (l.drop (i + 1)), by rw [hsp, htk, split_map (·.name) hfi]; simp only [List.append_assoc]⟩
          obtain ⟨b2, o2, cs2, ha2, hb2, hl2, hr2, hcs2, hfl2⟩ := hF0.el kg2 hfi
          generalize x.fields[k] = f at *
          subst hcs2
          subst ha2
          have hsl := seenV_le ((namesT t (l.take i) ++ (x.fields.take k).map (·.name)).map str) (str f.name)
          refine c_skip ?_; refine x_seq ?_
          refine c_seq ?_; refine c_blk ?_
          refine c_seq ?_; refine c_seq ?_; refine c_reg ?_
          refine mv rfl rfl (mv rfl rfl (mv rfl rfl (ixs rfl rfl (by omega) rfl (fa rfl rfl (ld rfl (hr2 0 _ rfl) rfl (lk (key := str f.name) rfl rfl (keys hfl2.1) hM2 rfl (gti rfl rfl rfl ?_)))))))
          refine mv rfl rfl (gqf rfl rfl rfl (fun e => mv rfl rfl) (gqf rfl rfl rfl (fun e => mv rfl rfl) (gqf rfl rfl rfl (fun e => ixs (cg rfl e) (cg rfl e) (by omega) rfl) ?_)))
          refine gqf rfl rfl rfl (fun e => fa (cg rfl e) rfl) (gqf rfl rfl rfl (fun e => ld (cg rfl e) (hr2 0 _ rfl) rfl) (gqf rfl rfl rfl (fun e => clp (word13_fn _ _) (a1 (cg rfl e)) rfl) ?_))
          refine gqf rfl rfl rfl (fun e => nt (cg rfl e) rfl) (pko rfl rfl rfl rfl (mv rfl rfl (gqf rfl rfl rfl (fun e => mv rfl rfl) (gqf rfl rfl rfl (fun e => mv rfl rfl) ?_))))
          refine gqf rfl rfl rfl (fun e => mv rfl rfl) (gqf rfl rfl rfl (fun e => ixs (cg rfl e) (cg rfl e) (by omega) rfl) (gqf rfl rfl rfl (fun e => fa (cg rfl e) rfl) ?_))
          refine gqf rfl rfl rfl (fun e => ld (cg rfl e) (hr2 2 _ rfl) rfl) (gqf rfl rfl rfl (fun e => clp ((holds_fn ht0 kg2 (by omega) _)) (a2 (cg rfl e) (cg rfl e)) rfl) ?_)
          refine gqf rfl rfl rfl (fun e => nt (cg rfl e) rfl) (pko rfl rfl rfl rfl ?_)
          refine o_nil ?_; refine x_seq ?_; refine c_cond rfl (fun c7 => ?_) (fun c7 => ?_)
          · refine c_seq ?_; refine c_reg ?_; refine asg rfl rfl ?_; refine o_nil ?_; refine x_seq ?_; refine c_ret ?_; refine x_seq_ret ?_
            refine x_blk_ret ?_; refine x_seq_ret ?_; refine x_loop_ret ?_; refine x_blk_ret ?_; refine x_blk_ret ?_; refine x_seq_ret ?_
            refine x_loop_ret ?_; refine x_blk_ret ?_; refine x_seq_ret ?_; refine ret1 (.inr rfl) rfl rfl ?_
            refine ⟨congrArg Value.bool (tb_f (fun hs => ?_)).symm, (kg2).toExt⟩
            obtain ⟨e1, e2⟩ := hRec.1 hs
            have e1 := (e1 q (List.mem_of_getElem? hbi)).2
            rw [hty] at e1
            have e1 := e1 f (List.mem_of_getElem? hfi)
            rcases c7 with (d | d) | d
            · have hin := seenV_pos.1 (show 0 < seenV ((namesT t (l.take i) ++ (x.fields.take k).map (·.name)).map str) (str f.name) from d)
              obtain ⟨r, hr⟩ := hpre
              rw [hr] at e2
              exact nodup_out e2 (str_mem.1 hin)
            · exact d e1.1
            · exact d e1.2
          · have hout : ¬ str f.name ∈ (namesT t (l.take i) ++ (x.fields.take k).map (·.name)).map str := fun e => c7 (.inl (.inl (seenV_pos.2 e)))
            have hfok : FldR t f := ⟨Classical.byContradiction fun e => c7 (.inl (.inr e)), Classical.byContradiction fun e => c7 (.inr e)⟩
            refine c_skip ?_; refine x_seq ?_; refine c_reg ?_
            refine mv rfl rfl (mv rfl rfl (mv rfl rfl (ixs rfl rfl (by omega) rfl (fa rfl rfl (ld rfl (hr2 0 _ rfl) rfl (mup rfl rfl (keys hfl2.1) rfl hM2 nofun (fun h8 m8 x8 => ?_)))))))
            rw [seenV_upd] at m8
            have s8 : g2.size ≤ h8.size := x8.size
            have k_8 := kg2.mod x8 (fun k e => by have := e; omega)
            have hM2_8 := m8
            refine o_nil ?_; refine x_blk ?_; refine x_seq ?_; refine c_reg ?_; refine mv rfl rfl (add rfl rfl (by omega) rfl (asg rfl rfl ?_))
            refine o_nil ?_
            refine x_loop (k + 1, h8) ⟨k_8, hOg2.mod x8 (fun j hj e => by have e2 : j = h1.size := e; have := hO.lt j hj; omega), by simp only; omega, hlt2, ?_, ?_, (upTo_succ hfi).2 ⟨hup2, hfok⟩⟩ (by simp only; omega) ⟨rfl, rfl, rfl, rfl, rfl, rfl, trivial⟩ rfl
            · simp only; rw [htk2, ← List.append_assoc, List.map_append]; exact m8
            · simp only; rw [htk2, ← List.append_assoc]; exact nodup_snoc hnd2 (fun e => hout (str_mem.2 e))
        · have hk : k = x.fields.length := by have := c6; simp only at this; omega
          subst hk
          rw [List.take_length] at hM2 hnd2
          refine c_exit ?_; refine x_seq_exit ?_; refine x_loop_exit ?_; refine x_blk_hit ?_; refine x_blk ?_; refine x_seq ?_; refine c_reg ?_
          refine mv rfl rfl (add rfl rfl (by omega) rfl (asg rfl rfl ?_))
          refine o_nil ?_
          refine x_loop (i + 1, g2) ⟨kg2, hOg2, hgs2, hlt, by simp only; rw [htk]; exact hM2, by simp only; rw [htk]; exact hnd2, (upTo_succ hbi).2 ⟨hup, by rw [hty]; exact ⟨h64, upTo_all.1 hup2⟩⟩⟩ (by simp only; omega) ⟨rfl, rfl, rfl, rfl, trivial⟩ rfl
    · have hi' : i = l.length := by have := c4; simp only at this; omega
      subst hi'
      rw [List.take_length] at hnd
      refine c_exit ?_; refine x_seq_exit ?_; refine x_loop_exit ?_; refine x_blk_hit ?_; refine x_seq ?_; refine c_seq ?_; refine c_reg ?_
      refine asg rfl rfl ?_; refine o_nil ?_; refine x_seq ?_; refine c_ret ?_; refine ret1 (.inr rfl) rfl rfl ?_
      exact ⟨congrArg Value.bool (tb_t (hRec.2 ⟨upTo_all.1 hup, hnd⟩)).symm, (kg).toExt⟩
end
end Go.Proofs.YtgnkfegkdjfnjaaGreat
