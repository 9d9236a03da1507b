/- The walks of the keys, and of what wakes the symbol files' laws. No condition but what each theorem says. -/
import Derived.Test.YtgnkfegkdjfnjaaGreatSyp6
namespace Go.Proofs.YtgnkfegkdjfnjaaGreat
open Go Go.Eng

theorem ownS_cap {α : Type} {h : Heap} {E sz n c : Nat} {R : α → List Value → Prop} {a : Option Addr} {xs : List α} (o : OwnS h E sz R (.slice a n c) xs) : xs.length ≤ c := by
  obtain ⟨css, o, -⟩ := o
  rcases o.2 with ⟨e, hn⟩ | ⟨g, cap, cur, e, -, h1, -⟩
  · omega
  · cases e; exact h1
theorem FaceN.cap {N : Nat} {h : Heap} {v : Value} {f : Face} (a : FaceN N h v f) : CapT v f := by
  obtain ⟨vu, vt, vo, rfl, hT, -⟩ := a
  intro _ _ _ _ _ _ e
  cases e
  exact ownS_cap hT.own
def hstep (k : Int) (c : UInt8) : Int := IntKind.u32.wrap (bits2 .xor .u32 k (IntKind.u32.wrap c.toNat) * 16777619)
def hashB (s : Bytes) : Int := max (s.foldl hstep 2166136261) 1
theorem hash_pos (s : Bytes) : 1 ≤ hashB s := Int.le_max_right _ _
theorem foldl_take {s : Bytes} {i : Nat} {c : UInt8} (h : s[i]? = some c) (k : Int) : (s.take (i + 1)).foldl hstep k = hstep ((s.take i).foldl hstep k) c := by
  rw [List.take_add_one, h, List.foldl_append]; rfl
/-- what an interface's key answers -/
def KeyR (f : Face) (k e : Int) : Prop := ∃ s e', EncR { f with key := 0 } s e' ∧ ((e' ≠ 0 ∧ k = 0 ∧ e = e') ∨ (e' = 0 ∧ k = hashB s ∧ e = 0))
theorem enc_short {f : Face} {s : Bytes} {e : Int} (h : EncR f s e) : s.length ≤ 131072 := by
  rcases h with ⟨-, rfl, -⟩ | ⟨-, rfl, -⟩
  · unfold outB; split
    · simp
    · split
      · simp
      · omega
  · simp
theorem key_fn {h : Heap} {fv : Value} {f : Face} (hF : FaceV h.size h fv f) (hc : CapT fv f) : Does Tryz.prog 10 [fv] h (fun v h' => ∃ k e, v = .tuple #[.int .u32 k, i64 e] ∧ KeyR f k e ∧ Ext h h') := by
  have hmx : maxLen = 9223372036854775807 := by decide
  have k0 : At h.size h h := At.refl (Nat.le_refl _)
  obtain ⟨vu, vt, vo, rfl, hn, hk, hU, hT, hO⟩ := hF
  have hU0 := hU
  have hT0 := hT
  have hO0 := hO
  obtain ⟨au, cu, rfl⟩ := hU.form
  obtain ⟨at0, ct0, rfl⟩ := SliceAt.form hT
  obtain ⟨ao, co, rfl⟩ := hO.form
  have hcap := hc _ _ _ _ _ _ rfl
  have hF1 : FaceV h.size h (faceC { f with key := 0 } au cu at0 ct0 ao co) { f with key := 0 } := ⟨_, _, _, rfl, hn, (show inU32 0 by unfold inU32; decide), hU0, hT0, hO0⟩
  refine fn_enter (N := 32) Tryz.func10 (by kernel_rfl) rfl rfl rfl (fun w0 => ?_)
  refine c_seq ?_; refine c_reg ?_; refine bx rfl nofun rfl (fun h1 n1 => ?_)
  have s1 : h1.size = h.size + 1 := n1.size
  have k_1 := k0.ext n1.ext
  have b1_1 := n1.at_
  refine asg rfl rfl (asg rfl rfl ?_)
  refine o_nil ?_; refine x_seq ?_; refine c_seq ?_; refine c_reg ?_; refine fa rfl rfl (st rfl rfl rfl b1_1 rfl nofun (fun h2 u2 => ?_))
  have s2 : h2.size = h1.size := u2.size
  have k_2 := k_1.upd u2 (by omega)
  have b1_2 := u2.at_
  refine o_nil ?_; refine x_seq ?_; refine c_seq ?_; refine c_reg ?_
  refine ldn rfl rfl (row_blk b1_2) rfl (cl (vs := [faceC { f with key := 0 } au cu at0 ct0 ao co]) rfl ((encode_fn (f := { f with key := 0 }) (FaceV.up hF1 k_2) (fun _ _ _ _ _ _ e => by cases e; exact hcap))) rfl (fun v3 h3 r3 => ?_))
  obtain ⟨s, e, rfl, hE, x3⟩ := r3
  have hsl := enc_short hE
  have k_3 := (k_2.ext x3)
  have b1_3 := (x3.get b1_2)
  refine mv rfl rfl (ext rfl rfl rfl (ext rfl rfl rfl (asg rfl rfl (asg rfl rfl ?_))))
  refine o_nil ?_; refine x_seq ?_
  refine c_seq ?_; refine c_seq ?_; refine c_reg ?_; refine mv rfl rfl (nei rfl rfl rfl ?_)
  refine o_nil ?_; refine x_seq ?_; refine c_cond rfl (fun c4 => ?_) (fun c4 => ?_)
  · refine c_seq ?_; refine c_reg ?_; refine mv rfl rfl (asg rfl rfl (asg rfl rfl ?_))
    refine o_nil ?_; refine x_seq ?_; refine c_ret ?_; refine x_seq_ret ?_; refine ret2 (.inr rfl) rfl rfl rfl ?_
    exact ⟨_, _, rfl, ⟨s, e, hE, .inl ⟨c4, rfl, rfl⟩⟩, (k_3).toExt⟩
  · have c4 : e = 0 := Classical.not_not.1 c4
    refine c_skip ?_; refine x_seq ?_; refine c_seq ?_; refine c_reg ?_; refine asg rfl rfl ?_; refine o_nil ?_; refine x_seq ?_
    refine c_seq ?_; refine c_seq ?_; refine c_reg ?_; refine mv rfl rfl (lns rfl rfl (mv rfl rfl ?_))
    refine o_nil ?_; refine x_seq ?_; refine c_blk ?_
    refine c_loop (α := Nat) (fun i => [(4, str s), (6, .int .u32 ((s.take i).foldl hstep 2166136261)), (18, i64 (s.length : Nat)), (19, i64 (i : Nat))]) (fun _ => h3) (fun i => i ≤ s.length) (fun i => s.length - i) 0 (Nat.zero_le _) ⟨rfl, rfl, rfl, rfl, trivial⟩ rfl (fun i hi => ?_)
    change SC _ _ _ _ h3
    refine c_seq ?_; refine c_reg ?_; refine lti rfl rfl rfl ?_; refine o_nil ?_; refine x_seq ?_
    refine c_seq ?_; refine c_cond rfl (fun c5 => ?_) (fun c5 => ?_)
    · have hlt : i < s.length := by omega
      obtain ⟨ch, hch⟩ : ∃ ch, s[i]? = some ch := ⟨_, List.getElem?_eq_getElem hlt⟩
      refine c_skip ?_; refine x_seq ?_
      refine c_seq ?_; refine c_blk ?_; refine c_seq ?_; refine c_reg ?_; refine mv rfl rfl (asg rfl rfl ?_)
      refine o_nil ?_; refine x_seq ?_; refine c_reg ?_
      refine mv rfl rfl (mv rfl rfl (mv rfl rfl (idx rfl rfl (by omega) hch rfl (cvi rfl rfl (bit (by decide) rfl rfl rfl (mulw rfl rfl rfl (asg rfl rfl ?_)))))))
      refine o_nil ?_; refine x_blk ?_; refine x_seq ?_; refine c_reg ?_; refine add rfl rfl (by omega) rfl (mv rfl rfl ?_)
      refine o_nil ?_
      exact x_loop (i + 1) hlt (by omega) ⟨rfl, congrArg (fun n => some (Value.int .u32 n)) (foldl_take hch _).symm, rfl, rfl, trivial⟩ rfl
    · have hin : i = s.length := by omega
      subst hin
      refine c_exit ?_; refine x_seq_exit ?_; refine x_loop_exit ?_; refine x_blk_hit ?_; refine x_seq ?_; refine c_seq ?_; refine c_reg ?_
      refine mv rfl rfl (max2 rfl rfl rfl (asg rfl rfl (asg rfl rfl ?_)))
      refine o_nil ?_; refine x_seq ?_; refine c_ret ?_; refine ret2 (.inr rfl) rfl rfl rfl ?_
      exact ⟨_, _, rfl, ⟨s, e, hE, .inr ⟨c4, by unfold hashB; rw [List.take_length], rfl⟩⟩, (k_3).toExt⟩
set_option maxHeartbeats 2000000 in
theorem plainC_fn {h : Heap} : Does Tryz.prog 11 [] h (fun v h' => FaceV h'.size h' v plainF ∧ Ext h h' ∧ CapT v plainF) := by
  have hmx : maxLen = 9223372036854775807 := by decide
  have k0 : At h.size h h := At.refl (Nat.le_refl _)
  refine fn_enter (N := 11) Tryz.func11 (by kernel_rfl) rfl rfl rfl (fun w0 => ?_)
  refine c_seq ?_; refine c_reg ?_; refine alc nofun rfl (fun h1 n1 => ?_)
  have s1 : h1.size = h.size + 1 := n1.size
  have k_1 := k0.ext n1.ext
  have b0_1 := n1.at_
  refine o_nil ?_; refine x_seq ?_; refine c_seq ?_; refine c_reg ?_; refine cl (vs := []) rfl (basic13_fn) rfl (fun v2 h2 r2 => ?_)
  obtain ⟨hB, x2, l2⟩ := r2
  have z2 := x2.size
  have k_2 := (k_1.ext x2)
  have b0_2 := (x2.get b0_1)
  refine bld (vs := [(0, i64 7), (3, i64 2), (4, i64 1)]) (v := .agg (tyCells (arrTy 2) (.slice none 0 0) (.slice none 0 0)).toArray) rfl (fun _ => by kernel_rfl) rfl ?_
  refine bld (vs := [(0, i64 7), (3, i64 3), (4, i64 1)]) (v := .agg (tyCells (arrTy 3) (.slice none 0 0) (.slice none 0 0)).toArray) rfl (fun _ => by kernel_rfl) rfl ?_
  refine bsl (vs := [(0, .agg (tyCells (arrTy 2) (.slice none 0 0) (.slice none 0 0)).toArray), (1, .agg (tyCells (arrTy 3) (.slice none 0 0) (.slice none 0 0)).toArray)]) (cs := (tyCells (arrTy 2) (.slice none 0 0) (.slice none 0 0) ++ tyCells (arrTy 3) (.slice none 0 0) (.slice none 0 0)).toArray) (E := 52) rfl (fun _ => by kernel_rfl) nofun rfl (fun h3 n3 => ?_)
  have T2 := basic_own (B := fun b => h1.size ≤ b) hB l2
  obtain ⟨css, hOw, q1, q2, q3⟩ := T2.own
  have s3 : h3.size = h2.size + 1 := n3.size
  have k_3 := k_2.ext n3.ext
  have b0_3 := n3.ext.get b0_2
  refine app U_sl rfl rfl (hOw.mod n3.ext (fun _ _ e => e)) (Src.slice (size := 10) (m := 2) rfl (row_blk n3.at_)) rfl (ones rfl) (by rw [show basic.length = 7 from rfl]; omega) (by rw [show basic.length = 7 from rfl]; omega) nofun rfl (fun v4 h4 o4 m4 f4 => ?_)
  obtain ⟨a4, c4, rfl⟩ := o4.form
  have s4 : h3.size ≤ h4.size := m4.size
  have k_4 := (k_3.mod m4 (fun b e => by have := l2 b e; omega))
  have b0_4 := (m4.get b0_3 (fun e => by have := l2 _ e; omega))
  refine asg rfl rfl ?_; refine o_nil ?_; refine x_seq ?_; refine c_seq ?_; refine c_reg ?_
  refine mv rfl rfl (bld (vs := [(0, i64 3), (1, str [120]), (2, i64 8)]) (v := objV (plainOb 8)) rfl (fun _ => by kernel_rfl) rfl (bsl (vs := [(0, objV (plainOb 8))]) (cs := #[i64 3, str [120], i64 8, i64 0, i64 0, str [], i64 0]) (E := 58) rfl (fun _ => by kernel_rfl) nofun rfl (fun h5 n5 => ?_)))
  have s5 : h5.size = h4.size + 1 := n5.size
  have k_5 := k_4.ext n5.ext
  have b0_5 := n5.ext.get b0_4
  refine bld (vs := [(0, str [65]), (3, .slice a4 (basic.length + 2) c4), (4, .slice (some ⟨h4.size, 0, none⟩) 1 1)]) (v := .agg #[str [65], .int .u32 0, .slice none 0 0, .slice a4 (basic.length + 2) c4, .slice (some ⟨h4.size, 0, none⟩) 1 1]) rfl (fun _ => by kernel_rfl) rfl ?_
  refine stw rfl rfl rfl (ones rfl) b0_5 rfl nofun (fun h6 u6 => ?_)
  have s6 : h6.size = h5.size := u6.size
  have k_6 := k_5.upd u6 (by omega)
  have b0_6 := u6.at_
  refine o_nil ?_; refine x_seq ?_; refine c_ret ?_; refine retc1 (.inr rfl) rfl rfl rfl (row_blk b0_6) ?_
  have o4' : Owns h4 52 10 (.slice a4 (basic.length + 2) c4) (basic.length + [arrTy 2, arrTy 3].length) (css.flatten ++ [tyCells (arrTy 2) (.slice none 0 0) (.slice none 0 0), tyCells (arrTy 3) (.slice none 0 0) (.slice none 0 0)].flatten) := o4
  have T4 : OwnS h4 52 10 (TyB (fun b => h1.size ≤ b) h4) (.slice a4 (basic.length + 2) c4) plainF.types := OwnS.app q1 q2 (fun i x cs hx hc => ((q3 i x cs hx hc).mod n3.ext (B' := fun b => ¬ ownB _ b ∧ h1.size ≤ b) (fun b _ e => ⟨fun e => e, e⟩)).mod m4 (fun b _ e => ⟨e.1, e.2⟩)) rfl (by intro c hc; simp at hc; rcases hc with rfl | rfl <;> rfl) (fun i x cs hx hc => by
   match i, hx, hc with
   | 0, hx, hc => cases hx; cases hc; exact arr_ty _ (by decide)
   | 1, hx, hc => cases hx; cases hc; exact arr_ty _ (by decide)) o4'
  have hl4 : ∀ b, ownB (.slice a4 (basic.length + 2) c4) b → h1.size ≤ b ∧ b < h4.size := fun b e => ⟨(f4 b e).elim (l2 b) (fun e => by omega), o4.lt b e⟩
  have T6 : TypesAt h6.size h6 (.slice a4 (basic.length + 2) c4) plainF.types := OwnS.at_ (R := tyR h6.size) (OwnS.mono (OwnS.mono T4 n5.ext (fun _ _ e => e) (R' := TyB (fun b => h1.size ≤ b) h5) (fun _ _ r => r.mod n5.ext (fun b _ e => ⟨fun e => e, e⟩))) u6.mod (fun k e e' => by have e' : k = h.size := e'; have := hl4 k e; omega) (fun _ _ r => (r.mod u6.mod (B' := fun b => h1.size ≤ b) (fun b _ e => ⟨fun e' => by have e' : b = h.size := e'; omega, e⟩)).at_)) (by decide) (fun k e => by have := hl4 k e; omega)
  refine ⟨⟨_, _, _, rfl, by decide, by unfold inU32 plainF; decide, ⟨by decide, none, 0, rfl, fun i x e => by simp [plainF] at e⟩, T6, ⟨by decide, _, _, rfl, fun i x e => ?_⟩⟩, (k_6).toExt, fun _ _ _ _ _ _ e => by cases e; exact ownS_cap T4⟩
  have hi : i = 0 := by have := (List.getElem?_eq_some_iff.1 e).1; simp [plainF] at this; omega
  subst hi
  cases e
  exact ⟨_, 0, _, rfl, by omega, rfl, u6.mod.row (row_blk n5.at_) (fun e => by have e : h4.size = h.size := e; omega), ⟨rfl, by decide, by decide, by unfold in64; decide, by unfold in64; decide, in0, in0, in0⟩⟩
end Go.Proofs.YtgnkfegkdjfnjaaGreat
