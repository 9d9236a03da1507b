/- The walk of the trim. The interface by which the laws wake: plain. The walks of what wakes. An interface, handed in. No condition but what each theorem says. -/
import Derived.Test.YtgnkfegkdjfnjaaGreatIgj
import Derived.Test.YtgnkfegkdjfnjaaGreatIgd
import Derived.Test.YtgnkfegkdjfnjaaGreatEng15
namespace Go.Proofs.YtgnkfegkdjfnjaaGreat
/-! The walk of the trim. No condition but what each theorem says. -/
section
open Go Go.Eng

def zeroF : Face := ⟨[], 0, [], [], []⟩
def TrimOk (f : Face) : Prop := (ShapedP f ∧ ImpP f) ∧ owns f.types f.name (needed f).order ≤ 64
/-- what a trim answers -/
def TrimR (h : Heap) (f : Face) (v : Value) (h' : Heap) : Prop := ∃ xv x e, v = .tuple #[xv, i64 e] ∧ FaceV h'.size h' xv x ∧ Ext h h' ∧ ((TrimOk f ∧ x = trimF f ∧ e = 0) ∨ (¬ TrimOk f ∧ x = zeroF ∧ e = 160))
theorem NodesP.sized {t : List Ty} (h : NodesP t) : ∀ x ∈ t, x.fields.length ≤ 64 ∧ x.params.length ≤ 64 := by
  intro x hx
  obtain ⟨a, ha⟩ := List.mem_iff_getElem?.1 hx
  rcases h a x ha with ⟨-, hb⟩ | ⟨-, hk, -⟩
  · obtain ⟨⟨-, hf⟩, hp⟩ := hb
    omega
  · rcases hk with ⟨-, -, -, -, -, h1, h2⟩ | ⟨-, -, -, -, -, -, h1, h2⟩ | ⟨-, ⟨-, h1, -⟩, -, -, -, h2⟩ | ⟨-, -, -, -, -, -, h1, h2⟩ | ⟨-, ⟨h2, -⟩, -, -, -, -, h1⟩
    · rw [h1, h2]; simp
    · rw [h1, h2]; simp
    · rw [h2]; exact ⟨h1, by simp⟩
    · rw [h1, h2]; simp
    · rw [h1]; exact ⟨by simp, h2⟩
theorem basic_own {h : Heap} {v : Value} {B : Nat → Prop} (a : BasicR h v) (hB : ∀ b, ownB v b → B b) : TysOwn B h v basic := by
  obtain ⟨css, o, h1, h2, h3⟩ := a
  refine ⟨⟨css, o, h1, h2, fun i x cs hx hc => ?_⟩, hB⟩
  have e := h3 i x cs hx hc
  have hm := List.mem_of_getElem? hx
  simp only [basic, List.mem_cons, List.not_mem_nil, or_false] at hm
  have key : ∀ n : Int, 0 ≤ n ∧ n ≤ 6 → x = basicTy n → TyB (fun b => ¬ ownB v b ∧ B b) h x cs := by
    rintro n hn rfl
    exact ⟨⟨Nat.zero_le _, Nat.zero_le _, by show in64 n; unfold in64; omega, in0, in0, in0, in0, in0⟩, _, _, e, SliceB.nil _ _ _ _, SliceB.nil _ _ _ _⟩
  rcases hm with hm | hm | hm | hm | hm | hm | hm <;> exact key _ (by decide) hm
theorem zero_face (h : Heap) : FaceV h.size h (.agg #[str [], .int .u32 0, .slice none 0 0, .slice none 0 0, .slice none 0 0]) zeroF :=
  ⟨_, _, _, rfl, Nat.zero_le _, by unfold inU32 zeroF; decide, ⟨Nat.zero_le _, none, 0, rfl, fun i x e => by simp [zeroF] at e⟩, ⟨Nat.zero_le _, none, 0, rfl, fun i x e => by simp [zeroF] at e⟩, ⟨Nat.zero_le _, none, 0, rfl, fun i x e => by simp [zeroF] at e⟩⟩
theorem face_parts {g : Heap} {vu vt vo : Value} {f : Face} {B : Nat → Prop} (hn : f.name.length ≤ maxLen) (hk : inU32 f.key) (hU : OwnS g 48 2 (usedR g) vu f.uses) (hT : TysOwn B g vt f.types) (hO : OwnS g 58 7 (objR g) vo f.objs) (h1 : f.uses.length ≤ maxLen) (h2 : f.types.length ≤ maxLen) (h3 : f.objs.length ≤ maxLen) :
    FaceV g.size g (.agg #[str f.name, .int .u32 f.key, vu, vt, vo]) f :=
  ⟨_, _, _, rfl, hn, hk, hU.at_ h1 (fun b e => by obtain ⟨_, o⟩ := hU.own; exact o.lt b e), hT.at_ h2, hO.at_ h3 (fun b e => by obtain ⟨_, o⟩ := hO.own; exact o.lt b e)⟩
end

/-! The interface by which the laws wake: plain. No condition but what each theorem says. -/
section
open Go Go.Eng

def arrTy (n : Int) : Ty := ⟨7, [], [], n, 1, 0, [], [], 0, 0⟩
def plainOb (a : Int) : Ob := ⟨3, [120], a, ⟨0, 0, []⟩, 0⟩
def plainF : Face := ⟨[65], 0, [], basic ++ [arrTy 2, arrTy 3], [plainOb 8]⟩
theorem trim_plain : trimF plainF = ⟨[65], 0, [], basic ++ [arrTy 3], [plainOb 7]⟩ := by rfl
theorem owns_plain : owns plainF.types plainF.name (needed plainF).order = 0 := by rfl
theorem plain_low {j : Nat} (h : j < 7) : plainF.types[j]? = some (basicTy j) := by
  show (basic ++ _)[j]? = _
  rw [List.getElem?_append_left (by simp [basic]; omega)]; exact basic_at (by omega)
theorem plain_all {j : Nat} {x : Ty} (h : plainF.types[j]? = some x) : (j < 7 ∧ x = basicTy j) ∨ (j = 7 ∧ x = arrTy 2) ∨ (j = 8 ∧ x = arrTy 3) := by
  have hl := (List.getElem?_eq_some_iff.1 h).1
  have : j < 9 := hl
  by_cases h7 : j < 7
  · rw [plain_low h7] at h; exact .inl ⟨h7, (Option.some.inj h).symm⟩
  · by_cases e : j = 7
    · subst e; exact .inr (.inl ⟨rfl, (Option.some.inj h).symm⟩)
    · obtain rfl : j = 8 := by omega
      exact .inr (.inr ⟨rfl, (Option.some.inj h).symm⟩)
theorem plain_form1 : formOf plainF.types 1 = 1 := rfl
theorem plain_ends {a : Nat} (h : a < 7) : Ends (edges plainF.types) a := by
  refine .mk fun e he => ?_
  rw [edges, plain_low h] at he
  have e1 : ¬ ((basicTy a).form = 7 ∨ (basicTy a).form = 8) := by show ¬ ((a : Int) = 7 ∨ (a : Int) = 8); omega
  have e2 : ¬ (basicTy a).form = 9 := by show ¬ (a : Int) = 9; omega
  simp only at he
  rw [if_neg e1, if_neg e2] at he
  cases he
theorem plain_tgood : TGood plainF.types := by
  refine ⟨⟨by decide, by decide⟩, fun j y hj => ?_, fun a ha => ?_, ?_, fun x hx h9 => ?_⟩
  · rcases plain_all hj with ⟨h, rfl⟩ | ⟨rfl, rfl⟩ | ⟨rfl, rfl⟩
    · exact .inl ⟨by omega, by simp [BareP, basicTy]⟩
    · exact .inr ⟨by decide, .inl ⟨rfl, ⟨by decide, by decide, by rw [show (arrTy 2).elem = 1 from rfl, plain_form1]; unfold PartF; omega⟩, rfl, rfl, rfl, rfl, rfl⟩, .inl ⟨⟨rfl, rfl⟩, by simp [arrTy]⟩⟩
    · exact .inr ⟨by decide, .inl ⟨rfl, ⟨by decide, by decide, by rw [show (arrTy 3).elem = 1 from rfl, plain_form1]; unfold PartF; omega⟩, rfl, rfl, rfl, rfl, rfl⟩, .inl ⟨⟨rfl, rfl⟩, by simp [arrTy]⟩⟩
  · by_cases h : a < 7
    · exact plain_ends h
    · refine .mk fun e he => ?_
      have hx : plainF.types[a]? = some (plainF.types[a]'ha) := List.getElem?_eq_getElem ha
      rcases plain_all hx with ⟨h', -⟩ | ⟨-, e2⟩ | ⟨-, e2⟩
      · omega
      · rw [edges, hx, e2] at he; simp [arrTy] at he; subst he; exact plain_ends (a := 1) (by decide)
      · rw [edges, hx, e2] at he; simp [arrTy] at he; subst he; exact plain_ends (a := 1) (by decide)
  · show (recs plainF.types).Nodup
    rw [show recs plainF.types = [] from rfl]; exact .nil
  · obtain ⟨j, hj⟩ := List.mem_iff_getElem?.1 hx
    rcases plain_all hj with ⟨h, rfl⟩ | ⟨rfl, rfl⟩ | ⟨rfl, rfl⟩
    · have h9 : (j : Int) = 9 := h9; omega
    · exact absurd h9 (by decide)
    · exact absurd h9 (by decide)
theorem word_one {c : UInt8} (h : letterP c) : WordP [c] := ⟨Nat.le_refl _, by simp, h, fun i hi => by
  obtain rfl : i = 0 := by simp at hi; omega
  exact .inl h⟩
theorem plain_word : WordP [65] := word_one (by unfold letterP; decide)
theorem plain_tys {P : Ty → Prop} (h1 : ∀ j : Nat, j < 7 → P (basicTy j)) (h2 : P (arrTy 2)) (h3 : P (arrTy 3)) : ∀ x ∈ plainF.types, P x := fun x hx => by
  obtain ⟨j, hj⟩ := List.mem_iff_getElem?.1 hx
  rcases plain_all hj with ⟨h, rfl⟩ | ⟨rfl, rfl⟩ | ⟨rfl, rfl⟩
  · exact h1 j h
  · exact h2
  · exact h3
theorem plain_shaped : ShapedP plainF := by
  refine ⟨⟨plain_word, by decide, by decide, plain_tgood⟩, ⟨by simp [plainF], fun u hu => by simp [plainF] at hu⟩, ⟨plain_tys (fun j _ => .inl rfl) (.inl rfl) (.inl rfl), ?_⟩, by simp [plainF], fun o ho => ?_⟩
  · rw [show tkeys plainF.types = [] from rfl]; exact .nil
  · obtain rfl : o = plainOb 8 := by simpa [plainF] using ho
    exact ⟨word_one (by unfold letterP; decide), by decide, .inr ⟨rfl, rfl, rfl⟩, .inr (.inr (.inl ⟨rfl, by decide, by decide, by decide⟩))⟩
theorem plain_imp : ImpP plainF := plain_tys (fun j hj h9 => by have h9 : (j : Int) = 9 := h9; omega) (fun h9 => absurd h9 (by decide)) (fun h9 => absurd h9 (by decide))
theorem num_none {m : Bytes} : ∀ {l : List Ty} {n : Int}, (∀ x ∈ l, ¬ x.form = 9) → numP m n l
  | [], _, _ => trivial
  | x :: l, n, h => by
    unfold numP
    rw [if_neg (h x (List.mem_cons_self ..))]
    exact num_none fun y hy => h y (List.mem_cons_of_mem _ hy)
theorem plain_good : FGood plainF := ⟨plain_shaped, num_none (plain_tys (fun j hj h9 => by have h9 : (j : Int) = 9 := h9; omega) (by decide) (by decide))⟩
end

/-! The walks of what wakes. No condition but what each theorem says. -/
section
open Go Go.Eng

theorem _root_.Go.Eng.OwnS.app {α : Type} {h' : Heap} {E sz : Nat} {R : α → List Value → Prop} {v' : Value} {xs ys : List α} {css dss : List (List Value)}
    (h1 : css.length = xs.length) (h2 : ∀ c ∈ css, c.length = sz) (h3 : ∀ (i : Nat) x cs, xs[i]? = some x → css[i]? = some cs → R x cs)
    (k1 : dss.length = ys.length) (k2 : ∀ c ∈ dss, c.length = sz) (k3 : ∀ (i : Nat) x cs, ys[i]? = some x → dss[i]? = some cs → R x cs)
    (o : Owns h' E sz v' (xs.length + ys.length) (css.flatten ++ dss.flatten)) : OwnS h' E sz R v' (xs ++ ys) := by
  refine ⟨css ++ dss, by rw [List.length_append, List.flatten_append]; exact o, by rw [List.length_append, List.length_append, h1, k1], fun c hc => (List.mem_append.1 hc).elim (h2 c) (k2 c), fun i x cs hx hc => ?_⟩
  by_cases hi : i < xs.length
  · rw [List.getElem?_append_left hi] at hx
    rw [List.getElem?_append_left (by omega)] at hc
    exact h3 i x cs hx hc
  · rw [List.getElem?_append_right (by omega)] at hx
    rw [List.getElem?_append_right (by omega), h1] at hc
    exact k3 _ x cs hx hc
theorem arr_ty {B : Nat → Prop} (h : Heap) {n : Int} (hn : 0 ≤ n ∧ n ≤ 5000) : TyB B h (arrTy n) (tyCells (arrTy n) (.slice none 0 0) (.slice none 0 0)) :=
  ⟨⟨Nat.zero_le _, Nat.zero_le _, by show in64 7; unfold in64; omega, by show in64 n; unfold in64; omega, by show in64 1; unfold in64; omega, in0, in0, in0⟩, _, _, rfl, SliceB.nil _ _ _ _, SliceB.nil _ _ _ _⟩
def FaceB (B : Nat → Prop) (h : Heap) (v : Value) (f : Face) : Prop := ∃ vu vt vo, v = .agg #[str f.name, .int .u32 f.key, vu, vt, vo] ∧ TysOwn B h vt f.types ∧ OwnS h 48 2 (usedR h) vu f.uses ∧ OwnS h 58 7 (objR h) vo f.objs
set_option maxHeartbeats 2000000 in
theorem plainR_fn {h : Heap} : Does Tryz.prog 11 [] h (fun v h' => FaceV h'.size h' v plainF ∧ Ext h h') := by
  have hmx : maxLen = 9223372036854775807 := by decide
  have k0 : At h.size h h := At.refl (Nat.le_refl _)
  refine fn_enter (N := 11) Tryz.func11 (by kernel_rfl) rfl rfl rfl (fun w0 => ?_)
  refine c_seq ?_; refine c_reg ?_; refine alc nofun rfl (fun h1 n1 => ?_)
  have s1 : h1.size = h.size + 1 := n1.size
  have k_1 := k0.ext n1.ext
  have b0_1 := n1.at_
  refine o_nil ?_; refine x_seq ?_; refine c_seq ?_; refine c_reg ?_; refine cl (vs := []) rfl (basic13_fn) rfl (fun v2 h2 r2 => ?_)
  obtain ⟨hB, x2, l2⟩ := r2
  have z2 := x2.size
  have k_2 := (k_1.ext x2)
  have b0_2 := (x2.get b0_1)
  refine bld (vs := [(0, i64 7), (3, i64 2), (4, i64 1)]) (v := .agg (tyCells (arrTy 2) (.slice none 0 0) (.slice none 0 0)).toArray) rfl (fun _ => by kernel_rfl) rfl ?_
  refine bld (vs := [(0, i64 7), (3, i64 3), (4, i64 1)]) (v := .agg (tyCells (arrTy 3) (.slice none 0 0) (.slice none 0 0)).toArray) rfl (fun _ => by kernel_rfl) rfl ?_
  refine bsl (vs := [(0, .agg (tyCells (arrTy 2) (.slice none 0 0) (.slice none 0 0)).toArray), (1, .agg (tyCells (arrTy 3) (.slice none 0 0) (.slice none 0 0)).toArray)]) (cs := (tyCells (arrTy 2) (.slice none 0 0) (.slice none 0 0) ++ tyCells (arrTy 3) (.slice none 0 0) (.slice none 0 0)).toArray) (E := 52) rfl (fun _ => by kernel_rfl) nofun rfl (fun h3 n3 => ?_)
  have T2 := basic_own (B := fun b => h1.size ≤ b) hB l2
  obtain ⟨css, hOw, q1, q2, q3⟩ := T2.own
  have s3 : h3.size = h2.size + 1 := n3.size
  have k_3 := k_2.ext n3.ext
  have b0_3 := n3.ext.get b0_2
  refine app U_sl rfl rfl (hOw.mod n3.ext (fun _ _ e => e)) (Src.slice (size := 10) (m := 2) rfl (row_blk n3.at_)) rfl (ones rfl) (by rw [show basic.length = 7 from rfl]; omega) (by rw [show basic.length = 7 from rfl]; omega) nofun rfl (fun v4 h4 o4 m4 f4 => ?_)
  obtain ⟨a4, c4, rfl⟩ := o4.form
  have s4 : h3.size ≤ h4.size := m4.size
  have k_4 := (k_3.mod m4 (fun b e => by have := l2 b e; omega))
  have b0_4 := (m4.get b0_3 (fun e => by have := l2 _ e; omega))
  refine asg rfl rfl ?_; refine o_nil ?_; refine x_seq ?_; refine c_seq ?_; refine c_reg ?_
  refine mv rfl rfl (bld (vs := [(0, i64 3), (1, str [120]), (2, i64 8)]) (v := objV (plainOb 8)) rfl (fun _ => by kernel_rfl) rfl (bsl (vs := [(0, objV (plainOb 8))]) (cs := #[i64 3, str [120], i64 8, i64 0, i64 0, str [], i64 0]) (E := 58) rfl (fun _ => by kernel_rfl) nofun rfl (fun h5 n5 => ?_)))
  have s5 : h5.size = h4.size + 1 := n5.size
  have k_5 := k_4.ext n5.ext
  have b0_5 := n5.ext.get b0_4
  refine bld (vs := [(0, str [65]), (3, .slice a4 (basic.length + 2) c4), (4, .slice (some ⟨h4.size, 0, none⟩) 1 1)]) (v := .agg #[str [65], .int .u32 0, .slice none 0 0, .slice a4 (basic.length + 2) c4, .slice (some ⟨h4.size, 0, none⟩) 1 1]) rfl (fun _ => by kernel_rfl) rfl ?_
  refine stw rfl rfl rfl (ones rfl) b0_5 rfl nofun (fun h6 u6 => ?_)
  have s6 : h6.size = h5.size := u6.size
  have k_6 := k_5.upd u6 (by omega)
  have b0_6 := u6.at_
  refine o_nil ?_; refine x_seq ?_; refine c_ret ?_; refine retc1 (.inr rfl) rfl rfl rfl (row_blk b0_6) ?_
  have o4' : Owns h4 52 10 (.slice a4 (basic.length + 2) c4) (basic.length + [arrTy 2, arrTy 3].length) (css.flatten ++ [tyCells (arrTy 2) (.slice none 0 0) (.slice none 0 0), tyCells (arrTy 3) (.slice none 0 0) (.slice none 0 0)].flatten) := o4
  have T4 : OwnS h4 52 10 (TyB (fun b => h1.size ≤ b) h4) (.slice a4 (basic.length + 2) c4) plainF.types := OwnS.app q1 q2 (fun i x cs hx hc => ((q3 i x cs hx hc).mod n3.ext (B' := fun b => ¬ ownB _ b ∧ h1.size ≤ b) (fun b _ e => ⟨fun e => e, e⟩)).mod m4 (fun b _ e => ⟨e.1, e.2⟩)) rfl (by intro c hc; simp at hc; rcases hc with rfl | rfl <;> rfl) (fun i x cs hx hc => by
   match i, hx, hc with
   | 0, hx, hc => cases hx; cases hc; exact arr_ty _ (by decide)
   | 1, hx, hc => cases hx; cases hc; exact arr_ty _ (by decide)) o4'
  have hl4 : ∀ b, ownB (.slice a4 (basic.length + 2) c4) b → h1.size ≤ b ∧ b < h4.size := fun b e => ⟨(f4 b e).elim (l2 b) (fun e => by omega), o4.lt b e⟩
  have T6 : TypesAt h6.size h6 (.slice a4 (basic.length + 2) c4) plainF.types := OwnS.at_ (R := tyR h6.size) (OwnS.mono (OwnS.mono T4 n5.ext (fun _ _ e => e) (R' := TyB (fun b => h1.size ≤ b) h5) (fun _ _ r => r.mod n5.ext (fun b _ e => ⟨fun e => e, e⟩))) u6.mod (fun k e e' => by have e' : k = h.size := e'; have := hl4 k e; omega) (fun _ _ r => (r.mod u6.mod (B' := fun b => h1.size ≤ b) (fun b _ e => ⟨fun e' => by have e' : b = h.size := e'; omega, e⟩)).at_)) (by decide) (fun k e => by have := hl4 k e; omega)
  refine ⟨⟨_, _, _, rfl, by decide, by unfold inU32 plainF; decide, ⟨by decide, none, 0, rfl, fun i x e => by simp [plainF] at e⟩, T6, ⟨by decide, _, _, rfl, fun i x e => ?_⟩⟩, (k_6).toExt⟩
  have hi : i = 0 := by have := (List.getElem?_eq_some_iff.1 e).1; simp [plainF] at this; omega
  subst hi
  cases e
  exact ⟨_, 0, _, rfl, by omega, rfl, u6.mod.row (row_blk n5.at_) (fun e => by have e : h4.size = h.size := e; omega), ⟨rfl, by decide, by decide, by unfold in64; decide, by unfold in64; decide, in0, in0, in0⟩⟩
end

/-! An interface, handed in. No condition but what each theorem says. -/
section
open Go Go.Eng

section
variable {H : Type} {enc : TypeId × Value → H} {w : World} {base : Nat} {spare : Nat → Bool} {held : Bool} {fuel : Nat} {cs : List Value} {x : DataW H × List MemPlace}
theorem op_int {t : TypeId} (ht : Tryz.prog.underlying t = some (.int .i64)) (h : DataW.trod enc Tryz.prog w base spare held fuel t cs = some x) : ∃ n, cs = [i64 n] ∧ in64 n := by
  obtain ⟨n, rfl, -, hw⟩ := DataW.trod_int ht h
  exact ⟨n, rfl, in64_of hw⟩
theorem op_u32 {t : TypeId} (ht : Tryz.prog.underlying t = some (.int .u32)) (h : DataW.trod enc Tryz.prog w base spare held fuel t cs = some x) : ∃ n, cs = [.int .u32 n] ∧ inU32 n := by
  obtain ⟨n, rfl, -, hw⟩ := DataW.trod_int ht h
  exact ⟨n, rfl, inU32_of hw⟩
theorem op_bool {t : TypeId} (ht : Tryz.prog.underlying t = some .bool) (h : DataW.trod enc Tryz.prog w base spare held fuel t cs = some x) : ∃ b : Bool, cs = [.bool b] := by
  obtain ⟨b, rfl, -⟩ := DataW.trod_bool ht h
  exact ⟨b, rfl⟩
theorem op_str {t : TypeId} (ht : Tryz.prog.underlying t = some .string) (h : DataW.trod enc Tryz.prog w base spare held fuel t cs = some x) : ∃ s : Bytes, cs = [str s] ∧ s.length ≤ maxLen := by
  obtain ⟨s, rfl, -, hl⟩ := DataW.trod_string ht h
  exact ⟨s.data.toList, rfl, by simpa using hl⟩
theorem op_used (h : DataW.trod enc Tryz.prog w base spare held fuel 48 cs = some x) (hz : Sz Tryz.prog 48 x.1) : ∃ u : Used, usedR w.heap u cs := by
  obtain ⟨hl, n, hf⟩ := open_row [(9, 0, 1), (23, 1, 1)] 2 (by kernel_rfl) (by kernel_rfl) h hz
  obtain ⟨y0, h0, -⟩ := hf 0 _ _ _ rfl
  obtain ⟨y1, h1, -⟩ := hf 1 _ _ _ rfl
  obtain ⟨s, e0, l0⟩ := op_str (by kernel_rfl) h0
  obtain ⟨k, e1, l1⟩ := op_u32 (by kernel_rfl) h1
  match cs, hl, e0, e1 with
  | [c0, c1], _, e0, e1 =>
    cases e0; cases e1
    exact ⟨⟨s, k⟩, rfl, l0, l1⟩
theorem op_fld (h : DataW.trod enc Tryz.prog w base spare held fuel 86 cs = some x) (hz : Sz Tryz.prog 86 x.1) : ∃ u : Fld, fldR w.heap u cs := by
  obtain ⟨hl, n, hf⟩ := open_row [(9, 0, 1), (4, 1, 1), (3, 2, 1)] 3 (by kernel_rfl) (by kernel_rfl) h hz
  obtain ⟨y0, h0, -⟩ := hf 0 _ _ _ rfl
  obtain ⟨y1, h1, -⟩ := hf 1 _ _ _ rfl
  obtain ⟨y2, h2, -⟩ := hf 2 _ _ _ rfl
  obtain ⟨s, e0, l0⟩ := op_str (by kernel_rfl) h0
  obtain ⟨b, e1⟩ := op_bool (by kernel_rfl) h1
  obtain ⟨k, e2, l2⟩ := op_int (by kernel_rfl) h2
  match cs, hl, e0, e1, e2 with
  | [c0, c1, c2], _, e0, e1, e2 =>
    cases e0; cases e1; cases e2
    exact ⟨⟨s, b, k⟩, rfl, l0, l2⟩
theorem op_par (h : DataW.trod enc Tryz.prog w base spare held fuel 88 cs = some x) (hz : Sz Tryz.prog 88 x.1) : ∃ u : Par, parR w.heap u cs := by
  obtain ⟨hl, n, hf⟩ := open_row [(4, 0, 1), (3, 1, 1)] 2 (by kernel_rfl) (by kernel_rfl) h hz
  obtain ⟨y1, h1, -⟩ := hf 0 _ _ _ rfl
  obtain ⟨y2, h2, -⟩ := hf 1 _ _ _ rfl
  obtain ⟨b, e1⟩ := op_bool (by kernel_rfl) h1
  obtain ⟨k, e2, l2⟩ := op_int (by kernel_rfl) h2
  match cs, hl, e1, e2 with
  | [c1, c2], _, e1, e2 =>
    cases e1; cases e2
    exact ⟨⟨b, k⟩, rfl, l2⟩
theorem op_obj (h : DataW.trod enc Tryz.prog w base spare held fuel 58 cs = some x) (hz : Sz Tryz.prog 58 x.1) : ∃ u : Ob, objR w.heap u cs := by
  obtain ⟨hl, n, hf⟩ := open_row [(3, 0, 1), (9, 1, 1), (3, 2, 1), (56, 3, 3), (3, 6, 1)] 7 (by kernel_rfl) (by kernel_rfl) h hz
  obtain ⟨y0, h0, -⟩ := hf 0 _ _ _ rfl
  obtain ⟨y1, h1, -⟩ := hf 1 _ _ _ rfl
  obtain ⟨y2, h2, -⟩ := hf 2 _ _ _ rfl
  obtain ⟨y3, h3, z3⟩ := hf 3 _ _ _ rfl
  obtain ⟨y4, h4, -⟩ := hf 4 _ _ _ rfl
  obtain ⟨k0, e0, l0⟩ := op_int (by kernel_rfl) h0
  obtain ⟨s, e1, l1⟩ := op_str (by kernel_rfl) h1
  obtain ⟨k2, e2, l2⟩ := op_int (by kernel_rfl) h2
  obtain ⟨hl', n', hf'⟩ := open_row [(3, 0, 1), (3, 1, 1), (9, 2, 1)] 3 (by kernel_rfl) (by kernel_rfl) h3 z3
  obtain ⟨v0, g0, -⟩ := hf' 0 _ _ _ rfl
  obtain ⟨v1, g1, -⟩ := hf' 1 _ _ _ rfl
  obtain ⟨v2, g2, -⟩ := hf' 2 _ _ _ rfl
  obtain ⟨m0, f0, j0⟩ := op_int (by kernel_rfl) g0
  obtain ⟨m1, f1, j1⟩ := op_int (by kernel_rfl) g1
  obtain ⟨m2, f2, j2⟩ := op_str (by kernel_rfl) g2
  obtain ⟨k4, e4, l4⟩ := op_int (by kernel_rfl) h4
  match cs, hl, e0, e1, e2, e4, f0, f1, f2 with
  | [c0, c1, c2, c3, c4, c5, c6], _, e0, e1, e2, e4, f0, f1, f2 =>
    cases e0; cases e1; cases e2; cases e4; cases f0; cases f1; cases f2
    exact ⟨⟨k0, s, k2, ⟨m0, m1, m2⟩, k4⟩, rfl, l1, j2, l0, l2, j0, j1, l4⟩
/-- a type's lists are no longer than the reach -/
def TyShort (t : Ty) : Prop := t.fields.length * 32 ≤ reachBytes ∧ t.params.length * 16 ≤ reachBytes
theorem op_ty (h : DataW.trod enc Tryz.prog w base spare held fuel 52 cs = some x) (hz : Sz Tryz.prog 52 x.1) : ∃ u : Ty, tyR w.heap.size w.heap u cs ∧ TyShort u := by
  obtain ⟨hl, n, hf⟩ := open_row [(3, 0, 1), (9, 1, 1), (9, 2, 1), (3, 3, 1), (3, 4, 1), (3, 5, 1), (49, 6, 1), (50, 7, 1), (3, 8, 1), (3, 9, 1)] 10 (by kernel_rfl) (by kernel_rfl) h hz
  obtain ⟨y0, h0, -⟩ := hf 0 _ _ _ rfl
  obtain ⟨y1, h1, -⟩ := hf 1 _ _ _ rfl
  obtain ⟨y2, h2, -⟩ := hf 2 _ _ _ rfl
  obtain ⟨y3, h3, -⟩ := hf 3 _ _ _ rfl
  obtain ⟨y4, h4, -⟩ := hf 4 _ _ _ rfl
  obtain ⟨y5, h5, -⟩ := hf 5 _ _ _ rfl
  obtain ⟨y6, h6, z6⟩ := hf 6 _ _ _ rfl
  obtain ⟨y7, h7, z7⟩ := hf 7 _ _ _ rfl
  obtain ⟨y8, h8, -⟩ := hf 8 _ _ _ rfl
  obtain ⟨y9, h9, -⟩ := hf 9 _ _ _ rfl
  obtain ⟨k0, e0, l0⟩ := op_int (by kernel_rfl) h0
  obtain ⟨k1, e1, l1⟩ := op_str (by kernel_rfl) h1
  obtain ⟨k2, e2, l2⟩ := op_str (by kernel_rfl) h2
  obtain ⟨k3, e3, l3⟩ := op_int (by kernel_rfl) h3
  obtain ⟨k4, e4, l4⟩ := op_int (by kernel_rfl) h4
  obtain ⟨k5, e5, l5⟩ := op_int (by kernel_rfl) h5
  obtain ⟨v6, xs6, e6, s6, b6⟩ := open_list (⟨[], false, 0⟩ : Fld) (sz := 3) (by' := 32) (R := fldR w.heap) (by kernel_rfl) (by kernel_rfl) (by decide) (by kernel_rfl) h6 z6 (fun n cs' y a b => op_fld a b)
  obtain ⟨v7, xs7, e7, s7, b7⟩ := open_list (⟨false, 0⟩ : Par) (sz := 2) (by' := 16) (R := parR w.heap) (by kernel_rfl) (by kernel_rfl) (by decide) (by kernel_rfl) h7 z7 (fun n cs' y a b => op_par a b)
  obtain ⟨k8, e8, l8⟩ := op_int (by kernel_rfl) h8
  obtain ⟨k9, e9, l9⟩ := op_int (by kernel_rfl) h9
  match cs, hl, e0, e1, e2, e3, e4, e5, e6, e7, e8, e9 with
  | [c0, c1, c2, c3, c4, c5, c6, c7, c8, c9], _, e0, e1, e2, e3, e4, e5, e6, e7, e8, e9 =>
    cases e0; cases e1; cases e2; cases e3; cases e4; cases e5; cases e6; cases e7; cases e8; cases e9
    exact ⟨⟨k0, k1, k2, k3, k4, k5, xs6, xs7, k8, k9⟩, ⟨⟨l1, l2, l0, l3, l4, l5, l8, l9⟩, _, _, rfl, s6, s7⟩, b6, b7⟩
end
/-- the lists are no longer than the reach -/
def FaceShort (f : Face) : Prop := (∀ t ∈ f.types, TyShort t) ∧ f.uses.length * 24 ≤ reachBytes ∧ f.types.length * 128 ≤ reachBytes ∧ f.objs.length * 72 ≤ reachBytes
theorem face_open {H : Type} {enc : TypeId × Value → H} {w : World} {base : Nat} {spare : Nat → Bool} {held : Bool} {v : Value} {d : DataW H} {ps : List MemPlace}
    (h : DataW.Trod enc Tryz.prog w base spare held 28 v d ps) (hz : Sz Tryz.prog 28 d) : ∃ f : Face, FaceV w.heap.size w.heap v f ∧ FaceShort f := by
  obtain ⟨fuel, h⟩ := h
  obtain ⟨vs, rfl⟩ : ∃ vs, v = .agg vs := by
    have hl := (open_row [(9, 0, 1), (23, 1, 1), (24, 2, 1), (25, 3, 1), (26, 4, 1)] 5 (by kernel_rfl) (by kernel_rfl) h hz).1
    cases v <;> first | exact ⟨_, rfl⟩ | exact absurd hl (by simp [Value.cells])
  have hcs : (Value.agg vs).cells.toList = vs.toList := rfl
  rw [hcs] at h
  obtain ⟨hl, n, hf⟩ := open_row [(9, 0, 1), (23, 1, 1), (24, 2, 1), (25, 3, 1), (26, 4, 1)] 5 (by kernel_rfl) (by kernel_rfl) h hz
  obtain ⟨y0, h0, -⟩ := hf 0 _ _ _ rfl
  obtain ⟨y1, h1, -⟩ := hf 1 _ _ _ rfl
  obtain ⟨y2, h2, z2⟩ := hf 2 _ _ _ rfl
  obtain ⟨y3, h3, z3⟩ := hf 3 _ _ _ rfl
  obtain ⟨y4, h4, z4⟩ := hf 4 _ _ _ rfl
  obtain ⟨k0, e0, l0⟩ := op_str (by kernel_rfl) h0
  obtain ⟨k1, e1, l1⟩ := op_u32 (by kernel_rfl) h1
  obtain ⟨v2, xs2, e2, s2, b2⟩ := open_list (⟨[], 0⟩ : Used) (sz := 2) (by' := 24) (R := usedR w.heap) (by kernel_rfl) (by kernel_rfl) (by decide) (by kernel_rfl) h2 z2 (fun n cs' y a b => op_used a b)
  obtain ⟨v3, xs3, e3, s3, b3⟩ := open_list (basicTy 0) (sz := 10) (by' := 128) (R := fun t cs => tyR w.heap.size w.heap t cs ∧ TyShort t) (by kernel_rfl) (by kernel_rfl) (by decide) (by kernel_rfl) h3 z3 (fun n cs' y a b => op_ty a b)
  obtain ⟨v4, xs4, e4, s4, b4⟩ := open_list zeroOb (sz := 7) (by' := 72) (R := objR w.heap) (by kernel_rfl) (by kernel_rfl) (by decide) (by kernel_rfl) h4 z4 (fun n cs' y a b => op_obj a b)
  obtain ⟨s3, q3⟩ := s3.split (R' := tyR w.heap.size) (Q := TyShort) (fun _ _ a => a.1) (fun _ _ a => a.2)
  obtain ⟨cs⟩ := vs
  match cs, hl, e0, e1, e2, e3, e4 with
  | [c0, c1, c2, c3, c4], _, e0, e1, e2, e3, e4 =>
    cases e0; cases e1; cases e2; cases e3; cases e4
    exact ⟨⟨k0, k1, xs2, xs3, xs4⟩, ⟨_, _, _, rfl, l0, l1, s2, s3, s4⟩, q3, b2, b3, b4⟩
end
end Go.Proofs.YtgnkfegkdjfnjaaGreat
