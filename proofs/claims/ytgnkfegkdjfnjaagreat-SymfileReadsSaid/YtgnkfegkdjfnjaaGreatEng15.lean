/- The engine, part 15: rules by which a function of the program is walked. No condition. -/
import Derived.Test.YtgnkfegkdjfnjaaGreatEng14
import Derived.Test.YtgnkfegkdjfnjaaGreatEng6
import Derived.SizedLaws
namespace Go.Eng
open Go.WideShapes Go.ChangeShapes Go.Deep

/-- none of its slices and texts is longer than the reach -/
def Sz {H : Type} (P : Program) (t : TypeId) (d : DataW H) : Prop := ∀ n ∈ d.weights P t, n ≤ reachBytes
section
variable {H : Type} {enc : TypeId × Value → H} {P : Program} {w : World} {base : Nat} {spare : Nat → Bool} {held : Bool}
theorem sz_each {ts : List TypeId} {ds : List (DataW H)} (h : (DataW.weightsEach P ts ds).all (· ≤ reachBytes) = true) {j : Nat} {t : TypeId} {d : DataW H} (ht : ts[j]? = some t) (hd : ds[j]? = some d) : Sz P t d := fun n hn => by
  simpa using List.all_eq_true.1 h n (DataW.weights_mem_each ht hd n hn)
theorem weights_all {e : TypeId} : ∀ {l : List (DataW H)} {d : DataW H}, d ∈ l → ∀ n ∈ d.weights P e, n ∈ DataW.weightsAll P e l
  | [], _, hd, _, _ => by cases hd
  | a :: l, d, hd, n, hn => by
    simp only [DataW.weightsAll, List.mem_append]
    rcases List.mem_cons.1 hd with rfl | hd
    · exact .inl hn
    · exact .inr (weights_all hd n hn)
theorem in64_of {n : Int} (h : (Lit.int .i64 n).wf = true) : in64 n := by
  simp only [Lit.wf, Bool.and_eq_true, decide_eq_true_eq] at h
  have h1 : IntKind.min .i64 = -9223372036854775808 := by decide
  have h2 : IntKind.max .i64 = 9223372036854775807 := by decide
  rw [h1, h2] at h; exact h
theorem inU32_of {n : Int} (h : (Lit.int .u32 n).wf = true) : inU32 n := by
  simp only [Lit.wf, Bool.and_eq_true, decide_eq_true_eq] at h
  have h1 : IntKind.min .u32 = 0 := by decide
  have h2 : IntKind.max .u32 = 4294967295 := by decide
  rw [h1, h2] at h; unfold inU32; omega
theorem str_toList (s : ByteArray) : str s.data.toList = .string s := rfl
/-- a struct's fields -/
theorem open_fields {t : TypeId} {fs : Array Field} {fuel : Nat} {cs : List Value} {x : DataW H × List MemPlace} (ht : P.underlying t = some (.struct fs)) (h : DataW.trod enc P w base spare held fuel t cs = some x) (hz : Sz P t x.1) :
    cs.length = P.cellsOf t ∧ ∃ n, ∀ (i : Nat) (f : Field), fs[i]? = some f → ∃ y, DataW.trod enc P w base spare held n f.type ((cs.drop f.offset).take (P.cellsOf f.type)) = some y ∧ Sz P f.type y.1 := by
  obtain ⟨xs, n, rfl, rfl, hl, hxl, hf⟩ := DataW.trod_struct ht h
  refine ⟨hl, n, fun i f hi => ?_⟩
  have hil : i < fs.size := (Array.getElem?_eq_some_iff.1 hi).1
  have hx : xs[i]? = some (xs[i]'(by omega)) := List.getElem?_eq_getElem _
  refine ⟨_, (hf i f hi).trans hx, fun n hn => hz n ?_⟩
  simp only [DataW.weights, ht]
  exact DataW.weights_mem_each (j := i) (by rw [List.getElem?_map, Array.getElem?_toList, hi]; rfl) (by rw [List.getElem?_map, hx]; rfl) n hn
/-- .. by a table of the fields' types, offsets and widths -/
def rowOf (P : Program) (t : TypeId) : Option (List (TypeId × Nat × Nat)) := match P.underlying t with
  | some (.struct fs) => some (fs.toList.map (fun f => (f.type, f.offset, P.cellsOf f.type)))
  | _ => none
theorem open_row {t : TypeId} {fuel : Nat} {cs : List Value} {x : DataW H × List MemPlace} (ts : List (TypeId × Nat × Nat)) (k : Nat) (hts : rowOf P t = some ts) (hk : P.cellsOf t = k)
    (h : DataW.trod enc P w base spare held fuel t cs = some x) (hz : Sz P t x.1) :
    cs.length = k ∧ ∃ n, ∀ (i : Nat) (u : TypeId) (off c : Nat), ts[i]? = some (u, off, c) → ∃ y, DataW.trod enc P w base spare held n u ((cs.drop off).take c) = some y ∧ Sz P u y.1 := by
  unfold rowOf at hts
  split at hts
  · rename_i fs ht
    cases hts
    obtain ⟨hl, n, hf⟩ := open_fields ht h hz
    refine ⟨hl.trans hk, n, fun i u off c hi => ?_⟩
    rw [List.getElem?_map, Array.getElem?_toList] at hi
    cases hfi : fs[i]? with
    | none => rw [hfi] at hi; cases hi
    | some f =>
      rw [hfi] at hi
      cases hi
      exact hf i f hfi
  · cases hts
/-- a slice's elements -/
theorem open_list {α : Type} (dflt : α) {R : α → List Value → Prop} {t e : TypeId} {fuel : Nat} {cs : List Value} {x : DataW H × List MemPlace} (ht : P.underlying t = some (.slice e)) {sz by' : Nat} (hC' : P.cellsOf e = sz) (hC0 : 0 < sz) (hby : P.bytesOf e = by') (h : DataW.trod enc P w base spare held fuel t cs = some x) (hz : Sz P t x.1)
    (hel : ∀ n cs' y, DataW.trod enc P w base spare held n e cs' = some y → Sz P e y.1 → ∃ a : α, R a cs') :
    ∃ (v : Value) (xs : List α), cs = [v] ∧ SliceAt w.heap.size w.heap sz (fun _ => R) v xs ∧ xs.length * by' ≤ reachBytes := by
  subst hC'; subst hby
  have hC := hC0
  rcases open_slice ht h with ⟨rfl, rfl⟩ | ⟨a, len, cap, m, n, D, Pl, rfl, hb, hl, hm, hmm, rfl, hi⟩
  · exact ⟨_, [], rfl, ⟨Nat.zero_le _, none, 0, rfl, fun i y hy => by simp at hy⟩, by simp⟩
  · have hml : len ≤ m := by rw [hmm]; split <;> omega
    have hsz : ∀ i, i < len → Sz P e (D i) := fun i hil n hn => hz n (by
      simp only [DataW.weights, ht, List.mem_cons, List.mem_append]
      exact .inr (.inl (weights_all (List.mem_map.2 ⟨i, List.mem_range.2 hil, rfl⟩) n hn)))
    have hsp : 0 < len → a.spot = none ∧ a.block < w.heap.size := fun h0l => by
      obtain ⟨cs0, hc0, -⟩ := hi 0 (by omega)
      obtain ⟨_, hl0, hat0⟩ := World.cells?_some hc0
      have h0 := hat0 0 hC
      rw [add_add] at h0
      have hv0 : cs0[0]? = some cs0[0] := List.getElem?_eq_getElem (by omega)
      rw [hv0] at h0
      have := cell_at h0
      simp [Addr.add] at this
      exact ⟨this.1, this.2.1⟩
    have key : ∀ i : Nat, ∃ y : α, i < len → ∃ b o cs', some a = some (⟨b, o, none⟩ : Addr) ∧ b < w.heap.size ∧ cs'.length = P.cellsOf e ∧ rowAt w.heap b (o + i * P.cellsOf e) cs' ∧ R y cs' := by
      intro i
      by_cases hil : i < len
      · obtain ⟨cs', hc, htr⟩ := hi i (by omega)
        obtain ⟨y, hy⟩ := hel n cs' _ htr (hsz i hil)
        obtain ⟨_, hl1, hat⟩ := World.cells?_some hc
        have hsp' := hsp (by omega)
        obtain ⟨ab, ao, as⟩ := a
        simp only at hsp'
        obtain ⟨rfl, hlt⟩ := hsp'
        refine ⟨y, fun _ => ⟨ab, ao, cs', rfl, hlt, hl1, fun j v hv => ?_, hy⟩⟩
        have hj : j < cs'.length := (List.getElem?_eq_some_iff.1 hv).1
        have := hat j (by omega)
        rw [add_add, add_eq, cell_eq, hv] at this
        rw [← this, Nat.add_assoc]
      · exact ⟨dflt, fun e => absurd e hil⟩
    obtain ⟨g, hg⟩ := Classical.skolem.1 key
    have hlm : len ≤ maxLen := Nat.le_trans hl hm
    refine ⟨_, (List.range len).map g, rfl, ⟨by simpa using hlm, some a, cap, by simp, fun i y hy => ?_⟩, ?_⟩
    · have hil := (List.getElem?_eq_some_iff.1 hy).1
      simp only [List.length_map, List.length_range] at hil
      rw [List.getElem?_map, List.getElem?_range hil] at hy
      cases hy
      exact hg i hil
    · have := hz ((((List.range len).map D).length + ((List.range (m - len)).map fun j => D (len + j)).length) * P.bytesOf e) (by simp only [DataW.weights, ht]; exact List.mem_cons_self ..)
      refine Nat.le_trans (Nat.mul_le_mul_right _ ?_) this
      simp
theorem SliceAt.split {α : Type} {N : Nat} {h : Heap} {sz : Nat} {R : α → List Value → Prop} {R' : Heap → α → List Value → Prop} {Q : α → Prop} {v : Value} {xs : List α} (s : SliceAt N h sz (fun _ => R) v xs) (hR : ∀ x cs, R x cs → R' h x cs) (hQ : ∀ x cs, R x cs → Q x) : SliceAt N h sz R' v xs ∧ ∀ x ∈ xs, Q x := by
  obtain ⟨hl, a, c, rfl, hi⟩ := s
  refine ⟨⟨hl, a, c, rfl, fun i x hx => ?_⟩, fun x hx => ?_⟩
  · obtain ⟨b, o, cs, h1, h2, h3, h4, h5⟩ := hi i x hx
    exact ⟨b, o, cs, h1, h2, h3, h4, hR x cs h5⟩
  · obtain ⟨i, hi'⟩ := List.mem_iff_getElem?.1 hx
    obtain ⟨b, o, cs, h1, h2, h3, h4, h5⟩ := hi i x hi'
    exact hQ x cs h5
end
end Go.Eng
