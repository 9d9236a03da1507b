/- The engine, part 7: rules by which a function of the program is walked. No condition. -/
import Derived.Test.YtgnkfegkdjfnjaaGreatEng6
import Derived.WideKeyEntry
import Derived.DeepKeys4
import Derived.StringKeys
namespace Go.Eng
open Go.WideMaps (KeyLaw)
open Go.MapKept (Stamped)
open Go.ChangeMaps (setBlock)

/-- a map's block, as a function of its keys; what lies not in it is 0 -/
def MapOf (P : Program) (k : TypeId) (es : Array MapEntry) (clock : Nat) (f : Value → Int) : Prop :=
  Stamped es clock ∧ (∀ x ∈ es.toList, ∃ l, keyOf P k x.key = some l) ∧ (∀ x ∈ es.toList, x.val = i64 (f x.key)) ∧ ∀ key, (∀ x ∈ es.toList, x.key ≠ key) → f key = 0
def MapIs (P : Program) (k : TypeId) (h : Heap) (m : Nat) (f : Value → Int) : Prop := ∃ es clock, h[m]? = some (.map es clock) ∧ MapOf P k es clock f
open Classical in
noncomputable def upd (f : Value → Int) (key : Value) (v : Int) : Value → Int := fun x => if x = key then v else f x
theorem MapIs.lt {P : Program} {k : TypeId} {h : Heap} {m : Nat} {f : Value → Int} (a : MapIs P k h m f) : m < h.size := by
  obtain ⟨es, c, hb, -⟩ := a; exact lt_of_get hb
theorem MapIs.mod {P : Program} {k : TypeId} {S : Nat → Prop} {h h' : Heap} {m : Nat} {f : Value → Int} (a : MapIs P k h m f) (x : Mod S h h') (hm : ¬ S m) : MapIs P k h' m f := by
  obtain ⟨es, c, hb, r⟩ := a; exact ⟨es, c, x.get hb hm, r⟩
theorem MapOf.empty (P : Program) (k : TypeId) : MapOf P k #[] 0 (fun _ => 0) := ⟨⟨by simp, by simp, by simp⟩, by simp, by simp, fun _ _ => rfl⟩

theorem key_eq {l : List MapEntry} (hn : (l.map (·.key)).Nodup) {j : Nat} {e : MapEntry} (hj : l[j]? = some e) {i : Nat} {x : MapEntry} (hi : l[i]? = some x) (hk : x.key = e.key) : i = j := by
  have h1 : (l.map (·.key))[j]? = some e.key := by rw [List.getElem?_map, hj]; rfl
  have h2 : (l.map (·.key))[i]? = some e.key := by rw [List.getElem?_map, hi]; exact congrArg some hk
  exact (List.getElem?_inj (List.getElem?_eq_some_iff.1 h2).1 hn).1 (h2.trans h1.symm)
/-- an entry's value turned -/
theorem MapOf.set {P : Program} {k : TypeId} {es : Array MapEntry} {clock : Nat} {f : Value → Int} (a : MapOf P k es clock f) {j : Nat} {e : MapEntry} (hj : es.toList[j]? = some e) (v : Int) :
    MapOf P k (es.modify j fun x => { x with val := i64 v }) clock (upd f e.key v) := by
  obtain ⟨⟨s1, s2, s3⟩, hk, hv, h0⟩ := a
  have hl : (es.modify j fun x => { x with val := i64 v }).toList = es.toList.set j { e with val := i64 v } := by
    rw [Array.toList_modify]; exact ChangeMaps.modify_eq_set _ _ _ _ hj
  have hmem : ∀ x ∈ (es.modify j fun x => { x with val := i64 v }).toList, ∃ i y, es.toList[i]? = some y ∧ x.key = y.key ∧ x.born = y.born ∧ (i = j ∧ x.val = i64 v ∨ i ≠ j ∧ x.val = y.val) := by
    intro x hx
    rw [hl] at hx
    obtain ⟨i, hi⟩ := List.mem_iff_getElem?.1 hx
    rw [List.getElem?_set] at hi
    split at hi
    · rename_i hij; subst hij
      split at hi
      · cases hi; exact ⟨j, e, hj, rfl, rfl, .inl ⟨rfl, rfl⟩⟩
      · cases hi
    · rename_i hij; exact ⟨i, x, hi, rfl, rfl, .inr ⟨fun e => hij e.symm, rfl⟩⟩
  have hkeys : (es.modify j fun x => { x with val := i64 v }).toList.map (·.key) = es.toList.map (·.key) := by
    rw [hl, List.map_set]; exact WideElems.set_self _ _ _ (by rw [List.getElem?_map, hj]; rfl)
  have hborn : (es.modify j fun x => { x with val := i64 v }).toList.map (·.born) = es.toList.map (·.born) := by
    rw [hl, List.map_set]; exact WideElems.set_self _ _ _ (by rw [List.getElem?_map, hj]; rfl)
  refine ⟨⟨fun x hx => ?_, by rw [hborn]; exact s2, by rw [hkeys]; exact s3⟩, fun x hx => ?_, fun x hx => ?_, fun key hne => ?_⟩
  · obtain ⟨i, y, hy, _, hb, _⟩ := hmem x hx
    rw [hb]; exact s1 y (List.mem_of_getElem? hy)
  · obtain ⟨i, y, hy, hk', _, _⟩ := hmem x hx
    rw [hk']; exact hk y (List.mem_of_getElem? hy)
  · obtain ⟨i, y, hy, hk', _, hc⟩ := hmem x hx
    rcases hc with ⟨rfl, hxv⟩ | ⟨hij, hxv⟩
    · rw [hj] at hy; cases hy
      rw [hxv, hk', upd, if_pos rfl]
    · rw [hxv, hk', upd, if_neg (fun e1 => hij (key_eq s3 hj hy e1))]
      exact hv y (List.mem_of_getElem? hy)
  · have hne' : ∀ x ∈ es.toList, x.key ≠ key := by
      intro x hx e1
      have : key ∈ es.toList.map (·.key) := List.mem_map.2 ⟨x, hx, e1⟩
      rw [← hkeys] at this
      obtain ⟨y, hy, e2⟩ := List.mem_map.1 this
      exact hne y hy e2
    rw [upd, if_neg (fun e1 => hne' e (List.mem_of_getElem? hj) e1.symm)]
    exact h0 key hne'
/-- an entry more -/
theorem MapOf.push {P : Program} {k : TypeId} {es : Array MapEntry} {clock : Nat} {f : Value → Int} (a : MapOf P k es clock f) {key : Value} (hkey : ∃ l, keyOf P k key = some l) (hne : ∀ x ∈ es.toList, x.key ≠ key) (v : Int) :
    MapOf P k (es.push ⟨key, i64 v, clock⟩) (clock + 1) (upd f key v) := by
  obtain ⟨⟨s1, s2, s3⟩, hk, hv, h0⟩ := a
  refine ⟨⟨fun x hx => ?_, ?_, ?_⟩, fun x hx => ?_, fun x hx => ?_, fun key' hne' => ?_⟩
  · simp only [Array.toList_push, List.mem_append, List.mem_singleton] at hx
    rcases hx with hx | rfl
    · have := s1 x hx; omega
    · exact Nat.lt_succ_self _
  · simp only [Array.toList_push, List.map_append, List.map_cons, List.map_nil]
    refine List.nodup_append.2 ⟨s2, by simp, fun a ha c hc e1 => ?_⟩
    simp only [List.mem_singleton] at hc
    obtain ⟨x, hx, rfl⟩ := List.mem_map.1 ha
    have := s1 x hx
    omega
  · simp only [Array.toList_push, List.map_append, List.map_cons, List.map_nil]
    refine List.nodup_append.2 ⟨s3, by simp, fun a ha c hc e1 => ?_⟩
    simp only [List.mem_singleton] at hc
    obtain ⟨x, hx, rfl⟩ := List.mem_map.1 ha
    exact hne x hx (e1.trans hc)
  · simp only [Array.toList_push, List.mem_append, List.mem_singleton] at hx
    rcases hx with hx | rfl
    · exact hk x hx
    · exact hkey
  · simp only [Array.toList_push, List.mem_append, List.mem_singleton] at hx
    rcases hx with hx | rfl
    · rw [upd, if_neg (hne x hx)]; exact hv x hx
    · rw [upd, if_pos rfl]
  · have h1 := hne' ⟨key, i64 v, clock⟩ (by simp)
    rw [upd, if_neg (fun e => h1 e.symm)]
    exact h0 key' (fun x hx => hne' x (by simp [hx]))

section
variable {P : Program} {t k e : TypeId} {es : Array MapEntry} {clock : Nat} {f : Value → Int} {b : Nat}
theorem run_lk (K : KeyLaw P k) (ht : P.underlying t = some (.map k e)) (hz : ∀ u : World, (zeroValue e).run P u = .ok (i64 0) u) {w : World} (hb : w.heap[b]? = some (.map es clock)) (a : MapOf P k es clock f) {key : Value} {kl : Lit} (hkey : keyOf P k key = some kl) :
    (Instr.lookup t (.map (some b)) key false).run P w = .ok (i64 (f key)) w := by
  rcases K.find w hkey es.toList a.2.1 with ⟨h1, h2⟩ | ⟨j, e0, h1, h2, h3⟩
  · simp [Instr.lookup, run_underlying ht, MapKept.run_getObj_map hb, K.check w es.isEmpty hkey, h1, hz, Result.andThen, a.2.2.2 key h2]
  · have hv := a.2.2.1 e0 (List.mem_of_getElem? h2)
    rw [h3] at hv
    simp [Instr.lookup, run_underlying ht, MapKept.run_getObj_map hb, K.check w es.isEmpty hkey, h1, Result.andThen, hv]
theorem run_mu (K : KeyLaw P k) (ht : P.underlying t = some (.map k e)) {w : World} (hb : w.heap[b]? = some (.map es clock)) (a : MapOf P k es clock f) {key : Value} {kl : Lit} (hkey : keyOf P k key = some kl) (v : Int) :
    ∃ es' clock', (Instr.mapUpdate t (.map (some b)) key (i64 v)).run P w = .ok () (setBlock w b (.map es' clock')) ∧ MapOf P k es' clock' (upd f key v) := by
  rcases K.find w hkey es.toList a.2.1 with ⟨h1, h2⟩ | ⟨j, e0, h1, h2, h3⟩
  · refine ⟨_, _, ?_, a.push ⟨kl, hkey⟩ h2 v⟩
    simp [Instr.mapUpdate, run_underlying ht, MapKept.run_getObj_map hb, K.check w false hkey, h1, MapKept.run_setObj_map _ hb, Result.andThen, setBlock]
  · refine ⟨es.modify j fun x => { x with val := i64 v }, clock, ?_, h3 ▸ a.set h2 v⟩
    have hj : es[j]? = some e0 := by simpa using h2
    have hmod : es.modify j (fun e' => { e' with key := key, val := i64 v }) = es.modify j (fun x => { x with val := i64 v }) := by
      apply Array.ext'
      rw [Array.toList_modify, Array.toList_modify, ChangeMaps.modify_eq_set _ _ _ _ h2, ChangeMaps.modify_eq_set _ _ _ _ h2, ← h3]
    simp [Instr.mapUpdate, run_underlying ht, MapKept.run_getObj_map hb, K.check w false hkey, h1, hj, h3, K.stays w hkey, hmod, MapKept.run_setObj_map _ hb, Result.andThen, setBlock]
/-- an entry is there, and its stamp -/
def Pend (h : Heap) (m : Nat) (key : Value) (st : Nat) : Prop := ∃ (es : Array MapEntry) (clock j : Nat) (e0 : MapEntry), h[m]? = some (.map es clock) ∧ (es.toList.map (·.born)).Nodup ∧ es.toList[j]? = some e0 ∧ e0.key = key ∧ e0.born = st
theorem run_me (K : KeyLaw P k) (ht : P.underlying t = some (.map k e)) (hz : ∀ u : World, (zeroValue e).run P u = .ok (i64 0) u) {w : World} (hb : w.heap[b]? = some (.map es clock)) (a : MapOf P k es clock f) {key : Value} {kl : Lit} (hkey : keyOf P k key = some kl) :
    ∃ st es' clock', (Instr.mapEntry t (.map (some b)) key).run P w = .ok (.tuple #[i64 (f key), i64 (st : Nat)]) (setBlock w b (.map es' clock')) ∧ MapOf P k es' clock' f ∧ ∃ (j : Nat) (e0 : MapEntry), es'.toList[j]? = some e0 ∧ e0.key = key ∧ e0.born = st := by
  rcases K.find w hkey es.toList a.2.1 with ⟨h1, h2⟩ | ⟨j, e0, h1, h2, h3⟩
  · have hf := a.2.2.2 key h2
    have hp := a.push ⟨kl, hkey⟩ h2 0
    have hu : upd f key 0 = f := by
      funext x; unfold upd; split
      · rename_i e; rw [e, hf]
      · rfl
    rw [hu] at hp
    refine ⟨clock, _, _, ?_, hp, es.size, ⟨key, i64 0, clock⟩, by simp, rfl, rfl⟩
    simp [Instr.mapEntry, run_underlying ht, MapKept.run_getObj_map hb, K.check w false hkey, h1, hz, MapKept.run_setObj_map _ hb, Result.andThen, setBlock, hf, goInt]
  · have hj : es[j]? = some e0 := by simpa using h2
    have hv := a.2.2.1 e0 (List.mem_of_getElem? h2)
    rw [h3] at hv
    have hsame : es.modify j (fun e => { e with key := key }) = es := by
      apply Array.ext'
      rw [Array.toList_modify, ChangeMaps.modify_eq_set _ _ _ _ h2]
      have : ({ e0 with key := key } : MapEntry) = e0 := by rw [← h3]
      rw [this]
      exact WideElems.set_self _ _ _ h2
    refine ⟨e0.born, es, clock, ?_, a, j, e0, h2, h3, rfl⟩
    simp [Instr.mapEntry, run_underlying ht, MapKept.run_getObj_map hb, K.check w false hkey, h1, hj, h3, K.stays w hkey, hsame, MapKept.run_setObj_map _ hb, Result.andThen, setBlock, hv, goInt]
theorem run_es {w : World} (hb : w.heap[b]? = some (.map es clock)) (a : MapOf P k es clock f) {j : Nat} {e0 : MapEntry} (hj : es.toList[j]? = some e0) (v : Int) :
    (Instr.entryStore t (.map (some b)) (i64 (e0.born : Nat)) (i64 v)).run P w = .ok () (setBlock w b (.map (es.modify j fun x => { x with val := i64 v }) clock)) := by
  have hidx : es.findIdx? (fun e => ((e.born : Nat) : Int) == ((e0.born : Nat) : Int)) = some j := by
    rw [WideElems.findIdx_arr]
    exact WideElems.findIdx_born a.1.2.1 hj
  simp [Instr.entryStore, MapKept.run_getObj_map hb, asInt, asIntOf, hidx, MapKept.run_setObj_map _ hb, Result.andThen, setBlock]
end
end Go.Eng
