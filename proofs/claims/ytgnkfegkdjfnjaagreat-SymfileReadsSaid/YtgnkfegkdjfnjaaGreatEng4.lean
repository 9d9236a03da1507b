/- The engine, part 4: rules by which a function of the program is walked. No condition. -/
import Derived.Test.YtgnkfegkdjfnjaaGreatEng3
import Derived.Laws.BytesArg
namespace Go.Eng

/-- slice value v (n elements of type E, size cells each) owns the cells xs -/
def Owns (h : Heap) (E : TypeId) (size : Nat) (v : Value) (n : Nat) (xs : List Value) : Prop :=
  xs.length = n * size ∧ ((v = .slice none 0 0 ∧ n = 0) ∨
    ∃ g cap cur, v = .slice (some ⟨g, 0, none⟩) n cap ∧ h[g]? = some (.cells cur E (0, 0)) ∧ n ≤ cap ∧ cap ≤ maxLen ∧ cur.size = cap * size ∧ cur.toList.take (n * size) = xs)
/-- its block -/
def ownB (v : Value) (k : Nat) : Prop := v.ownBlock = some k

theorem Owns.nil (h : Heap) (E : TypeId) (size : Nat) : Owns h E size (.slice none 0 0) 0 [] := ⟨by simp, .inl ⟨rfl, rfl⟩⟩
theorem Owns.mod {S : Nat → Prop} {h h' : Heap} {E : TypeId} {size n : Nat} {v : Value} {xs : List Value} (ho : Owns h E size v n xs) (x : Mod S h h') (hs : ∀ k, ownB v k → ¬ S k) : Owns h' E size v n xs := by
  refine ⟨ho.1, ?_⟩
  rcases ho.2 with hn | ⟨g, cap, cur, rfl, hg, rest⟩
  · exact .inl hn
  · exact .inr ⟨g, cap, cur, rfl, x.get hg (hs g rfl), rest⟩
theorem Owns.lt {h : Heap} {E : TypeId} {size n : Nat} {v : Value} {xs : List Value} (ho : Owns h E size v n xs) : ∀ k, ownB v k → k < h.size := by
  intro k hk
  rcases ho.2 with ⟨rfl, _⟩ | ⟨g, cap, cur, rfl, hg, _⟩
  · simp [ownB, Value.ownBlock] at hk
  · simp [ownB, Value.ownBlock] at hk; subst hk; exact lt_of_get hg
theorem Owns.form {h : Heap} {E : TypeId} {size n : Nat} {v : Value} {xs : List Value} (ho : Owns h E size v n xs) : ∃ a c, v = .slice a n c := by
  rcases ho.2 with ⟨rfl, rfl⟩ | ⟨g, cap, cur, rfl, _⟩
  · exact ⟨_, _, rfl⟩
  · exact ⟨_, _, rfl⟩
theorem Owns.one {h : Heap} {E : TypeId} {size n : Nat} {v : Value} {xs : List Value} (ho : Owns h E size v n xs) : v.oneCell' = true := by
  obtain ⟨a, c, rfl⟩ := ho.form; rfl
theorem Owns.row {h : Heap} {E : TypeId} {size n : Nat} {g o c : Nat} {xs : List Value} (ho : Owns h E size (.slice (some ⟨g, o, none⟩) n c) n xs) : o = 0 ∧ rowAt h g 0 xs := by
  rcases ho.2 with ⟨he, _⟩ | ⟨g', cap, cur, he, hg, _, _, _, ht⟩
  · cases he
  · cases he
    refine ⟨rfl, fun j v hv => ?_⟩
    rw [cellAt_blk hg, Nat.zero_add]
    rw [← ht, List.getElem?_take] at hv
    split at hv
    · simpa using hv
    · cases hv

/-- what an append takes: m elements, the cells news -/
def Src (P : Program) (h : Heap) (size : Nat) (x : Value) (m : Nat) (news : List Value) : Prop :=
  (∀ w, (Builtin.lenOf x).run P w = .ok m w) ∧ ∀ w, w.heap = h → (Builtin.firstCells size m x).run P w = .ok news.toArray w
theorem Src.slice {P : Program} {h : Heap} {size b o m c : Nat} {news : List Value} (hl : news.length = m * size) (hr : rowAt h b o news) : Src P h size (.slice (some ⟨b, o, none⟩) m c) m news :=
  ⟨fun w => by simp [Builtin.lenOf], fun w hw => run_firstCells_some w size m ⟨b, o, none⟩ m c news hl (fun j v hv => by rw [add_eq, cell_eq, hw]; exact hr j v hv)⟩
theorem Src.nil {P : Program} {h : Heap} {size c : Nat} {a : Option Addr} : Src P h size (.slice a 0 c) 0 [] :=
  ⟨fun w => by simp [Builtin.lenOf], fun w _ => by
    cases a with
    | none => simp [Builtin.firstCells]
    | some a => simp [Builtin.firstCells, loadCells, loadCellsFrom]⟩
def bcells (l : List UInt8) : List Value := l.map fun b => Value.int .u8 b.toNat
theorem bcells_one (l : List UInt8) : ∀ u ∈ bcells l, u.oneCell' = true := by
  intro u hu; simp only [bcells, List.mem_map] at hu; obtain ⟨b, _, rfl⟩ := hu; rfl
theorem Src.str {P : Program} {h : Heap} {size : Nat} (l : List UInt8) : Src P h size (Eng.str l) l.length (bcells l) := by
  have hsz : (ByteArray.mk l.toArray).size = l.length := by simp [ByteArray.size]
  refine ⟨fun w => by simp [Builtin.lenOf, hsz], fun w _ => ?_⟩
  have := Lib.run_firstCells_string (P := P) w size ⟨l.toArray⟩
  rw [hsz] at this
  simpa [Lib.strCells, bcells] using this

theorem run_append_owns {P : Program} (t u ty e : TypeId) (i : TypeInfo) (z : Value) (size bytes : Nat) (ht : P.underlying t = some (.slice e)) (hu : P.underlying u = some (.slice e) ∨ P.underlying u = some .string)
    (hi : P.info? e = some i) (hz : i.zero = some z) (hsize : i.size = size) (hby : i.bytes = bytes) (hzs : z.cells.size = size)
    {w : World} {v : Value} {n : Nat} {xs : List Value} (ho : Owns w.heap e size v n xs) {x : Value} {m : Nat} {news : List Value} (hs : Src P w.heap size x m news) (hl : news.length = m * size) (h1 : ∀ u ∈ news, u.oneCell' = true)
    (h63 : n + m ≤ maxLen) (hbytes : (n + m) * bytes ≤ 140737488355328) :
    ∃ v' w', (Builtin.append_ #[t, u] ty #[v, x]).run P w = .ok v' w' ∧ Amb w w' ∧ Owns w'.heap e size v' (n + m) (xs ++ news) ∧ Mod (ownB v) w.heap w'.heap ∧ (∀ k, ownB v' k → ownB v k ∨ w.heap.size ≤ k) := by
  subst hsize; subst hby
  have hlen : (xs ++ news).length = (n + m) * i.size := by rw [List.length_append, ho.1, hl, Nat.add_mul]
  have hsmall : n + m ≤ 9223372036854775807 := by simp only [maxLen] at h63; omega
  have grow : ∀ (a : Option Addr) (sCap : Nat), v = .slice a n sCap → sCap < n + m → (∀ w' : World, w'.heap = w.heap → (Builtin.firstCells i.size n (.slice a n sCap)).run P w' = .ok xs.toArray w') →
      ∃ v' w', (Builtin.append_ #[t, u] ty #[v, x]).run P w = .ok v' w' ∧ Amb w w' ∧ Owns w'.heap e i.size v' (n + m) (xs ++ news) ∧ Mod (ownB v) w.heap w'.heap ∧ (∀ k, ownB v' k → ownB v k ∨ w.heap.size ≤ k) := by
    intro a sCap hv hc hf
    subst hv
    have hn : ¬ (n + m ≤ sCap) := by omega
    have h63' : ¬ (9223372036854775807 < ((n : Int) + (m : Int))) := by omega
    have h48' : ¬ (281474976710656 < Builtin.nextslicecap (n + m) sCap * i.bytes) := by have := growslice_fits (old := sCap) (by omega) hbytes; omega
    have hge := grownCap_ge w (n + m) sCap e
    have hcm : grownCap w (n + m) sCap e ≤ maxLen := grownCap_le_maxLen w (n + m) sCap e h63
    refine ⟨.slice (some ⟨w.heap.size, 0, none⟩) (n + m) (grownCap w (n + m) sCap e), w.drew.alloc (.cells (xs.toArray ++ news.toArray ++ Builtin.zeroCells z.cells (grownCap w (n + m) sCap e - (n + m))) e), ?_, ⟨rfl, rfl, rfl⟩, ⟨hlen, .inr ⟨_, _, _, rfl, heap_alloc_new w.drew _, hge, hcm, ?_, ?_⟩⟩, (New.push w.heap _).ext.mod _, fun k hk => ?_⟩
    · have e1 := hf w.drew rfl
      have e2 := hs.2 w.drew rfl
      rcases hu with hu | hu
      all_goals
        simp [Builtin.append_, run_underlying ht, run_underlying hu, sizeOf, typeInfo, zeroValue, hi, hz, hs.1, hn, h63', h48', Question.forced, e1, e2, newRow, grownCap]
        congr 2
        apply Array.ext'
        simp
    · simp only [Array.size_append, List.size_toArray, size_zeroCells, hzs, ho.1, hl, ← Nat.add_mul]
      congr 1; omega
    · simp only [Array.toList_append, List.append_assoc]
      rw [← List.append_assoc, ← hlen]
      exact List.take_left
    · simp only [ownB, Value.ownBlock, Option.some.injEq] at hk
      exact .inr (by omega)
  rcases ho.2 with ⟨rfl, rfl⟩ | ⟨g, cap, cur, rfl, hg, hnc, hcm, hcs, htake⟩
  · have hx : xs = [] := List.eq_nil_of_length_eq_zero (by simpa using ho.1)
    subst hx
    by_cases hm : m = 0
    · subst hm
      have hn : news = [] := List.eq_nil_of_length_eq_zero (by simpa using hl)
      subst hn
      refine ⟨.slice none 0 0, w, ?_, Amb.refl w, Owns.nil _ _ _, Mod.refl _ _, fun k hk => .inl hk⟩
      have e2 := hs.2 w rfl
      rcases hu with hu | hu <;> (simp [Builtin.append_, run_underlying ht, run_underlying hu, sizeOf, typeInfo, hi, hs.1, e2])
    · exact grow none 0 rfl (by omega) (fun w' _ => by simp [Builtin.firstCells])
  · by_cases hroom : n + m ≤ cap
    · have hfit : n * i.size + news.length ≤ cur.size := by rw [hl, hcs, ← Nat.add_mul]; exact Nat.mul_le_mul_right _ hroom
      have hst := run_storeCells_at P g (n * i.size) e news 0 cur w hg (by simpa using hfit) h1
      simp only [Nat.add_zero] at hst
      refine ⟨.slice (some ⟨g, 0, none⟩) (n + m) cap, w.setRow g (cur.toList.take (n * i.size) ++ news ++ cur.toList.drop (n * i.size + news.length)).toArray, ?_, ⟨rfl, rfl, rfl⟩, ⟨hlen, .inr ⟨g, cap, _, rfl, setRow_heap w g cur _ e _ hg, hroom, hcm, ?_, ?_⟩⟩, (setRow_upd hg).mod.mono (fun k _ hk => by subst hk; rfl), fun k hk => .inl hk⟩
      · have e2 := hs.2 w rfl
        rcases hu with hu | hu <;> (simp [Builtin.append_, run_underlying ht, run_underlying hu, sizeOf, typeInfo, hi, hs.1, hroom, e2, Addr.add_lit, hst])
      · simp only [List.size_toArray, List.length_append, List.length_take, List.length_drop, Array.length_toList]
        omega
      · rw [htake, ← hlen]
        exact List.take_left
    · refine grow _ cap rfl (by omega) (fun w' hw' => ?_)
      exact run_firstCells_some w' i.size n ⟨g, 0, none⟩ n cap xs ho.1 (fun j v hv => by
        rw [add_eq, cell_eq, hw']; exact (Owns.row ho).2 j v hv)

section op
variable {C : Cx} {ops : Array Oper} {K : KK} {dr : Bool} {I : Heap → Prop} {rest : List Oper} {ρ : Env} {h : Heap} {d : Nat} {ty : TypeId} {pos : String} {aft : Array Edge}

/-- an element type's row of the table -/
class Elem (P : Program) (e : TypeId) (size bytes : outParam Nat) : Prop where
  out : ∃ i z, P.info? e = some i ∧ i.zero = some z ∧ i.size = size ∧ i.bytes = bytes ∧ z.cells.size = size
theorem elem_of {P : Program} {e size bytes : Nat} {z : Value} (hz : z.cells.size = size) (hi : (P.info? e).map (fun i => (i.zero, i.size, i.bytes)) = some (some z, size, bytes)) : Elem P e size bytes := by
  cases h : P.info? e with
  | none => rw [h] at hi; cases hi
  | some i =>
    rw [h] at hi
    simp only [Option.map_some, Option.some.injEq, Prod.mk.injEq] at hi
    exact ⟨⟨i, z, h, hi.1, hi.2.1, hi.2.2, hz⟩⟩

theorem app {x y : Operand} {t u e : TypeId} {size bytes : Nat} [ht : UT C.P t (.slice e)] (hu : C.P.underlying u = some (.slice e) ∨ C.P.underlying u = some .string) [he : Elem C.P e size bytes]
    {v : Value} {n : Nat} {xs : List Value} {s : Value} {m : Nat} {news : List Value} (hx : ev ρ x = some v) (hy : ev ρ y = some s) (ho : Owns h e size v n xs) (hs : Src C.P h size s m news) (hl : news.length = m * size) (h1 : ∀ u ∈ news, u.oneCell' = true)
    (h63 : n + m ≤ maxLen) (hbytes : (n + m) * bytes ≤ 140737488355328)
    (hI : dr = true → ∀ v' h', Owns h' e size v' (n + m) (xs ++ news) → Mod (ownB v) h h' → (∀ k, ownB v' k → ownB v k ∨ h.size ≤ k) → I h') (hN : Nat.blt d C.N = true)
    (k : ∀ v' h', Owns h' e size v' (n + m) (xs ++ news) → Mod (ownB v) h h' → (∀ k, ownB v' k → ownB v k ∨ h.size ≤ k) → SO C ops K dr I rest ((d, v') :: ρ) h') :
    SO C ops K dr I (⟨some d, .call { callee := .builtin .append, args := #[x, y], argTypes := #[t, u] }, ty, pos, aft, none⟩ :: rest) ρ h :=
  o_act (R := fun v' h' => Owns h' e size v' (n + m) (xs ++ news) ∧ Mod (ownB v) h h' ∧ (∀ k, ownB v' k → ownB v k ∨ h.size ≤ k)) rfl (fun _ => rfl) (fun d' e => by cases e; exact hN)
    (fun a w K' ha hh hw hk => by
      subst hh
      obtain ⟨i, z, hi, hz, hsize, hby, hzs⟩ := he.out
      obtain ⟨v', w', hr, hA, h2, h3, h4⟩ := run_append_owns (P := C.P) t u ty e i z size bytes ht.eq hu hi hz hsize hby hzs ho hs hl h1 h63 hbytes
      unfold Loud execOp
      simp only [resolve, invoke, builtin, Sem.run_bind, Sem.run_pure, Result.andThen_ok, List.map_toArray, List.map_cons, List.map_nil, ha.ev hx, ha.ev hy, hr]
      exact hk v' w' (hw.trans hA) ⟨h2, h3, h4⟩)
    (fun e' v' h' ⟨a, b, c⟩ => hI e' v' h' a b c) (fun v' h' ⟨a, b, c⟩ => k v' h' a b c)

theorem U_sl {P : Program} {u e : TypeId} [h : UT P u (.slice e)] : P.underlying u = some (.slice e) ∨ P.underlying u = some .string := .inl h.eq
theorem U_st {P : Program} {u e : TypeId} [h : UT P u .string] : P.underlying u = some (.slice e) ∨ P.underlying u = some .string := .inr h.eq
/-- string(b) -/
theorem cvs {x : Operand} {s t e : TypeId} {v : Value} {l : List UInt8} [hs : UT C.P s (.slice e)] [he : UT C.P e (.int .u8)] [ht : UT C.P t .string] (hx : ev ρ x = some v)
    (hv : ∀ h', (dr = false → h' = h) → (dr = true → I h') → (∃ a c, v = .slice a 0 c ∧ l = []) ∨ ∃ b o c, v = .slice (some ⟨b, o, none⟩) l.length c ∧ rowAt h' b o (bcells l)) (hN : Nat.blt d C.N = true)
    (k : SO C ops K dr I rest ((d, str l) :: ρ) h) : SO C ops K dr I (⟨some d, .convert s t x, ty, pos, aft, none⟩ :: rest) ρ h :=
  o_val rfl rfl rfl hN (fun a w ha h1 h2 => by
    simp only [execOp, ha.ev hx]
    refine ex_v ?_
    rcases hv w.heap h1 h2 with ⟨a0, c, rfl, rfl⟩ | ⟨b, o, c, rfl, hr⟩
    · rw [run_convert_bytes_string w s t e a0 0 c hs.eq he.eq ht.eq]
      cases a0 with
      | none => simp [Conv.bytesToString, ByteArray.empty, ByteArray.emptyWithCapacity]; rfl
      | some a0 => simp [Conv.bytesToString, loadCells, loadCellsFrom, ByteArray.empty, ByteArray.emptyWithCapacity]; rfl
    · have hl : (loadCells ⟨b, o, none⟩ l.length).run C.P w = .ok ((l.map fun b => (b.toNat : Int)).map (Value.int .u8)).toArray w := by
        have := run_loadCells_list (P := C.P) w ⟨b, o, none⟩ (bcells l) (fun j v hv => by rw [add_eq, cell_eq]; exact hr j v hv)
        simpa [bcells, List.map_map, Function.comp_def] using this
      rw [run_convert_bytes_string w s t e _ _ c hs.eq he.eq ht.eq, run_bytesToString w _ _ c _ hl, foldl_push_bytes]
      simp [ByteArray.empty, ByteArray.emptyWithCapacity, List.map_map, Function.comp_def]
      rfl) k
theorem Owns.bytes {h : Heap} {E : TypeId} {v : Value} {n : Nat} {l : List UInt8} (ho : Owns h E 1 v n (bcells l)) : n = l.length ∧ ((∃ a c, v = .slice a 0 c ∧ l = []) ∨ ∃ b o c, v = .slice (some ⟨b, o, none⟩) l.length c ∧ rowAt h b o (bcells l)) := by
  have hn : n = l.length := by have := ho.1; simpa [bcells] using this.symm
  refine ⟨hn, ?_⟩
  subst hn
  rcases ho.2 with ⟨rfl, h0⟩ | ⟨g, cap, cur, rfl, hg, rest⟩
  · exact .inl ⟨_, _, rfl, List.eq_nil_of_length_eq_zero h0⟩
  · exact .inr ⟨g, 0, cap, rfl, (Owns.row (c := cap) (o := 0) (g := g) ⟨ho.1, .inr ⟨g, cap, cur, rfl, hg, rest⟩⟩).2⟩
/-- string(b), b owned -/
theorem cvo {x : Operand} {s t e : TypeId} {v : Value} {n : Nat} {l : List UInt8} [hs : UT C.P s (.slice e)] [he : UT C.P e (.int .u8)] [ht : UT C.P t .string] (hx : ev ρ x = some v)
    (ho : Owns h e 1 v n (bcells l)) (hN : Nat.blt d C.N = true)
    (k : SO C ops K false I rest ((d, str l) :: ρ) h) : SO C ops K false I (⟨some d, .convert s t x, ty, pos, aft, none⟩ :: rest) ρ h :=
  cvs hx (fun h' e1 _ => by rw [e1 rfl]; exact ho.bytes.2) hN k
/-- a function without a body -/
theorem clx {f : Nat} {args : Array Operand} {ats : Array TypeId} {vs : List Value} {v : Value} (hp : args.toList.map (ev ρ) = vs.map some) (hr : ∀ w, (callFunc f vs.toArray).run C.P w = .ok (.value v) w) (hI : dr = true → I h) (hN : Nat.blt d C.N = true)
    (k : SO C ops K dr I rest ((d, v) :: ρ) h) : SO C ops K dr I (⟨some d, .call { callee := .value (.func f), args := args, argTypes := ats }, ty, pos, aft, none⟩ :: rest) ρ h :=
  o_act (R := fun v' h' => v' = v ∧ h' = h) rfl (fun _ => rfl) (fun d' e => by cases e; exact hN)
    (fun a w K' ha hh hw hk => by
      have e1 : args.map a.eval = vs.toArray := Array.ext' (by simpa using evs ha _ _ hp)
      have hrun : (execOp a.eval ⟨some d, .call { callee := .value (.func f), args := args, argTypes := ats }, ty, pos, aft, none⟩).run C.P w = .ok (.value v) w := by
        simp only [execOp, resolve, e1, Act.eval, Deferred.ofValue, Sem.run_bind, Sem.run_pure, Result.andThen_ok, invoke, Array.empty_append, Array.append_empty, hr w]
      unfold Loud
      rw [hrun]
      exact hk v w hw ⟨rfl, hh⟩)
    (fun e v' h' ⟨_, e2⟩ => by rw [e2]; exact hI e) (fun v' h' ⟨e1, e2⟩ => by rw [e1, e2]; exact k)
/-- b[:] of an array -/
theorem sla_array {x : Operand} {T E : TypeId} {n s b o : Nat} [hT : UT C.P T (.array n E)] [hs : SZ C.P E s] (hx : ev ρ x = some (ptr b o)) (hN : Nat.blt d C.N = true)
    (k : SO C ops K dr I rest ((d, .slice (some ⟨b, o, none⟩) n n) :: ρ) h) : SO C ops K dr I (⟨some d, .slice T x none none none, ty, pos, aft, none⟩ :: rest) ρ h :=
  o_val rfl rfl rfl hN (fun a w ha _ _ => by
    simp only [execOp, ha.ev hx, Option.map_none]
    refine ex_v ?_
    simp [Instr.sliceAt, run_underlying hT.eq, Instr.sureAddr, Instr.sliceBounds, hs.run, Addr.add]) k
theorem row_blk {h : Heap} {b : Nat} {cs : Array Value} {T : TypeId} {fr : Nat × Nat} (hb : h[b]? = some (.cells cs T fr)) : rowAt h b 0 cs.toList := fun j v hv => by
  rw [cellAt_blk hb, Nat.zero_add]; simpa using hv
/-- a new block, owned -/
theorem New.owns {h h' : Heap} {E : TypeId} {cs : Array Value} (n1 : New h (.cells cs E) h') {size n : Nat} (hn : cs.size = n * size) (hm : n ≤ maxLen) : Owns h' E size (.slice (some ⟨h.size, 0, none⟩) n n) n cs.toList :=
  ⟨by simpa using hn, .inr ⟨h.size, n, cs, rfl, n1.at_, Nat.le_refl _, hm, hn, by rw [← hn]; exact List.take_of_length_le (by simp)⟩⟩
end op
/-! bits: where two numbers share none, 'or' is their sum -/
theorem ofInt_nat (n a : Nat) : BitVec.ofInt n (a : Int) = BitVec.ofNat n a := by
  apply BitVec.eq_of_toNat_eq
  rw [BitVec.toNat_ofInt, BitVec.toNat_ofNat]
  have : ((a : Int) % ((2 ^ n : Nat) : Int)).toNat = a % 2 ^ n := by rw [← Int.natCast_emod]; exact Int.toNat_natCast _
  exact_mod_cast this
theorem or_nat {a b i : Nat} (ha : a < 2 ^ i) (hb : b % 2 ^ i = 0) : a ||| b = a + b := by
  have hb' : b = 2 ^ i * (b / 2 ^ i) := by have := Nat.div_add_mod b (2 ^ i); omega
  rw [hb', Nat.or_comm, ← Nat.two_pow_add_eq_or_of_lt ha]; omega
theorem or_add (q : IntKind) (a b i : Nat) (ha : a < 2 ^ i) (hb : b % 2 ^ i = 0) (hs : ((a + b : Nat) : Int) ≤ q.max) : bits2 .or q (a : Int) (b : Int) = ((a + b : Nat) : Int) := by
  have hq : a + b < 2 ^ q.bits := by
    have : q.max < ((2 ^ q.bits : Nat) : Int) := by cases q <;> decide
    omega
  simp only [bits2, ofInt_nat, BitVec.toNat_or, BitVec.toNat_ofNat]
  rw [Nat.mod_eq_of_lt (show a < 2 ^ q.bits by omega), Nat.mod_eq_of_lt (show b < 2 ^ q.bits by omega), or_nat ha hb]
  generalize a + b = c at *
  cases q <;> simp only [IntKind.max, IntKind.bits, IntKind.signed] at hs hq <;> simp [IntKind.wrap, IntKind.bits, IntKind.signed] at hs hq ⊢ <;> omega
theorem or_sign (a j : Nat) (ha : a < 2 ^ j) (hj : j ≤ 62) : bits2 .or .i64 (a : Int) (-((2 ^ j : Nat) : Int)) = (a : Int) - ((2 ^ j : Nat) : Int) := by
  have h1 : 2 ^ j ≤ 2 ^ 62 := Nat.pow_le_pow_right (by omega) hj
  have hp : 0 < 2 ^ j := Nat.two_pow_pos j
  have e1 : (BitVec.ofInt 64 (-((2 ^ j : Nat) : Int))).toNat = 2 ^ 64 - 2 ^ j := by
    rw [BitVec.toNat_ofInt]
    generalize 2 ^ j = x at *
    have : ((-(x : Int)) % ((2 ^ 64 : Nat) : Int)) = ((2 ^ 64 - x : Nat) : Int) := by omega
    rw [this]; simp
  have e2 : (2 ^ 64 - 2 ^ j) % 2 ^ j = 0 := by
    have : 2 ^ 64 = 2 ^ j * 2 ^ (64 - j) := by rw [← Nat.pow_add]; congr 1; omega
    rw [this, show 2 ^ j * 2 ^ (64 - j) - 2 ^ j = 2 ^ j * (2 ^ (64 - j) - 1) by rw [Nat.mul_sub, Nat.mul_one], Nat.mul_mod_right]
  have e3 : bits2 .or .i64 (a : Int) (-((2 ^ j : Nat) : Int)) = IntKind.i64.wrap ((BitVec.ofInt 64 (a : Int) ||| BitVec.ofInt 64 (-((2 ^ j : Nat) : Int))).toNat : Int) := rfl
  rw [e3, BitVec.toNat_or, e1, ofInt_nat, BitVec.toNat_ofNat]
  rw [Nat.mod_eq_of_lt (show a < 2 ^ 64 by omega), or_nat ha e2, IntKind.wrap_i64]
  generalize 2 ^ j = x at *
  omega
/-- a byte -/
def b8 (x : Int) : UInt8 := UInt8.ofNat (x % 256).toNat
theorem b8_nat (x : Int) : ((b8 x).toNat : Int) = x % 256 := by
  unfold b8
  rw [UInt8.toNat_ofNat']
  have h1 := Int.emod_nonneg x (show (256 : Int) ≠ 0 by decide)
  have h2 := Int.emod_lt_of_pos x (show (0 : Int) < 256 by decide)
  have : (x % 256).toNat < 256 := by omega
  rw [Nat.mod_eq_of_lt this]; omega
theorem b8_cell (x : Int) : Value.int .u8 (IntKind.u8.wrap x) = .int .u8 ((b8 x).toNat : Int) := by rw [b8_nat, IntKind.wrap_u8]
theorem b8_of (c : UInt8) : b8 (c.toNat : Int) = c := by
  unfold b8
  have := c.toNat_lt
  apply UInt8.toNat_inj.1
  rw [UInt8.toNat_ofNat']
  omega
theorem b8_eq {x : Int} {c : UInt8} (h : x % 256 = c.toNat) : b8 x = c := by rw [← b8_of c]; unfold b8; rw [h]; have := c.toNat_lt; rw [show ((c.toNat : Int) % 256) = c.toNat by omega]
theorem b8_congr {x y : Int} (h : x % 256 = y % 256) : b8 x = b8 y := by unfold b8; rw [h]
end Go.Eng
