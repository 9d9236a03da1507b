/- The walks of what tells lists and interfaces alike. No condition but what each theorem says. -/
import Derived.Test.YtgnkfegkdjfnjaaIfb1
namespace Go.Proofs.Ytgnkfegkdjfnjaa
open Go Go.Eng

theorem row_sub {h g : Heap} {b o : Nat} {cs : List Value} (hr : Go.Eng.rowAt h b o cs) (e : g = h) : Go.Eng.rowAt g b o cs := by subst e; exact hr
section
theorem eq_i (k : Nat) (a b : Int) (w : World) : (Op.equalIn (k + 1) 3 (i64 a) (i64 b)).run Try.prog w = .ok (a == b) w := run_equalIn_int w k 3 .i64 .i64 a b Try.underlying3
theorem eq_u (k : Nat) (a b : Int) (w : World) : (Op.equalIn (k + 1) 22 (.int .u32 a) (.int .u32 b)).run Try.prog w = .ok (a == b) w := run_equalIn_int w k 22 .u32 .u32 a b Try.underlying22
theorem eq_s (k : Nat) (a b : Bytes) (w : World) : (Op.equalIn (k + 1) 9 (str a) (str b)).run Try.prog w = .ok (a == b) w := by
  rw [run_equalIn_string w k 9 _ _ Try.underlying9, toList_mk, toList_mk]
theorem eq_b (k : Nat) (a b : Bool) (w : World) : (Op.equalIn (k + 1) 4 (.bool a) (.bool b)).run Try.prog w = .ok (a == b) w := run_eqIn_bool Try.underlying4 k a b w
theorem pt_i (cs : Array Value) (o : Nat) (v : Value) (w : World) (e : cs[o]? = some v) : (part 3 cs o).run Try.prog w = .ok v w := by simp [part, isAgg, run_underlying Try.underlying3, e]
theorem pt_u (cs : Array Value) (o : Nat) (v : Value) (w : World) (e : cs[o]? = some v) : (part 22 cs o).run Try.prog w = .ok v w := by simp [part, isAgg, run_underlying Try.underlying22, e]
theorem pt_s (cs : Array Value) (o : Nat) (v : Value) (w : World) (e : cs[o]? = some v) : (part 9 cs o).run Try.prog w = .ok v w := by simp [part, isAgg, run_underlying Try.underlying9, e]
theorem pt_b (cs : Array Value) (o : Nat) (v : Value) (w : World) (e : cs[o]? = some v) : (part 4 cs o).run Try.prog w = .ok v w := by simp [part, isAgg, run_underlying Try.underlying4, e]
instance seU : SE Try.prog 65 := ⟨by kernel_rfl⟩
instance seF : SE Try.prog 83 := ⟨by kernel_rfl⟩
instance seP : SE Try.prog 85 := ⟨by kernel_rfl⟩
instance seO : SE Try.prog 34 := ⟨by kernel_rfl⟩
theorem used_eq (x y : Used) (w : World) : (Op.equalIn 10000 65 (.agg #[str x.name, .int .u32 x.key]) (.agg #[str y.name, .int .u32 y.key])).run Try.prog w = .ok (tb (x = y)) w := by
  rw [run_equalIn_struct w 9999 65 _ _ (by kernel_rfl) (by kernel_rfl)]
  simp only [Program.fieldsOf, Try.underlying65]
  obtain ⟨x1, x2⟩ := x
  obtain ⟨y1, y2⟩ := y
  simp [Op.eqFields, pt_s, pt_u, eq_s, eq_u]
  by_cases h1 : x1 = y1 <;> by_cases h2 : x2 = y2 <;> simp [h1, h2, tb]
theorem fld_eq (x y : Fld) (w : World) : (Op.equalIn 10000 83 (.agg #[str x.name, .bool x.exp, i64 x.type]) (.agg #[str y.name, .bool y.exp, i64 y.type])).run Try.prog w = .ok (tb (x = y)) w := by
  rw [run_equalIn_struct w 9999 83 _ _ (by kernel_rfl) (by kernel_rfl)]
  simp only [Program.fieldsOf, Try.underlying83]
  obtain ⟨x1, x2, x3⟩ := x
  obtain ⟨y1, y2, y3⟩ := y
  simp [Op.eqFields, pt_s, pt_b, pt_i, eq_s, eq_b, eq_i]
  by_cases h1 : x1 = y1 <;> by_cases h2 : x2 = y2 <;> by_cases h3 : x3 = y3 <;> simp [h1, h2, h3, tb]
theorem par_eq (x y : Par) (w : World) : (Op.equalIn 10000 85 (.agg #[.bool x.byVar, i64 x.type]) (.agg #[.bool y.byVar, i64 y.type])).run Try.prog w = .ok (tb (x = y)) w := by
  rw [run_equalIn_struct w 9999 85 _ _ (by kernel_rfl) (by kernel_rfl)]
  simp only [Program.fieldsOf, Try.underlying85]
  obtain ⟨x2, x3⟩ := x
  obtain ⟨y2, y3⟩ := y
  simp [Op.eqFields, pt_b, pt_i, eq_b, eq_i]
  by_cases h2 : x2 = y2 <;> by_cases h3 : x3 = y3 <;> simp [h2, h3, tb]
theorem val_eq2 (x y : Val) (w : World) : (Op.equalIn 9999 32 (valV x) (valV y)).run Try.prog w = .ok (tb (x = y)) w := by
  unfold valV
  rw [run_equalIn_struct w 9998 32 _ _ (by kernel_rfl) (by kernel_rfl)]
  simp only [Program.fieldsOf, Try.underlying32]
  obtain ⟨x1, x2, x3⟩ := x
  obtain ⟨y1, y2, y3⟩ := y
  simp [Op.eqFields, pt_s, pt_i, eq_s, eq_i]
  by_cases h1 : x1 = y1 <;> by_cases h2 : x2 = y2 <;> by_cases h3 : x3 = y3 <;> simp [h1, h2, h3, tb]
theorem pt_v (x : Ob) (w : World) : (part 32 #[i64 x.cls, str x.name, i64 x.type, i64 x.val.form, i64 x.val.n, str x.val.text, i64 x.n] 3).run Try.prog w = .ok (valV x.val) w := by
  simp [part, isAgg, run_underlying Try.underlying32, sizeOf, valV]
  rw [show Try.t32.size = 3 from rfl]; rfl
theorem obj_eq (x y : Ob) (w : World) : (Op.equalIn 10000 34 (objV x) (objV y)).run Try.prog w = .ok (tb (x = y)) w := by
  unfold objV
  rw [run_equalIn_struct w 9999 34 _ _ (by kernel_rfl) (by kernel_rfl)]
  simp only [Program.fieldsOf, Try.underlying34]
  simp [Op.eqFields, pt_s, pt_i, eq_s, eq_i, pt_v, val_eq2]
  obtain ⟨x1, x2, x3, x4, x5⟩ := x
  obtain ⟨y1, y2, y3, y4, y5⟩ := y
  by_cases h1 : x1 = y1 <;> by_cases h2 : x2 = y2 <;> by_cases h3 : x3 = y3 <;> by_cases h4 : x4 = y4 <;> by_cases h5 : x5 = y5 <;> simp [h1, h2, h3, h4, h5, tb]
end
theorem eqUsed_fn {N : Nat} {h0 h : Heap} {vx vy : Value} {xs ys : List Used} (hx : SliceAt N h0 2 usedR vx xs) (hy : SliceAt N h0 2 usedR vy ys) (k0 : At N h0 h) :
    Does Try.prog 45 [vx, vy] h (fun v h' => h' = h ∧ v = .bool (tb (xs = ys))) := by
  have hmx : maxLen = 9223372036854775807 := by decide
  have hx0 := hx
  have hy0 := hy
  have hxl := hx.1
  obtain ⟨ax, cx, rfl⟩ := hx.form
  obtain ⟨ay, cy, rfl⟩ := hy.form
  refine fn_enter (N := 26) Try.func45 (by kernel_rfl) rfl rfl rfl (fun w0 => ?_)
  refine c_seq ?_; refine c_reg ?_; refine asg rfl rfl ?_; refine o_nil ?_; refine x_seq ?_
  refine c_seq ?_; refine c_seq ?_; refine c_reg ?_; refine mv rfl rfl (lnl rfl rfl (mv rfl rfl (lnl rfl rfl (nei rfl rfl rfl ?_))))
  refine o_nil ?_; refine x_seq ?_; refine c_cond rfl (fun c1 => ?_) (fun c1 => ?_)
  · refine c_seq ?_; refine c_reg ?_; refine asg rfl rfl ?_; refine o_nil ?_; refine x_seq ?_; refine c_ret ?_; refine x_seq_ret ?_
    refine ret1 (.inr rfl) rfl rfl ?_
    have c1 : ¬ xs.length = ys.length := by omega
    exact ⟨rfl, congrArg Value.bool (tb_f (fun e => c1 (by rw [e]))).symm⟩
  · have hlen : xs.length = ys.length := by omega
    refine c_skip ?_; refine x_seq ?_
    refine c_seq ?_; refine c_seq ?_; refine c_reg ?_; refine mv rfl rfl (lnl rfl rfl (mv rfl rfl ?_))
    refine o_nil ?_; refine x_seq ?_; refine c_blk ?_
    refine c_loop (α := Nat) (fun s => [(0, .slice ax xs.length cx), (1, .slice ay ys.length cy), (12, i64 (xs.length : Nat)), (13, i64 (s : Nat))]) (fun _ => h)
      (fun s => s ≤ xs.length ∧ xs.take s = ys.take s) (fun s => xs.length - s) 0 ⟨Nat.zero_le _, by simp⟩ ⟨rfl, rfl, rfl, rfl, trivial⟩ rfl (fun i hi => ?_)
    obtain ⟨hi, htk⟩ := hi
    change SC _ _ _ _ h
    refine c_seq ?_; refine c_reg ?_; refine lti rfl rfl rfl ?_; refine o_nil ?_; refine x_seq ?_
    refine c_seq ?_; refine c_cond rfl (fun c2 => ?_) (fun c2 => ?_)
    · have hlt : i < xs.length := by omega
      obtain ⟨x, hxi⟩ : ∃ x, xs[i]? = some x := ⟨_, List.getElem?_eq_getElem hlt⟩
      obtain ⟨y, hyi⟩ : ∃ y, ys[i]? = some y := ⟨_, List.getElem?_eq_getElem (by omega)⟩
      obtain ⟨b1, o1, cs1, ha1, hb1, hl1, hr1, hR1⟩ := SliceAt.el hx0 k0 hxi
      obtain ⟨b2, o2, cs2, ha2, hb2, hl2, hr2, hR2⟩ := SliceAt.el hy0 k0 hyi
      subst ha1
      subst ha2
      obtain ⟨rfl, -⟩ := hR1
      obtain ⟨rfl, -⟩ := hR2
      refine c_skip ?_; refine x_seq ?_
      refine c_seq ?_; refine c_blk ?_; refine c_seq ?_; refine c_reg ?_; refine mv rfl rfl (asg rfl rfl ?_)
      refine o_nil ?_; refine x_seq ?_; refine c_seq ?_; refine c_dreg (· = h) [0, 1, 2, 3, 4, 5, 6, 7, 8] rfl rfl (by kernel_rfl) ?_
      refine mv rfl rfl (mv rfl rfl (ixs rfl rfl (by omega) rfl (ldnI rfl rfl (fun _ hI => row_sub hr1 hI) rfl (mv rfl rfl (mv rfl rfl (ixs rfl rfl (by omega) rfl (ldnI rfl rfl (fun _ hI => row_sub hr2 hI) rfl ?_)))))))
      refine nest rfl rfl (fun w => used_eq x y w) rfl ?_; refine o_nil ?_; refine x_seq ?_; refine c_cond rfl (fun c3 => ?_) (fun c3 => ?_)
      · refine c_seq ?_; refine c_reg ?_; refine asg rfl rfl ?_; refine o_nil ?_; refine x_seq ?_; refine c_ret ?_; refine x_blk_ret ?_
        refine x_seq_ret ?_; refine x_loop_ret ?_; refine x_blk_ret ?_; refine x_seq_ret ?_; refine ret1 (.inr rfl) rfl rfl ?_
        have c3 : ¬ x = y := by simpa using c3
        refine ⟨rfl, congrArg Value.bool (tb_f (fun e => ?_)).symm⟩
        rw [e, hyi] at hxi
        exact c3 (Option.some.inj hxi).symm
      · have c3 : x = y := by simpa using c3
        refine c_skip ?_; refine x_blk ?_; refine x_seq ?_; refine c_reg ?_; refine add rfl rfl (by omega) rfl (mv rfl rfl ?_)
        refine o_nil ?_
        refine x_loop (i + 1) ⟨hlt, ?_⟩ (by omega) ⟨rfl, rfl, rfl, rfl, trivial⟩ rfl
        rw [List.take_add_one, List.take_add_one, hxi, hyi, htk, c3]
    · have hin : i = xs.length := by omega
      subst hin
      refine c_exit ?_; refine x_seq_exit ?_; refine x_loop_exit ?_; refine x_blk_hit ?_; refine x_seq ?_; refine c_seq ?_; refine c_reg ?_
      refine asg rfl rfl ?_; refine o_nil ?_; refine x_seq ?_; refine c_ret ?_; refine ret1 (.inr rfl) rfl rfl ?_
      refine ⟨rfl, congrArg Value.bool (tb_t ?_).symm⟩
      rw [List.take_length, hlen, List.take_length] at htk
      exact htk
theorem eqFld_fn {N : Nat} {h0 h : Heap} {vx vy : Value} {xs ys : List Fld} (hx : SliceAt N h0 3 fldR vx xs) (hy : SliceAt N h0 3 fldR vy ys) (k0 : At N h0 h) :
    Does Try.prog 49 [vx, vy] h (fun v h' => h' = h ∧ v = .bool (tb (xs = ys))) := by
  have hmx : maxLen = 9223372036854775807 := by decide
  have hx0 := hx
  have hy0 := hy
  have hxl := hx.1
  obtain ⟨ax, cx, rfl⟩ := hx.form
  obtain ⟨ay, cy, rfl⟩ := hy.form
  refine fn_enter (N := 26) Try.func49 (by kernel_rfl) rfl rfl rfl (fun w0 => ?_)
  refine c_seq ?_; refine c_reg ?_; refine asg rfl rfl ?_; refine o_nil ?_; refine x_seq ?_
  refine c_seq ?_; refine c_seq ?_; refine c_reg ?_; refine mv rfl rfl (lnl rfl rfl (mv rfl rfl (lnl rfl rfl (nei rfl rfl rfl ?_))))
  refine o_nil ?_; refine x_seq ?_; refine c_cond rfl (fun c1 => ?_) (fun c1 => ?_)
  · refine c_seq ?_; refine c_reg ?_; refine asg rfl rfl ?_; refine o_nil ?_; refine x_seq ?_; refine c_ret ?_; refine x_seq_ret ?_
    refine ret1 (.inr rfl) rfl rfl ?_
    have c1 : ¬ xs.length = ys.length := by omega
    exact ⟨rfl, congrArg Value.bool (tb_f (fun e => c1 (by rw [e]))).symm⟩
  · have hlen : xs.length = ys.length := by omega
    refine c_skip ?_; refine x_seq ?_
    refine c_seq ?_; refine c_seq ?_; refine c_reg ?_; refine mv rfl rfl (lnl rfl rfl (mv rfl rfl ?_))
    refine o_nil ?_; refine x_seq ?_; refine c_blk ?_
    refine c_loop (α := Nat) (fun s => [(0, .slice ax xs.length cx), (1, .slice ay ys.length cy), (12, i64 (xs.length : Nat)), (13, i64 (s : Nat))]) (fun _ => h)
      (fun s => s ≤ xs.length ∧ xs.take s = ys.take s) (fun s => xs.length - s) 0 ⟨Nat.zero_le _, by simp⟩ ⟨rfl, rfl, rfl, rfl, trivial⟩ rfl (fun i hi => ?_)
    obtain ⟨hi, htk⟩ := hi
    change SC _ _ _ _ h
    refine c_seq ?_; refine c_reg ?_; refine lti rfl rfl rfl ?_; refine o_nil ?_; refine x_seq ?_
    refine c_seq ?_; refine c_cond rfl (fun c2 => ?_) (fun c2 => ?_)
    · have hlt : i < xs.length := by omega
      obtain ⟨x, hxi⟩ : ∃ x, xs[i]? = some x := ⟨_, List.getElem?_eq_getElem hlt⟩
      obtain ⟨y, hyi⟩ : ∃ y, ys[i]? = some y := ⟨_, List.getElem?_eq_getElem (by omega)⟩
      obtain ⟨b1, o1, cs1, ha1, hb1, hl1, hr1, hR1⟩ := SliceAt.el hx0 k0 hxi
      obtain ⟨b2, o2, cs2, ha2, hb2, hl2, hr2, hR2⟩ := SliceAt.el hy0 k0 hyi
      subst ha1
      subst ha2
      obtain ⟨rfl, -⟩ := hR1
      obtain ⟨rfl, -⟩ := hR2
      refine c_skip ?_; refine x_seq ?_
      refine c_seq ?_; refine c_blk ?_; refine c_seq ?_; refine c_reg ?_; refine mv rfl rfl (asg rfl rfl ?_)
      refine o_nil ?_; refine x_seq ?_; refine c_seq ?_; refine c_dreg (· = h) [0, 1, 2, 3, 4, 5, 6, 7, 8] rfl rfl (by kernel_rfl) ?_
      refine mv rfl rfl (mv rfl rfl (ixs rfl rfl (by omega) rfl (ldnI rfl rfl (fun _ hI => row_sub hr1 hI) rfl (mv rfl rfl (mv rfl rfl (ixs rfl rfl (by omega) rfl (ldnI rfl rfl (fun _ hI => row_sub hr2 hI) rfl ?_)))))))
      refine nest rfl rfl (fun w => fld_eq x y w) rfl ?_; refine o_nil ?_; refine x_seq ?_; refine c_cond rfl (fun c3 => ?_) (fun c3 => ?_)
      · refine c_seq ?_; refine c_reg ?_; refine asg rfl rfl ?_; refine o_nil ?_; refine x_seq ?_; refine c_ret ?_; refine x_blk_ret ?_
        refine x_seq_ret ?_; refine x_loop_ret ?_; refine x_blk_ret ?_; refine x_seq_ret ?_; refine ret1 (.inr rfl) rfl rfl ?_
        have c3 : ¬ x = y := by simpa using c3
        refine ⟨rfl, congrArg Value.bool (tb_f (fun e => ?_)).symm⟩
        rw [e, hyi] at hxi
        exact c3 (Option.some.inj hxi).symm
      · have c3 : x = y := by simpa using c3
        refine c_skip ?_; refine x_blk ?_; refine x_seq ?_; refine c_reg ?_; refine add rfl rfl (by omega) rfl (mv rfl rfl ?_)
        refine o_nil ?_
        refine x_loop (i + 1) ⟨hlt, ?_⟩ (by omega) ⟨rfl, rfl, rfl, rfl, trivial⟩ rfl
        rw [List.take_add_one, List.take_add_one, hxi, hyi, htk, c3]
    · have hin : i = xs.length := by omega
      subst hin
      refine c_exit ?_; refine x_seq_exit ?_; refine x_loop_exit ?_; refine x_blk_hit ?_; refine x_seq ?_; refine c_seq ?_; refine c_reg ?_
      refine asg rfl rfl ?_; refine o_nil ?_; refine x_seq ?_; refine c_ret ?_; refine ret1 (.inr rfl) rfl rfl ?_
      refine ⟨rfl, congrArg Value.bool (tb_t ?_).symm⟩
      rw [List.take_length, hlen, List.take_length] at htk
      exact htk
theorem eqPar_fn {N : Nat} {h0 h : Heap} {vx vy : Value} {xs ys : List Par} (hx : SliceAt N h0 2 parR vx xs) (hy : SliceAt N h0 2 parR vy ys) (k0 : At N h0 h) :
    Does Try.prog 50 [vx, vy] h (fun v h' => h' = h ∧ v = .bool (tb (xs = ys))) := by
  have hmx : maxLen = 9223372036854775807 := by decide
  have hx0 := hx
  have hy0 := hy
  have hxl := hx.1
  obtain ⟨ax, cx, rfl⟩ := hx.form
  obtain ⟨ay, cy, rfl⟩ := hy.form
  refine fn_enter (N := 26) Try.func50 (by kernel_rfl) rfl rfl rfl (fun w0 => ?_)
  refine c_seq ?_; refine c_reg ?_; refine asg rfl rfl ?_; refine o_nil ?_; refine x_seq ?_
  refine c_seq ?_; refine c_seq ?_; refine c_reg ?_; refine mv rfl rfl (lnl rfl rfl (mv rfl rfl (lnl rfl rfl (nei rfl rfl rfl ?_))))
  refine o_nil ?_; refine x_seq ?_; refine c_cond rfl (fun c1 => ?_) (fun c1 => ?_)
  · refine c_seq ?_; refine c_reg ?_; refine asg rfl rfl ?_; refine o_nil ?_; refine x_seq ?_; refine c_ret ?_; refine x_seq_ret ?_
    refine ret1 (.inr rfl) rfl rfl ?_
    have c1 : ¬ xs.length = ys.length := by omega
    exact ⟨rfl, congrArg Value.bool (tb_f (fun e => c1 (by rw [e]))).symm⟩
  · have hlen : xs.length = ys.length := by omega
    refine c_skip ?_; refine x_seq ?_
    refine c_seq ?_; refine c_seq ?_; refine c_reg ?_; refine mv rfl rfl (lnl rfl rfl (mv rfl rfl ?_))
    refine o_nil ?_; refine x_seq ?_; refine c_blk ?_
    refine c_loop (α := Nat) (fun s => [(0, .slice ax xs.length cx), (1, .slice ay ys.length cy), (12, i64 (xs.length : Nat)), (13, i64 (s : Nat))]) (fun _ => h)
      (fun s => s ≤ xs.length ∧ xs.take s = ys.take s) (fun s => xs.length - s) 0 ⟨Nat.zero_le _, by simp⟩ ⟨rfl, rfl, rfl, rfl, trivial⟩ rfl (fun i hi => ?_)
    obtain ⟨hi, htk⟩ := hi
    change SC _ _ _ _ h
    refine c_seq ?_; refine c_reg ?_; refine lti rfl rfl rfl ?_; refine o_nil ?_; refine x_seq ?_
    refine c_seq ?_; refine c_cond rfl (fun c2 => ?_) (fun c2 => ?_)
    · have hlt : i < xs.length := by omega
      obtain ⟨x, hxi⟩ : ∃ x, xs[i]? = some x := ⟨_, List.getElem?_eq_getElem hlt⟩
      obtain ⟨y, hyi⟩ : ∃ y, ys[i]? = some y := ⟨_, List.getElem?_eq_getElem (by omega)⟩
      obtain ⟨b1, o1, cs1, ha1, hb1, hl1, hr1, hR1⟩ := SliceAt.el hx0 k0 hxi
      obtain ⟨b2, o2, cs2, ha2, hb2, hl2, hr2, hR2⟩ := SliceAt.el hy0 k0 hyi
      subst ha1
      subst ha2
      obtain ⟨rfl, -⟩ := hR1
      obtain ⟨rfl, -⟩ := hR2
      refine c_skip ?_; refine x_seq ?_
      refine c_seq ?_; refine c_blk ?_; refine c_seq ?_; refine c_reg ?_; refine mv rfl rfl (asg rfl rfl ?_)
      refine o_nil ?_; refine x_seq ?_; refine c_seq ?_; refine c_dreg (· = h) [0, 1, 2, 3, 4, 5, 6, 7, 8] rfl rfl (by kernel_rfl) ?_
      refine mv rfl rfl (mv rfl rfl (ixs rfl rfl (by omega) rfl (ldnI rfl rfl (fun _ hI => row_sub hr1 hI) rfl (mv rfl rfl (mv rfl rfl (ixs rfl rfl (by omega) rfl (ldnI rfl rfl (fun _ hI => row_sub hr2 hI) rfl ?_)))))))
      refine nest rfl rfl (fun w => par_eq x y w) rfl ?_; refine o_nil ?_; refine x_seq ?_; refine c_cond rfl (fun c3 => ?_) (fun c3 => ?_)
      · refine c_seq ?_; refine c_reg ?_; refine asg rfl rfl ?_; refine o_nil ?_; refine x_seq ?_; refine c_ret ?_; refine x_blk_ret ?_
        refine x_seq_ret ?_; refine x_loop_ret ?_; refine x_blk_ret ?_; refine x_seq_ret ?_; refine ret1 (.inr rfl) rfl rfl ?_
        have c3 : ¬ x = y := by simpa using c3
        refine ⟨rfl, congrArg Value.bool (tb_f (fun e => ?_)).symm⟩
        rw [e, hyi] at hxi
        exact c3 (Option.some.inj hxi).symm
      · have c3 : x = y := by simpa using c3
        refine c_skip ?_; refine x_blk ?_; refine x_seq ?_; refine c_reg ?_; refine add rfl rfl (by omega) rfl (mv rfl rfl ?_)
        refine o_nil ?_
        refine x_loop (i + 1) ⟨hlt, ?_⟩ (by omega) ⟨rfl, rfl, rfl, rfl, trivial⟩ rfl
        rw [List.take_add_one, List.take_add_one, hxi, hyi, htk, c3]
    · have hin : i = xs.length := by omega
      subst hin
      refine c_exit ?_; refine x_seq_exit ?_; refine x_loop_exit ?_; refine x_blk_hit ?_; refine x_seq ?_; refine c_seq ?_; refine c_reg ?_
      refine asg rfl rfl ?_; refine o_nil ?_; refine x_seq ?_; refine c_ret ?_; refine ret1 (.inr rfl) rfl rfl ?_
      refine ⟨rfl, congrArg Value.bool (tb_t ?_).symm⟩
      rw [List.take_length, hlen, List.take_length] at htk
      exact htk
theorem eqObj_fn {N : Nat} {h0 h : Heap} {vx vy : Value} {xs ys : List Ob} (hx : SliceAt N h0 7 objR vx xs) (hy : SliceAt N h0 7 objR vy ys) (k0 : At N h0 h) :
    Does Try.prog 46 [vx, vy] h (fun v h' => h' = h ∧ v = .bool (tb (xs = ys))) := by
  have hmx : maxLen = 9223372036854775807 := by decide
  have hx0 := hx
  have hy0 := hy
  have hxl := hx.1
  obtain ⟨ax, cx, rfl⟩ := hx.form
  obtain ⟨ay, cy, rfl⟩ := hy.form
  refine fn_enter (N := 26) Try.func46 (by kernel_rfl) rfl rfl rfl (fun w0 => ?_)
  refine c_seq ?_; refine c_reg ?_; refine asg rfl rfl ?_; refine o_nil ?_; refine x_seq ?_
  refine c_seq ?_; refine c_seq ?_; refine c_reg ?_; refine mv rfl rfl (lnl rfl rfl (mv rfl rfl (lnl rfl rfl (nei rfl rfl rfl ?_))))
  refine o_nil ?_; refine x_seq ?_; refine c_cond rfl (fun c1 => ?_) (fun c1 => ?_)
  · refine c_seq ?_; refine c_reg ?_; refine asg rfl rfl ?_; refine o_nil ?_; refine x_seq ?_; refine c_ret ?_; refine x_seq_ret ?_
    refine ret1 (.inr rfl) rfl rfl ?_
    have c1 : ¬ xs.length = ys.length := by omega
    exact ⟨rfl, congrArg Value.bool (tb_f (fun e => c1 (by rw [e]))).symm⟩
  · have hlen : xs.length = ys.length := by omega
    refine c_skip ?_; refine x_seq ?_
    refine c_seq ?_; refine c_seq ?_; refine c_reg ?_; refine mv rfl rfl (lnl rfl rfl (mv rfl rfl ?_))
    refine o_nil ?_; refine x_seq ?_; refine c_blk ?_
    refine c_loop (α := Nat) (fun s => [(0, .slice ax xs.length cx), (1, .slice ay ys.length cy), (12, i64 (xs.length : Nat)), (13, i64 (s : Nat))]) (fun _ => h)
      (fun s => s ≤ xs.length ∧ xs.take s = ys.take s) (fun s => xs.length - s) 0 ⟨Nat.zero_le _, by simp⟩ ⟨rfl, rfl, rfl, rfl, trivial⟩ rfl (fun i hi => ?_)
    obtain ⟨hi, htk⟩ := hi
    change SC _ _ _ _ h
    refine c_seq ?_; refine c_reg ?_; refine lti rfl rfl rfl ?_; refine o_nil ?_; refine x_seq ?_
    refine c_seq ?_; refine c_cond rfl (fun c2 => ?_) (fun c2 => ?_)
    · have hlt : i < xs.length := by omega
      obtain ⟨x, hxi⟩ : ∃ x, xs[i]? = some x := ⟨_, List.getElem?_eq_getElem hlt⟩
      obtain ⟨y, hyi⟩ : ∃ y, ys[i]? = some y := ⟨_, List.getElem?_eq_getElem (by omega)⟩
      obtain ⟨b1, o1, cs1, ha1, hb1, hl1, hr1, hR1⟩ := SliceAt.el hx0 k0 hxi
      obtain ⟨b2, o2, cs2, ha2, hb2, hl2, hr2, hR2⟩ := SliceAt.el hy0 k0 hyi
      subst ha1
      subst ha2
      obtain ⟨rfl, -⟩ := hR1
      obtain ⟨rfl, -⟩ := hR2
      refine c_skip ?_; refine x_seq ?_
      refine c_seq ?_; refine c_blk ?_; refine c_seq ?_; refine c_reg ?_; refine mv rfl rfl (asg rfl rfl ?_)
      refine o_nil ?_; refine x_seq ?_; refine c_seq ?_; refine c_dreg (· = h) [0, 1, 2, 3, 4, 5, 6, 7, 8] rfl rfl (by kernel_rfl) ?_
      refine mv rfl rfl (mv rfl rfl (ixs rfl rfl (by omega) rfl (ldnI rfl rfl (fun _ hI => row_sub hr1 hI) rfl (mv rfl rfl (mv rfl rfl (ixs rfl rfl (by omega) rfl (ldnI rfl rfl (fun _ hI => row_sub hr2 hI) rfl ?_)))))))
      refine nest rfl rfl (fun w => obj_eq x y w) rfl ?_; refine o_nil ?_; refine x_seq ?_; refine c_cond rfl (fun c3 => ?_) (fun c3 => ?_)
      · refine c_seq ?_; refine c_reg ?_; refine asg rfl rfl ?_; refine o_nil ?_; refine x_seq ?_; refine c_ret ?_; refine x_blk_ret ?_
        refine x_seq_ret ?_; refine x_loop_ret ?_; refine x_blk_ret ?_; refine x_seq_ret ?_; refine ret1 (.inr rfl) rfl rfl ?_
        have c3 : ¬ x = y := by simpa using c3
        refine ⟨rfl, congrArg Value.bool (tb_f (fun e => ?_)).symm⟩
        rw [e, hyi] at hxi
        exact c3 (Option.some.inj hxi).symm
      · have c3 : x = y := by simpa using c3
        refine c_skip ?_; refine x_blk ?_; refine x_seq ?_; refine c_reg ?_; refine add rfl rfl (by omega) rfl (mv rfl rfl ?_)
        refine o_nil ?_
        refine x_loop (i + 1) ⟨hlt, ?_⟩ (by omega) ⟨rfl, rfl, rfl, rfl, trivial⟩ rfl
        rw [List.take_add_one, List.take_add_one, hxi, hyi, htk, c3]
    · have hin : i = xs.length := by omega
      subst hin
      refine c_exit ?_; refine x_seq_exit ?_; refine x_loop_exit ?_; refine x_blk_hit ?_; refine x_seq ?_; refine c_seq ?_; refine c_reg ?_
      refine asg rfl rfl ?_; refine o_nil ?_; refine x_seq ?_; refine c_ret ?_; refine ret1 (.inr rfl) rfl rfl ?_
      refine ⟨rfl, congrArg Value.bool (tb_t ?_).symm⟩
      rw [List.take_length, hlen, List.take_length] at htk
      exact htk
end Go.Proofs.Ytgnkfegkdjfnjaa
