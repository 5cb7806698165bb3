/- Vectors and events held against each other by Go's own '=='; an element of an array by value. -/
import Derived.Test.YthmnohecmmknpaaDoorVecA
import Derived.Laws.StructEq
import Derived.Test.YthmnohecmmknpaaDoorWEqStruct
import Derived.Test.YthmnohecmmknpaaDoorWWords
namespace Go.Proofs.YthmnohecmmknpaaDoor.Vec
open Go.RowKit Go.Proofs.YthmnohecmmknpaaDoorW.PrintWords
set_option linter.unusedVariables false
set_option linter.unusedSimpArgs false
theorem part_one {P : Program} {t : TypeId} {cs : List Value} {off : Nat} {v : Value} (hagg : ∀ w, (isAgg t).run P w = .ok false w) (h : cs[off]? = some v) (w : World) : (part t cs.toArray off).run P w = .ok v w := by
  have h' : cs.toArray[off]? = some v := by simpa using h
  simp [part, hagg, h', Sem.run_bind]
theorem part_row {P : Program} {t : TypeId} {n : Nat} {a c d : List Value} (off : Nat) (ho : off = a.length) (hagg : ∀ w, (isAgg t).run P w = .ok true w) (hsz : ∀ w, (sizeOf t).run P w = .ok n w) (hn : c.length = n) (w : World) :
    (part t (a ++ (c ++ d)).toArray off).run P w = .ok (.agg c.toArray) w := by
  subst hn
  subst ho
  simp [part, hagg, hsz, Sem.run_bind]
theorem vindex (v : Vc) (i : Nat) (hi : i < 16) (w : World) : (Instr.index 26 (.agg (vcells v).toArray) (.int .i64 (i : Int))).run Tryd.prog w = .ok (.int .i64 (v.at i)) w := by
  have h2 : ((i : Int) < 16) = True := eq_true (by omega)
  have h1 : (0 ≤ (i : Int)) = True := eq_true (by omega)
  have h := part_one (P := Tryd.prog) (t := 3) (off := i * 1) Tryd.isAgg3 (by rw [Nat.mul_one]; exact vcells_at v i hi) w
  simp only [Instr.index, asIntOf, Sem.run_bind, Sem.run_pure, Result.andThen_ok, run_underlying Tryd.underlying26, Tryd.sizeOf3, h1, h2, and_self, if_true, Int.toNat_natCast, h, Int.cast_ofNat_Int]
theorem eq_loop (a b : Vc) (d : Nat) : ∀ (js : List Nat) (w : World), (∀ j ∈ js, j < 16) →
    (forIn js ((none, ()) : Option Bool × Unit) (fun i (_ : Option Bool × Unit) => (do
      let x ← part 3 (vcells a).toArray (i * 1)
      let y ← part 3 (vcells b).toArray (i * 1)
      let r ← Op.equalIn (d + 1) 3 x y
      if (!r) = true then pure (ForInStep.done (some false, ())) else pure (ForInStep.yield (none, ())) : Sem (ForInStep (Option Bool × Unit))))).run Tryd.prog w = .ok (if ∀ j ∈ js, a.at j = b.at j then (none, ()) else (some false, ())) w
  | [], w, _ => by simp
  | j :: js, w, h => by
    have hj := h j (by simp)
    have ha := part_one (P := Tryd.prog) (t := 3) (off := j * 1) Tryd.isAgg3 (by rw [Nat.mul_one]; exact vcells_at a j hj)
    have hb := part_one (P := Tryd.prog) (t := 3) (off := j * 1) Tryd.isAgg3 (by rw [Nat.mul_one]; exact vcells_at b j hj)
    have ih := eq_loop a b d js w (fun j hj => h j (by simp [hj]))
    rw [List.forIn_cons]
    simp only [Sem.run_bind, ha, hb, Result.andThen_ok, run_equalIn_int w d 3 .i64 .i64 _ _ Tryd.underlying3, Sem.run_ite, Sem.run_pure]
    by_cases e : a.at j = b.at j
    · simp only [e, beq_self_eq_true, Bool.not_true, Bool.false_eq_true, if_false, Result.andThen_ok]
      rw [ih]
      simp [e]
    · simp only [beq_eq_false_iff_ne.2 e, Bool.not_false, if_true, Result.andThen_ok, Sem.run_pure]
      rw [if_neg (by simp [e])]
theorem vc_eq_iff {a b : Vc} : a = b ↔ ∀ j ∈ List.range' 0 16, a.at j = b.at j := by
  constructor
  · rintro rfl _ _
    rfl
  · intro h
    exact vc_ext fun i hi => h i (by simp [List.mem_range'_1]; omega)
theorem eqv (a b : Vc) (d : Nat) (w : World) : (Op.equalIn (d + 2) 26 (.agg (vcells a).toArray) (.agg (vcells b).toArray)).run Tryd.prog w = .ok (decide (a = b)) w := by
  rw [Op.equalIn]
  simp only [Sem.run_bind, run_underlying Tryd.underlying26, Result.andThen_ok, Tryd.sizeOf3]
  have h := eq_loop a b d (List.range' 0 16) w (by simp [List.mem_range'_1])
  have e : forIn [:16] ((none, ()) : Option Bool × Unit) (fun i (_ : Option Bool × Unit) => (do
      let x ← part 3 (vcells a).toArray (i * 1)
      let y ← part 3 (vcells b).toArray (i * 1)
      let r ← Op.equalIn (d + 1) 3 x y
      if (!r) = true then pure (ForInStep.done (some false, ())) else pure (ForInStep.yield (none, ())) : Sem (ForInStep (Option Bool × Unit)))) = forIn (List.range' 0 16) ((none, ()) : Option Bool × Unit) (fun i (_ : Option Bool × Unit) => (do
      let x ← part 3 (vcells a).toArray (i * 1)
      let y ← part 3 (vcells b).toArray (i * 1)
      let r ← Op.equalIn (d + 1) 3 x y
      if (!r) = true then pure (ForInStep.done (some false, ())) else pure (ForInStep.yield (none, ())) : Sem (ForInStep (Option Bool × Unit)))) := by
    rw [Std.Legacy.Range.forIn_eq_forIn_range']
    rfl
  rw [e, h]
  by_cases he : a = b
  · rw [if_pos (vc_eq_iff.1 he)]
    simp [he]
  · rw [if_neg (fun hh => he (vc_eq_iff.2 hh))]
    simp [he]
theorem eqv_run (a b : Vc) (w : World) : (binOp .eql 26 (.agg (vcells a).toArray) (.agg (vcells b).toArray)).run Tryd.prog w = .ok (.bool (decide (a = b))) w := by
  have := eqv a b 9998 w
  simp only [binOp, Op.equal, Op.maxDepth, Sem.run_bind]
  rw [this]
  simp
theorem bs_beq (a b : ByteArray) : (a == b) = decide (a = b) := by
  obtain ⟨x⟩ := a
  obtain ⟨y⟩ := b
  show (x == y) = _
  rw [Bool.eq_iff_iff]
  simp
theorem eqi (a b : Int) (d : Nat) (w : World) : (Op.equalIn (d + 1) 3 (.int .i64 a) (.int .i64 b)).run Tryd.prog w = .ok (a == b) w := run_equalIn_int w d 3 .i64 .i64 a b Tryd.underlying3
theorem eqs (a b : ByteArray) (d : Nat) (w : World) : (Op.equalIn (d + 1) 9 (.string a) (.string b)).run Tryd.prog w = .ok (a == b) w := by simp [Op.equalIn, run_underlying Tryd.underlying9]
theorem eqdot (r c r' c' : Int) (d : Nat) (w : World) : (Op.equalIn (d + 2) 30 (.agg #[.int .i64 r, .int .i64 c]) (.agg #[.int .i64 r', .int .i64 c'])).run Tryd.prog w = .ok (r == r' && c == c') w :=
  eqA_of Tryd.underlying30 Tryd.stoodInHeld30 (eqf_cons rfl (part_one (cs := [.int .i64 r, .int .i64 c]) Tryd.isAgg3 rfl _) (part_one (cs := [.int .i64 r', .int .i64 c']) Tryd.isAgg3 rfl _) (eqi _ _ _ _)
    (eqf_last rfl (part_one (cs := [.int .i64 r, .int .i64 c]) Tryd.isAgg3 rfl _) (part_one (cs := [.int .i64 r', .int .i64 c']) Tryd.isAgg3 rfl _) (eqi _ _ _ _)))
theorem eqelem (e f : Ev) (d : Nat) (w : World) : (Op.equalIn (d + 2) 32 (.agg (elemc e).toArray) (.agg (elemc f).toArray)).run Tryd.prog w = .ok (e.kind == f.kind && (e.a == f.a && (e.b == f.b && (e.c == f.c && e.d == f.d)))) w :=
  eqA_of Tryd.underlying32 Tryd.stoodInHeld32 (eqf_cons rfl (part_one (cs := elemc e) Tryd.isAgg3 rfl _) (part_one (cs := elemc f) Tryd.isAgg3 rfl _) (eqi _ _ _ _)
    (eqf_cons rfl (part_one (cs := elemc e) Tryd.isAgg9 rfl _) (part_one (cs := elemc f) Tryd.isAgg9 rfl _) (eqs _ _ _ _)
    (eqf_cons rfl (part_one (cs := elemc e) Tryd.isAgg9 rfl _) (part_one (cs := elemc f) Tryd.isAgg9 rfl _) (eqs _ _ _ _)
    (eqf_cons rfl (part_one (cs := elemc e) Tryd.isAgg9 rfl _) (part_one (cs := elemc f) Tryd.isAgg9 rfl _) (eqs _ _ _ _)
    (eqf_last rfl (part_one (cs := elemc e) Tryd.isAgg9 rfl _) (part_one (cs := elemc f) Tryd.isAgg9 rfl _) (eqs _ _ _ _))))))
theorem eqval (e f : Ev) (d : Nat) (w : World) : (Op.equalIn (d + 2) 34 (.agg (valc e).toArray) (.agg (valc f).toArray)).run Tryd.prog w = .ok (e.vk == f.vk && (e.vn == f.vn && e.vt == f.vt)) w :=
  eqA_of Tryd.underlying34 Tryd.stoodInHeld34 (eqf_cons rfl (part_one (cs := valc e) Tryd.isAgg3 rfl _) (part_one (cs := valc f) Tryd.isAgg3 rfl _) (eqi _ _ _ _)
    (eqf_cons rfl (part_one (cs := valc e) Tryd.isAgg3 rfl _) (part_one (cs := valc f) Tryd.isAgg3 rfl _) (eqi _ _ _ _)
    (eqf_last rfl (part_one (cs := valc e) Tryd.isAgg9 rfl _) (part_one (cs := valc f) Tryd.isAgg9 rfl _) (eqs _ _ _ _))))
theorem part_dot (e : Ev) (w : World) : (part 30 (ecells e).toArray 0).run Tryd.prog w = .ok (.agg #[.int .i64 e.rep, .int .i64 e.cnt]) w :=
  part_row (a := []) (c := [.int .i64 e.rep, .int .i64 e.cnt]) (d := vcells e.past ++ etail e) 0 rfl Tryd.isAgg30 Tryd.sizeOf30 rfl w
theorem part_past (e : Ev) (w : World) : (part 26 (ecells e).toArray 2).run Tryd.prog w = .ok (.agg (vcells e.past).toArray) w :=
  part_row (a := [.int .i64 e.rep, .int .i64 e.cnt]) (c := vcells e.past) (d := etail e) 2 rfl Tryd.isAgg26 Tryd.sizeOf26 (vcells_len _) w
theorem ecells_op (e : Ev) : (ecells e)[18]? = some (.int .i64 e.op) := by
  unfold ecells
  rw [List.getElem?_append_right (by simp), List.getElem?_append_right (by simp [vcells_len])]
  simp [vcells_len, etail]
theorem part_op (e : Ev) (w : World) : (part 3 (ecells e).toArray 18).run Tryd.prog w = .ok (.int .i64 e.op) w := part_one Tryd.isAgg3 (ecells_op e) w
theorem part_elem (e : Ev) (w : World) : (part 32 (ecells e).toArray 19).run Tryd.prog w = .ok (.agg (elemc e).toArray) w := by
  rw [ecells_elem]
  exact part_row 19 (by simp [vcells_len]) Tryd.isAgg32 Tryd.sizeOf32 rfl w
theorem part_val (e : Ev) (w : World) : (part 34 (ecells e).toArray 24).run Tryd.prog w = .ok (.agg (valc e).toArray) w := by
  rw [ecells_val]
  exact part_row 24 (by simp [vcells_len, elemc]) Tryd.isAgg34 Tryd.sizeOf34 rfl w
def eqEvB (e f : Ev) : Bool := (e.rep == f.rep && e.cnt == f.cnt) && (decide (e.past = f.past) && (e.op == f.op && ((e.kind == f.kind && (e.a == f.a && (e.b == f.b && (e.c == f.c && e.d == f.d)))) && (e.vk == f.vk && (e.vn == f.vn && e.vt == f.vt)))))
theorem eqEvB_iff (e f : Ev) : eqEvB e f = decide (e = f) := by
  rw [Bool.eq_iff_iff, decide_eq_true_eq]
  cases e
  cases f
  simp only [eqEvB, bs_beq, Bool.and_eq_true, beq_iff_eq, decide_eq_true_eq, Ev.mk.injEq]
  constructor
  · rintro ⟨⟨h1, h2⟩, h3, h4, ⟨h5, h6, h7, h8, h9⟩, h10, h11, h12⟩
    exact ⟨h1, h2, h3, h4, h5, h6, h7, h8, h9, h10, h11, h12⟩
  · rintro ⟨h1, h2, h3, h4, h5, h6, h7, h8, h9, h10, h11, h12⟩
    exact ⟨⟨h1, h2⟩, h3, h4, ⟨h5, h6, h7, h8, h9⟩, h10, h11, h12⟩
theorem eqev (e f : Ev) (d : Nat) (w : World) : (Op.equalIn (d + 3) 36 (.agg (ecells e).toArray) (.agg (ecells f).toArray)).run Tryd.prog w = .ok (decide (e = f)) w := by
  rw [← eqEvB_iff]
  exact eqA_of Tryd.underlying36 Tryd.stoodInHeld36 (eqf_cons rfl (part_dot e _) (part_dot f _) (eqdot _ _ _ _ _ _)
    (eqf_cons rfl (part_past e _) (part_past f _) (eqv _ _ _ _)
    (eqf_cons rfl (part_op e _) (part_op f _) (eqi _ _ _ _)
    (eqf_cons rfl (part_elem e _) (part_elem f _) (eqelem _ _ _ _)
    (eqf_last rfl (part_val e _) (part_val f _) (eqval _ _ _ _))))))
theorem eqev_run (e f : Ev) (w : World) : (binOp .eql 36 (.agg (ecells e).toArray) (.agg (ecells f).toArray)).run Tryd.prog w = .ok (.bool (decide (e = f))) w := by
  have := eqev e f 9997 w
  simp only [binOp, Op.equal, Op.maxDepth, Sem.run_bind]
  rw [this]
  simp
section
variable {ops : Array Oper} {o : Oper} {a : Act}
theorem gy_index {x y : Operand} {v : Vc} {i : Nat} (hw : Region.wanted o (yielded ops a.tmps) = true) (ho : o.op = .index 26 x y) (hx : a.eval x = .agg (vcells v).toArray) (hy : a.eval y = .int .i64 (i : Int)) (hi : i < 16) :
    Yields Tryd.prog ops o (.int .i64 (v.at i)) a := gy_pure hw fun w => by
  unfold execOp
  simp only [ho, hx, hy, Sem.run_bind, vindex v i hi w, Result.andThen_ok, Sem.run_pure]
theorem gy_eqv {x y : Operand} {u v : Vc} (hw : Region.wanted o (yielded ops a.tmps) = true) (ho : o.op = .binOp .eql 26 x y 26) (hx : a.eval x = .agg (vcells u).toArray) (hy : a.eval y = .agg (vcells v).toArray) :
    Yields Tryd.prog ops o (.bool (decide (u = v))) a := gy_pure hw fun w => by
  unfold execOp
  simp only [ho, hx, hy, Sem.run_bind, run_eqGuard_agg w _ _ _ _ _ _ Tryd.eqGuardType26, eqv_run u v w, Result.andThen_ok, Sem.run_pure]
theorem gy_eqev {x y : Operand} {u v : Ev} (hw : Region.wanted o (yielded ops a.tmps) = true) (ho : o.op = .binOp .eql 36 x y 36) (hx : a.eval x = .agg (ecells u).toArray) (hy : a.eval y = .agg (ecells v).toArray) :
    Yields Tryd.prog ops o (.bool (decide (u = v))) a := gy_pure hw fun w => by
  unfold execOp
  simp only [ho, hx, hy, Sem.run_bind, run_eqGuard_agg w _ _ _ _ _ _ Tryd.eqGuardType36, eqev_run u v w, Result.andThen_ok, Sem.run_pure]
end
end Go.Proofs.YthmnohecmmknpaaDoor.Vec
namespace Go.Proofs.YthmnohecmmknpaaDoor.Vec
open Go.RowKit
set_option linter.unusedVariables false
set_option linter.unusedSimpArgs false
set_option maxRecDepth 100000
set_option maxHeartbeats 1000000 in
theorem Next_calls {v : Vc} {r c : Int} {b : Bool} (hb : nextB v r c = b) (w : World) :
    Calls Tryd.prog 25 #[vval v, dval r c] w fun e w' => e = .returned (.bool b) ∧ Ext w w' := by
  obtain ⟨W0, b0, hW, hb0, hx, hv, hdt⟩ := boxes_vd w v r c
  have rd := blk_range (cs := [.int .i64 r, .int .i64 c]) hdt
  have c0 : W0.cell? ⟨b0 + 1, 0, none⟩ = some (.int .i64 r) := (blk_cell hdt 0).trans rfl
  have c1 : W0.cell? ⟨b0 + 1, 1, none⟩ = some (.int .i64 c) := (blk_cell hdt 1).trans rfl
  unfold vval
  cases hd : dotB r c with
  | false =>
    have hk : false = b := by rw [← hb, nextB, hd, Bool.false_and]
    subst hk
    have HD := Lib.hid hd
    have HX := Lib.hid hx
    have HW := Lib.hid hW
    have HS := Lib.hid hb0
    clear hb hd hx hv hdt hW hb0
    go_enter Tryd.func25, Tryd.ntmps25
    go_wp2
    rw [HW.out, HS.out]
    refine g_begin (by kernel_rfl) (Ext.refl W0) #[false, false, false, false, false, false, false, false, false, false, false, false, false] 13 rfl rfl ?_
    refine g_take 0 #[true, false, false, false, false, false, false, false, false, false, false, false, false] (N := some 5) rfl rfl (by kernel_rfl) (fun _ _ _ h => h) (GP.rd (by rfl) (gy_row (by rfl) rfl (by rfl) (by with_reducible assumption) Tryd.underlying30 rfl (by first | exact vinfo _ | exact einfo _ | kernel_rfl))) (by simp only [Act.put, List.setIfInBounds_toArray, List.set_cons_zero, List.set_cons_succ]; rfl) ?_
    refine g_take 1 #[true, true, false, false, false, false, false, false, false, false, false, false, false] (N := some 6) rfl rfl (by kernel_rfl) (fun _ _ _ h => h) (GP.rd (by rfl) (gy_call (by rfl) rfl Tryd.func32 (by kernel_rfl) rfl #[_] (by rfl) (fun w _ => Dot_calls HD.out w))) (by simp only [Act.put, List.setIfInBounds_toArray, List.set_cons_zero, List.set_cons_succ]; rfl) ?_
    refine g_take 2 #[true, true, true, false, false, false, false, false, false, false, false, false, false] (N := some 7) rfl rfl (by kernel_rfl) (fun _ _ _ h => h) (GP.p (gy_pure (by rfl) (fun w_ => by go_simp; with_reducible rfl))) (by simp only [Act.put, List.setIfInBounds_toArray, List.set_cons_zero, List.set_cons_succ]; rfl) ?_
    refine g_take 3 #[true, true, true, true, false, false, false, false, false, false, false, false, false] (N := some 8) rfl rfl (by kernel_rfl) (fun _ _ _ h => h) (GP.p (gy_off (by rfl))) (by simp only [Act.put, List.setIfInBounds_toArray, List.set_cons_zero, List.set_cons_succ]; rfl) ?_
    refine g_take 4 #[true, true, true, true, true, false, false, false, false, false, false, false, false] (N := some 9) rfl rfl (by kernel_rfl) (fun _ _ _ h => h) (GP.p (gy_off (by rfl))) (by simp only [Act.put, List.setIfInBounds_toArray, List.set_cons_zero, List.set_cons_succ]; rfl) ?_
    refine g_take 5 #[true, true, true, true, true, true, false, false, false, false, false, false, false] (N := some 10) rfl rfl (by kernel_rfl) (fun _ _ _ h => h) (GP.p (gy_off (by rfl))) (by simp only [Act.put, List.setIfInBounds_toArray, List.set_cons_zero, List.set_cons_succ]; rfl) ?_
    refine g_take 6 #[true, true, true, true, true, true, true, false, false, false, false, false, false] (N := some 11) rfl rfl (by kernel_rfl) (fun _ _ _ h => h) (GP.p (gy_off (by rfl))) (by simp only [Act.put, List.setIfInBounds_toArray, List.set_cons_zero, List.set_cons_succ]; rfl) ?_
    refine g_take 7 #[true, true, true, true, true, true, true, true, false, false, false, false, false] (N := some 12) rfl rfl (by kernel_rfl) (fun _ _ _ h => h) (GP.p (gy_off (by rfl))) (by simp only [Act.put, List.setIfInBounds_toArray, List.set_cons_zero, List.set_cons_succ]; rfl) ?_
    refine g_take 8 #[true, true, true, true, true, true, true, true, true, false, false, false, false] (N := some 13) rfl rfl (by kernel_rfl) (fun _ _ _ h => h) (GP.p (gy_off (by rfl))) (by simp only [Act.put, List.setIfInBounds_toArray, List.set_cons_zero, List.set_cons_succ]; rfl) ?_
    refine g_take 9 #[true, true, true, true, true, true, true, true, true, true, false, false, false] (N := some 14) rfl rfl (by kernel_rfl) (fun _ _ _ h => h) (GP.p (gy_off (by rfl))) (by simp only [Act.put, List.setIfInBounds_toArray, List.set_cons_zero, List.set_cons_succ]; rfl) ?_
    refine g_take 10 #[true, true, true, true, true, true, true, true, true, true, true, false, false] (N := some 15) rfl rfl (by kernel_rfl) (fun _ _ _ h => h) (GP.p (gy_off (by rfl))) (by simp only [Act.put, List.setIfInBounds_toArray, List.set_cons_zero, List.set_cons_succ]; rfl) ?_
    refine g_take 11 #[true, true, true, true, true, true, true, true, true, true, true, true, false] (N := some 16) rfl rfl (by kernel_rfl) (fun _ _ _ h => h) (GP.p (gy_pure (by rfl) (fun w_ => by go_simp; with_reducible rfl))) (by simp only [Act.put, List.setIfInBounds_toArray, List.set_cons_zero, List.set_cons_succ]; rfl) ?_
    refine g_take 12 #[true, true, true, true, true, true, true, true, true, true, true, true, true] (N := some 4) rfl rfl (by kernel_rfl) (fun _ _ _ h => h) (GP.p (gy_pure (by rfl) (fun w_ => by go_simp; with_reducible rfl))) (by simp only [Act.put, List.setIfInBounds_toArray, List.set_cons_zero, List.set_cons_succ]; rfl) ?_
    refine g_done (by kernel_rfl) (fun w1 hw1 => ?_)
    go_wp2
    go_ret
    exact ⟨rfl, HX.out.trans hw1⟩
  | true =>
    obtain ⟨h0, h1, h2, h3⟩ := dotB_iff.1 hd
    obtain ⟨n, rfl⟩ : ∃ n : Nat, r = n := ⟨r.toNat, by omega⟩
    have cn := range_at (blk_range hv) n (by omega)
    rw [Nat.zero_add] at cn
    have hk : decide (v.at n = c - 1) = b := by rw [← hb, nextB, hd, Bool.true_and, Int.toNat_natCast]
    have HK := Lib.hid hk
    have HD := Lib.hid hd
    have HX := Lib.hid hx
    have HW := Lib.hid hW
    have HS := Lib.hid hb0
    clear hb hd hx hv hdt hW hk hb0
    go_enter Tryd.func25, Tryd.ntmps25
    go_wp2
    rw [HW.out, HS.out]
    refine g_begin (by kernel_rfl) (Ext.refl W0) #[false, false, false, false, false, false, false, false, false, false, false, false, false] 13 rfl rfl ?_
    refine g_take 0 #[true, false, false, false, false, false, false, false, false, false, false, false, false] (N := some 5) rfl rfl (by kernel_rfl) (fun _ _ _ h => h) (GP.rd (by rfl) (gy_row (by rfl) rfl (by rfl) (by with_reducible assumption) Tryd.underlying30 rfl (by first | exact vinfo _ | exact einfo _ | kernel_rfl))) (by simp only [Act.put, List.setIfInBounds_toArray, List.set_cons_zero, List.set_cons_succ]; rfl) ?_
    refine g_take 1 #[true, true, false, false, false, false, false, false, false, false, false, false, false] (N := some 6) rfl rfl (by kernel_rfl) (fun _ _ _ h => h) (GP.rd (by rfl) (gy_call (by rfl) rfl Tryd.func32 (by kernel_rfl) rfl #[_] (by rfl) (fun w _ => Dot_calls HD.out w))) (by simp only [Act.put, List.setIfInBounds_toArray, List.set_cons_zero, List.set_cons_succ]; rfl) ?_
    refine g_take 2 #[true, true, true, false, false, false, false, false, false, false, false, false, false] (N := some 7) rfl rfl (by kernel_rfl) (fun _ _ _ h => h) (GP.p (gy_pure (by rfl) (fun w_ => by go_simp; with_reducible rfl))) (by simp only [Act.put, List.setIfInBounds_toArray, List.set_cons_zero, List.set_cons_succ]; rfl) ?_
    refine g_take 3 #[true, true, true, true, false, false, false, false, false, false, false, false, false] (N := some 8) rfl rfl (by kernel_rfl) (fun _ _ _ h => h) (GP.p (gy_pure (by rfl) (fun w_ => by go_simp; with_reducible rfl))) (by simp only [Act.put, List.setIfInBounds_toArray, List.set_cons_zero, List.set_cons_succ]; rfl) ?_
    refine g_take 4 #[true, true, true, true, true, false, false, false, false, false, false, false, false] (N := some 9) rfl rfl (by kernel_rfl) (fun _ _ _ h => h) (GP.rd (by rfl) (gy_load1 (by rfl) rfl (by rfl) Tryd.isAgg3 (by with_reducible assumption))) (by simp only [Act.put, List.setIfInBounds_toArray, List.set_cons_zero, List.set_cons_succ]; rfl) ?_
    refine g_take 5 #[true, true, true, true, true, true, false, false, false, false, false, false, false] (N := some 10) rfl rfl (by kernel_rfl) (fun _ _ _ h => h) (GP.p (gy_pure (by rfl) (fun w_ => by go_simp; with_reducible rfl))) (by simp only [Act.put, List.setIfInBounds_toArray, List.set_cons_zero, List.set_cons_succ]; rfl) ?_
    refine g_take 6 #[true, true, true, true, true, true, true, false, false, false, false, false, false] (N := some 11) rfl rfl (by kernel_rfl) (fun _ _ _ h => h) (GP.rd (by rfl) (gy_load1 (by rfl) rfl (by rfl) Tryd.isAgg3 (by with_reducible assumption))) (by simp only [Act.put, List.setIfInBounds_toArray, List.set_cons_zero, List.set_cons_succ]; rfl) ?_
    refine g_take 7 #[true, true, true, true, true, true, true, true, false, false, false, false, false] (N := some 12) rfl rfl (by kernel_rfl) (fun _ _ _ h => h) (GP.p (gy_pure (by rfl) (fun w_ => by go_simp; with_reducible rfl))) (by simp only [Act.put, List.setIfInBounds_toArray, List.set_cons_zero, List.set_cons_succ]; rfl) ?_
    refine g_take 8 #[true, true, true, true, true, true, true, true, true, false, false, false, false] (N := some 13) rfl rfl (by kernel_rfl) (fun _ _ _ h => h) (GP.rd (by rfl) (gy_load1 (by rfl) rfl (by rfl) Tryd.isAgg3 (by with_reducible assumption))) (by simp only [Act.put, List.setIfInBounds_toArray, List.set_cons_zero, List.set_cons_succ]; rfl) ?_
    refine g_take 9 #[true, true, true, true, true, true, true, true, true, true, false, false, false] (N := some 14) rfl rfl (by kernel_rfl) (fun _ _ _ h => h) (GP.p (gy_pure (by rfl) (fun w_ => by go_simp; with_reducible rfl))) (by simp only [Act.put, List.setIfInBounds_toArray, List.set_cons_zero, List.set_cons_succ]; rfl) ?_
    refine g_take 10 #[true, true, true, true, true, true, true, true, true, true, true, false, false] (N := some 15) rfl rfl (by kernel_rfl) (fun _ _ _ h => h) (GP.p (gy_pure (by rfl) (fun w_ => by go_simp; with_reducible rfl))) (by simp only [Act.put, List.setIfInBounds_toArray, List.set_cons_zero, List.set_cons_succ]; rfl) ?_
    refine g_take 11 #[true, true, true, true, true, true, true, true, true, true, true, true, false] (N := some 16) rfl rfl (by kernel_rfl) (fun _ _ _ h => h) (GP.p (gy_pure (by rfl) (fun w_ => by go_simp; with_reducible rfl))) (by simp only [Act.put, List.setIfInBounds_toArray, List.set_cons_zero, List.set_cons_succ]; rfl) ?_
    refine g_take 12 #[true, true, true, true, true, true, true, true, true, true, true, true, true] (N := some 4) rfl rfl (by kernel_rfl) (fun _ _ _ h => h) (GP.p (gy_pure (by rfl) (fun w_ => by go_simp; with_reducible rfl))) (by simp only [Act.put, List.setIfInBounds_toArray, List.set_cons_zero, List.set_cons_succ]; rfl) ?_
    refine g_done (by kernel_rfl) (fun w1 hw1 => ?_)
    go_wp2
    go_ret
    refine ⟨ret_bool ?_, HX.out.trans hw1⟩
    rw [← HK.out, Bool.eq_iff_iff]
    simp [IntWalk.i64_in (c - 1) (by omega)]
theorem box_v (w : World) (v : Vc) : ∃ W0 b, w.alloc (.cells (vcells v).toArray 26) = W0 ∧ w.heap.size = b ∧ Ext w W0 ∧ W0.rangeAt b 0 (vcells v) :=
  ⟨_, _, rfl, rfl, (Ext.refl w).alloc _, range_new _ _ _⟩
def rightB (v : Vc) : Bool := decide (∀ i ∈ List.range 16, 0 ≤ v.at i ∧ v.at i ≤ 1048576)
theorem rightB_iff {v : Vc} : rightB v = true ↔ ∀ i, i < 16 → 0 ≤ v.at i ∧ v.at i ≤ 1048576 := by
  unfold rightB
  rw [decide_eq_true_eq]
  simp
theorem rightB_not {v : Vc} (i : Nat) (hi : i < 16) (h : v.at i < 0 ∨ 1048576 < v.at i) : rightB v = false := by
  cases hr : rightB v with
  | false => rfl
  | true =>
    have := rightB_iff.1 hr i hi
    omega
set_option maxHeartbeats 1000000 in
theorem VRight_calls {v : Vc} {b : Bool} (hb : rightB v = b) (w : World) :
    Calls Tryd.prog 34 #[vval v] w fun e w' => e = .returned (.bool b) ∧ Ext w w' := by
  obtain ⟨W0, b0, hW, hb0, hx, hv⟩ := box_v w v
  have HB := Lib.hid hb
  have HX := Lib.hid hx
  have HW := Lib.hid hW
  have HS := Lib.hid hb0
  clear hb hx hW hb0
  unfold vval
  go_enter Tryd.func34, Tryd.ntmps34
  go_upto_region 1 with (fail)
  rw [HW.out, HS.out]
  refine gl_begin (Ext.refl W0) ?_
  refine gl_take (N := some 5) rfl (gy_row (by rfl) rfl (by rfl) (by with_reducible assumption) Tryd.underlying26 rfl (by first | exact vinfo _ | exact einfo _ | kernel_rfl)) (by simp only [Act.put, List.setIfInBounds_toArray, List.set_cons_zero, List.set_cons_succ]; rfl) ?_
  refine gl_take (N := some 6) rfl (Yields.gy (gy_pure (by rfl) (fun w_ => by go_simp; with_reducible rfl))) (by simp only [Act.put, List.setIfInBounds_toArray, List.set_cons_zero, List.set_cons_succ]; rfl) ?_
  refine gl_done (fun w1 hw1 => ?_)
  clear hv
  have HX1 := Lib.hid (HX.out.trans hw1)
  clear hw1
  go_wp2
  go_loopg [6] 16 (fun k v6 wr => ∃ i : Nat, v6 = .int .i64 (i : Int) ∧ Hid (i ≤ 16) ∧ Hid (16 ≤ i + k) ∧ Hid (∀ j, j < i → 0 ≤ v.at j ∧ v.at j ≤ 1048576) ∧ Hid (Ext w wr))
  case atStart => exact ⟨0, rfl, Lib.hid (by omega), Lib.hid (by omega), Lib.hid (fun j hj => absurd hj (Nat.not_lt_zero _)), HX1⟩
  case round =>
    obtain ⟨i, rfl, HI, HK, HA, HE⟩ := hrel
    by_cases hi : i < 16
    · have HII := Lib.hid hi
      go_upto_region 3 with (fail)
      refine gl_begin (Ext.refl _) ?_
      refine gl_take (N := some 8) rfl (Yields.gy (gy_index (by rfl) rfl (by rfl) (by rfl) HII.out)) (by simp only [Act.put, List.setIfInBounds_toArray, List.set_cons_zero, List.set_cons_succ]; rfl) ?_
      refine gl_take (N := some 4) rfl (Yields.gy (gy_pure (by rfl) (fun w_ => by go_simp; with_reducible rfl))) (by simp only [Act.put, List.setIfInBounds_toArray, List.set_cons_zero, List.set_cons_succ]; rfl) ?_
      refine gl_done (fun w2 hw2 => ?_)
      have HE2 := Lib.hid (HE.out.trans hw2)
      clear hw2
      obtain ⟨x, hxx⟩ : ∃ x, x = v.at i := ⟨_, rfl⟩
      rw [← hxx]
      have HXX := Lib.hid hxx
      clear hxx
      go_wp2
      · go_ret
        exact ⟨ret_bool (by rw [← HB.out, rightB_not i HII.out (by rw [← HXX.out]; omega)]), HE2.out⟩
      · go_roundg (16 - (i + 1))
        case measure => have := HK.out; have := HII.out; omega
        case rel =>
          refine ⟨i + 1, by simp, Lib.hid HII.out, Lib.hid (by omega), Lib.hid (fun j hj => ?_), HE2⟩
          by_cases e : j = i
          · subst e; rw [← HXX.out]; omega
          · exact HA.out j (by omega)
      · go_ret
        exact ⟨ret_bool (by rw [← HB.out, rightB_not i HII.out (by rw [← HXX.out]; omega)]), HE2.out⟩
    · have e : i = 16 := by have := HI.out; omega
      subst e
      go_wp2
      go_ret
      exact ⟨ret_bool (by rw [← HB.out, rightB_iff.2 HA.out]), HE.out⟩
def tot (v : Vc) : Nat → Int
  | 0 => 0
  | i + 1 => tot v i + (if v.at i < 0 then 0 else v.at i)
theorem tot_nonneg (v : Vc) : ∀ i, 0 ≤ tot v i
  | 0 => Int.le_refl _
  | i + 1 => by
    have := tot_nonneg v i
    unfold tot
    split <;> omega
theorem tot_mono (v : Vc) (i : Nat) : ∀ d, tot v i ≤ tot v (i + d)
  | 0 => Int.le_refl _
  | d + 1 => by
    have h := tot_mono v i d
    rw [← Nat.add_assoc, tot]
    split <;> omega
def sumV (v : Vc) : Int := if tot v 16 ≤ 4611686018427387904 then tot v 16 else 4611686018427387904
set_option maxHeartbeats 1000000 in
theorem Sum_calls (v : Vc) (w : World) :
    Calls Tryd.prog 31 #[vval v] w fun e w' => e = .returned (.int .i64 (sumV v)) ∧ Ext w w' := by
  obtain ⟨W0, b0, hW, hb0, hx, hv⟩ := box_v w v
  have HX := Lib.hid hx
  have HW := Lib.hid hW
  have HS := Lib.hid hb0
  clear hx hW hb0
  unfold vval
  go_enter Tryd.func31, Tryd.ntmps31
  go_upto_region 2 with (fail)
  rw [HW.out, HS.out]
  refine gl_begin (Ext.refl W0) ?_
  refine gl_take (N := some 6) rfl (gy_row (by rfl) rfl (by rfl) (by with_reducible assumption) Tryd.underlying26 rfl (by first | exact vinfo _ | exact einfo _ | kernel_rfl)) (by simp only [Act.put, List.setIfInBounds_toArray, List.set_cons_zero, List.set_cons_succ]; rfl) ?_
  refine gl_take (N := some 7) rfl (Yields.gy (gy_pure (by rfl) (fun w_ => by go_simp; with_reducible rfl))) (by simp only [Act.put, List.setIfInBounds_toArray, List.set_cons_zero, List.set_cons_succ]; rfl) ?_
  refine gl_done (fun w1 hw1 => ?_)
  clear hv
  have HX1 := Lib.hid (HX.out.trans hw1)
  clear hw1
  go_wp2
  go_loopg [3, 7] 16 (fun k v3 v7 wr => ∃ (i : Nat) (s : Int), v7 = .int .i64 (i : Int) ∧ v3 = .int .i64 s ∧ Hid (i ≤ 16) ∧ Hid (16 ≤ i + k) ∧ Hid (s = tot v i) ∧ Hid (s ≤ 4611686018427387904) ∧ Hid (Ext w wr))
  case atStart => exact ⟨0, 0, rfl, rfl, Lib.hid (by omega), Lib.hid (by omega), Lib.hid rfl, Lib.hid (by omega), HX1⟩
  case round =>
    obtain ⟨i, s, rfl, rfl, HI, HK, HT, HL, HE⟩ := hrel
    have h0 : 0 ≤ s := by rw [HT.out]; exact tot_nonneg v i
    by_cases hi : i < 16
    · have HII := Lib.hid hi
      go_upto_region 4 with (fail)
      refine gl_begin (Ext.refl _) ?_
      refine gl_take (N := some 9) rfl (Yields.gy (gy_index (by rfl) rfl (by rfl) (by rfl) HII.out)) (by simp only [Act.put, List.setIfInBounds_toArray, List.set_cons_zero, List.set_cons_succ]; rfl) ?_
      refine gl_take (N := some 5) rfl (Yields.gy (gy_pure (by rfl) (fun w_ => by go_simp; with_reducible rfl))) (by simp only [Act.put, List.setIfInBounds_toArray, List.set_cons_zero, List.set_cons_succ]; rfl) ?_
      refine gl_done (fun w2 hw2 => ?_)
      have HE2 := Lib.hid (HE.out.trans hw2)
      have hs : tot v (i + 1) = tot v i + (if v.at i < 0 then 0 else v.at i) := rfl
      rw [← HT.out] at hs
      obtain ⟨x, hxx⟩ : ∃ x, x = v.at i := ⟨_, rfl⟩
      rw [← hxx] at hs ⊢
      have hm := tot_mono v (i + 1) (16 - (i + 1))
      rw [show i + 1 + (16 - (i + 1)) = 16 by omega] at hm
      have HM := Lib.hid hm
      have HSS := Lib.hid hs
      have hl := HL.out
      obtain ⟨y, hy⟩ : ∃ y : Int, y = if x < 0 then 0 else x := ⟨_, rfl⟩
      have hy0 : 0 ≤ y := by rw [hy]; split <;> omega
      have hym : y ≤ x ∨ y = 0 := by rw [hy]; split <;> omega
      rw [← hy] at HSS
      have HYY := Lib.hid hy
      clear hxx hw2 hm hs hy
      have hww : IntKind.i64.wrap (4611686018427387904 - s) = 4611686018427387904 - s := IntWalk.i64_in _ (by omega)
      by_cases hxn : x < 0
      · have hy1 : y = 0 := by rw [HYY.out, if_pos hxn]
        have HY1 := Lib.hid hy1
        clear hym hy1 hy0
        have hc : ¬ (4611686018427387904 - s < 0) := by omega
        go_wp2
        go_roundg (16 - (i + 1))
        case measure => have := HK.out; have := HII.out; omega
        case rel => exact ⟨i + 1, s, by simp, by simp, Lib.hid HII.out, Lib.hid (by omega), Lib.hid (by rw [HSS.out, HY1.out]; omega), Lib.hid hl, HE2⟩
      · have hy1 : y = x := by rw [HYY.out, if_neg hxn]
        have HY1 := Lib.hid hy1
        by_cases hc : 4611686018427387904 - s < x
        · clear hym hy1 hy0
          go_wp2
          go_ret
          refine ⟨ret_int ?_, HE2.out⟩
          have := HM.out
          rw [HSS.out, HY1.out] at this
          rw [sumV, if_neg (by omega)]
        · have hss : IntKind.i64.wrap (s + x) = s + x := IntWalk.i64_in _ (by omega)
          clear hym hy1 hy0
          go_wp2
          go_roundg (16 - (i + 1))
          case measure => have := HK.out; have := HII.out; omega
          case rel => exact ⟨i + 1, s + x, by simp, by simp [hss], Lib.hid HII.out, Lib.hid (by omega), Lib.hid (by rw [HSS.out, HY1.out]), Lib.hid (by omega), HE2⟩
    · have e : i = 16 := by have := HI.out; omega
      subst e
      go_wp2
      go_ret
      exact ⟨ret_int (by rw [sumV, ← HT.out, if_pos HL.out]), HE.out⟩
end Go.Proofs.YthmnohecmmknpaaDoor.Vec
namespace Go.Proofs.YthmnohecmmknpaaDoor.Vec
open Go.RowKit
set_option linter.unusedVariables false
set_option linter.unusedSimpArgs false
set_option maxRecDepth 100000
def mxI (x y : Int) : Int := if x < y then y else x
set_option maxHeartbeats 1000000 in
theorem Max_calls (x y : Int) (w : World) : Calls Tryd.prog 45 #[.int .i64 x, .int .i64 y] w fun e w' => e = .returned (.int .i64 (mxI x y)) ∧ Ext w w' := by
  go_enter Tryd.func45, Tryd.ntmps45
  go_wp2
  all_goals
    go_ret
    exact ⟨ret_int (by unfold mxI; split <;> omega), Ext.refl _⟩
def mixV (a b : Vc) (i : Nat) : Vc := Vc.of fun j => if j < i then mxI (a.at j) (b.at j) else a.at j
def joinV (a b : Vc) : Vc := mixV a b 16
theorem mixV_zero (a b : Vc) : mixV a b 0 = a := vc_ext fun i hi => by rw [mixV, Vc.at_of _ _ hi, if_neg (by omega)]
theorem mixV_at (a b : Vc) (i j : Nat) (hj : j < 16) : (mixV a b i).at j = if j < i then mxI (a.at j) (b.at j) else a.at j := by rw [mixV, Vc.at_of _ _ hj]
theorem mixV_succ (a b : Vc) (i : Nat) (hi : i < 16) : (mixV a b i).set i (mxI (a.at i) (b.at i)) = mixV a b (i + 1) := vc_ext fun j hj => by
  rw [Vc.at_set _ _ _ _ hi, mixV_at _ _ _ _ hj, mixV_at _ _ _ _ hj]
  by_cases e : j = i
  · subst e
    rw [if_pos rfl, if_pos (by omega)]
  · rw [if_neg e]
    by_cases h : j < i
    · rw [if_pos h, if_pos (by omega)]
    · rw [if_neg h, if_neg (by omega)]
theorem zcells_v : (vcells Vc.zero).toArray = #[.int .i64 0, .int .i64 0, .int .i64 0, .int .i64 0, .int .i64 0, .int .i64 0, .int .i64 0, .int .i64 0, .int .i64 0, .int .i64 0, .int .i64 0, .int .i64 0, .int .i64 0, .int .i64 0, .int .i64 0, .int .i64 0] := by rfl
theorem boxes_vvz (w : World) (a b : Vc) : ∃ W0 b0, (((w.alloc (.cells (vcells a).toArray 26)).alloc (.cells (vcells b).toArray 26)).alloc (.cells (vcells Vc.zero).toArray 26)) = W0 ∧ w.heap.size = b0 ∧ Ext w W0 ∧
    W0.heap[b0]? = some (.cells (vcells a).toArray 26 (0, 0)) ∧ W0.heap[b0 + 1]? = some (.cells (vcells b).toArray 26 (0, 0)) ∧ W0.heap[b0 + 2]? = some (.cells (vcells Vc.zero).toArray 26 (0, 0)) := by
  refine ⟨_, _, rfl, rfl, (((Ext.refl w).alloc _).alloc _).alloc _, blk_alloc (blk_alloc (blk_new _ _) _) _, blk_alloc ?_ _, ?_⟩
  · have := blk_new (w.alloc (.cells (vcells a).toArray 26)) (.cells (vcells b).toArray 26)
    simpa using this
  · have := blk_new ((w.alloc (.cells (vcells a).toArray 26)).alloc (.cells (vcells b).toArray 26)) (.cells (vcells Vc.zero).toArray 26)
    simpa using this
theorem blk_set_same {w : World} {g i : Nat} {cs : List Value} {t : TypeId} {v : Value} (h : w.heap[g]? = some (.cells cs.toArray t (0, 0))) : (w.setCell ⟨g, i, none⟩ v).heap[g]? = some (.cells (cs.set i v).toArray t (0, 0)) := by
  rw [heap_setCell_same w g i _ t v h]
  simp
theorem blk_set_other {w : World} {g k i : Nat} {o : Obj} {v : Value} (h : w.heap[k]? = some o) (hne : k ≠ g) : (w.setCell ⟨g, i, none⟩ v).heap[k]? = some o := by
  rw [heap_setCell_other w ⟨g, i, none⟩ k v hne]
  exact h
theorem setCells_other (b : Nat) (k : Nat) (hne : k ≠ b) : ∀ (vs : List Value) (o : Nat) (w : World), (w.setCells b o vs).heap[k]? = w.heap[k]?
  | [], _, _ => rfl
  | v :: r, o, w => by
    rw [World.setCells, setCells_other b k hne r (o + 1), heap_setCell_other w ⟨b, o, none⟩ k v hne]
theorem setCells_blk (b : Nat) (t : TypeId) : ∀ (vs : List Value) (o : Nat) (w : World) (cs : List Value), w.heap[b]? = some (.cells cs.toArray t (0, 0)) → o + vs.length = cs.length →
    (w.setCells b o vs).heap[b]? = some (.cells (cs.take o ++ vs).toArray t (0, 0))
  | [], o, w, cs, h, hl => by
    have : cs.take o = cs := List.take_of_length_le (by simp at hl; omega)
    rw [World.setCells, this, List.append_nil]
    exact h
  | v :: r, o, w, cs, h, hl => by
    rw [World.setCells, setCells_blk b t r (o + 1) _ (cs.set o v) (blk_set_same h) (by simp at hl ⊢; omega)]
    have hlt : o < cs.length := by simp at hl; omega
    have : (cs.set o v).take (o + 1) = cs.take o ++ [v] := by
      rw [List.take_succ_eq_append_getElem (by simpa using hlt)]
      simp [List.take_set]
      exact List.set_eq_of_length_le (by simp; omega)
    rw [this]
    simp
theorem setCells_whole {w : World} {b : Nat} {t : TypeId} {vs cs : List Value} (h : w.heap[b]? = some (.cells cs.toArray t (0, 0))) (hl : vs.length = cs.length) : (w.setCells b 0 vs).heap[b]? = some (.cells vs.toArray t (0, 0)) := by
  have := setCells_blk b t vs 0 w cs h (by omega)
  simpa using this
set_option maxHeartbeats 1000000 in
theorem each_calls (a b : Vc) (w : World) : Calls Tryd.prog 44 #[vval a, vval b, .func (.func 45) #[] #[]] w fun e w' => e = .returned (vval (joinV a b)) ∧ Ext w w' := by
  obtain ⟨W0, b0, hW, hb0, hx, h0, h1, h2⟩ := boxes_vvz w a b
  rw [zcells_v] at hW
  have HX := Lib.hid hx
  have HW := Lib.hid hW
  have HS := Lib.hid hb0
  have H0 := Lib.hid h0
  have H1 := Lib.hid h1
  have H2 := Lib.hid h2
  have HB : Hid (w.heap.size ≤ b0) := Lib.hid (by omega)
  clear hx hW hb0 h0 h1 h2
  unfold vval
  go_enter Tryd.func44, Tryd.ntmps44
  go_upto_region 1 with (fail)
  rw [HW.out, HS.out]
  go_wp2
  go_loopg [8] 16 (fun k v8 wr => ∃ i : Nat, v8 = .int .i64 (i : Int) ∧ Hid (i ≤ 16) ∧ Hid (16 ≤ i + k) ∧ Hid (wr.heap[b0]? = some (.cells (vcells (mixV a b i)).toArray 26 (0, 0))) ∧ Hid (wr.heap[b0 + 1]? = some (.cells (vcells b).toArray 26 (0, 0))) ∧
    Hid (wr.heap[b0 + 2]? = some (.cells (vcells Vc.zero).toArray 26 (0, 0))) ∧ Hid (Ext w wr))
  case atStart => exact ⟨0, rfl, Lib.hid (by omega), Lib.hid (by omega), Lib.hid (by rw [mixV_zero]; exact H0.out), H1, H2, HX⟩
  case round =>
    obtain ⟨i, rfl, HI, HK, G0, G1, G2, HE⟩ := hrel
    by_cases hi : i < 16
    · have HII := Lib.hid hi
      have hi' : (i : Int) < 16 := by omega
      have ca := range_at (blk_range G0.out) i hi
      have cb := range_at (blk_range G1.out) i hi
      rw [mixV_at _ _ _ _ hi, if_neg (Nat.lt_irrefl i), Nat.zero_add] at ca
      rw [Nat.zero_add] at cb
      go_upto_region 4 with (fail)
      refine g_begin (by kernel_rfl) (Ext.refl _) #[false, false, false, false, false, false, false, false, false, false, false] 11 rfl rfl ?_
      refine g_take 0 #[true, false, false, false, false, false, false, false, false, false, false] (N := some 11) rfl rfl (by kernel_rfl) (fun _ _ _ h => h) (GP.p (gy_pure (by rfl) (fun w_ => by go_simp; with_reducible rfl))) (by simp only [Act.put, List.setIfInBounds_toArray, List.set_cons_zero, List.set_cons_succ]; rfl) ?_
      refine g_take 1 #[true, true, false, false, false, false, false, false, false, false, false] (N := some 12) rfl rfl (by kernel_rfl) (fun _ _ _ h => h) (GP.p (gy_pure (by rfl) (fun w_ => by go_simp; with_reducible rfl))) (by simp only [Act.put, List.setIfInBounds_toArray, List.set_cons_zero, List.set_cons_succ]; rfl) ?_
      refine g_take 2 #[true, true, true, false, false, false, false, false, false, false, false] (N := some 13) rfl rfl (by kernel_rfl) (fun _ _ _ h => h) (GP.p (gy_pure (by rfl) (fun w_ => by go_simp; with_reducible rfl))) (by simp only [Act.put, List.setIfInBounds_toArray, List.set_cons_zero, List.set_cons_succ]; rfl) ?_
      refine g_take 3 #[true, true, true, true, false, false, false, false, false, false, false] (N := some 14) rfl rfl (by kernel_rfl) (fun _ _ _ h => h) (GP.p (gy_pure (by rfl) (fun w_ => by go_simp; with_reducible rfl))) (by simp only [Act.put, List.setIfInBounds_toArray, List.set_cons_zero, List.set_cons_succ]; rfl) ?_
      refine g_take 4 #[true, true, true, true, true, false, false, false, false, false, false] (N := some 15) rfl rfl (by kernel_rfl) (fun _ _ _ h => h) (GP.rd (by rfl) (gy_load1 (by rfl) rfl (by rfl) Tryd.isAgg3 (by with_reducible assumption))) (by simp only [Act.put, List.setIfInBounds_toArray, List.set_cons_zero, List.set_cons_succ]; rfl) ?_
      refine g_take 5 #[true, true, true, true, true, true, false, false, false, false, false] (N := some 16) rfl rfl (by kernel_rfl) (fun _ _ _ h => h) (GP.p (gy_pure (by rfl) (fun w_ => by go_simp; with_reducible rfl))) (by simp only [Act.put, List.setIfInBounds_toArray, List.set_cons_zero, List.set_cons_succ]; rfl) ?_
      refine g_take 6 #[true, true, true, true, true, true, true, false, false, false, false] (N := some 17) rfl rfl (by kernel_rfl) (fun _ _ _ h => h) (GP.p (gy_pure (by rfl) (fun w_ => by go_simp; with_reducible rfl))) (by simp only [Act.put, List.setIfInBounds_toArray, List.set_cons_zero, List.set_cons_succ]; rfl) ?_
      refine g_take 7 #[true, true, true, true, true, true, true, true, false, false, false] (N := some 18) rfl rfl (by kernel_rfl) (fun _ _ _ h => h) (GP.rd (by rfl) (gy_load1 (by rfl) rfl (by rfl) Tryd.isAgg3 (by with_reducible assumption))) (by simp only [Act.put, List.setIfInBounds_toArray, List.set_cons_zero, List.set_cons_succ]; rfl) ?_
      refine g_take 8 #[true, true, true, true, true, true, true, true, true, false, false] (N := some 19) rfl rfl (by kernel_rfl) (fun _ _ _ h => h) (GP.rd (by rfl) (gy_callv (by rfl) rfl (by rfl) Tryd.func45 (by kernel_rfl) rfl #[_, _] (by rfl) (fun w _ => Max_calls _ _ w))) (by simp only [Act.put, List.setIfInBounds_toArray, List.set_cons_zero, List.set_cons_succ]; rfl) ?_
      refine g_take 9 #[true, true, true, true, true, true, true, true, true, true, false] (N := some 20) rfl rfl (by kernel_rfl) (fun _ _ _ h => h) (GP.p (gy_pure (by rfl) (fun w_ => by go_simp; with_reducible rfl))) (by simp only [Act.put, List.setIfInBounds_toArray, List.set_cons_zero, List.set_cons_succ]; rfl) ?_
      refine g_barrier 10 #[true, true, true, true, true, true, true, true, true, true, true] rfl (by kernel_rfl) (by kernel_rfl) (fun w2 hw2 => ⟨by rfl, ?_⟩)
      refine wp_store1 (v := .int .i64 (mxI (a.at i) (b.at i))) rfl (by rfl) (by rfl) Tryd.sizeOf3 rfl rfl (hw2.cell ca) (frozen_of_row _ _ _ _ _ (hw2.blk G0.out)) ?_
      have hnew : Hid ((w2.setCell ⟨b0, i, none⟩ (.int .i64 (mxI (a.at i) (b.at i)))).heap[b0]? = some (.cells (vcells (mixV a b (i + 1))).toArray 26 (0, 0))) := Lib.hid (by
        rw [← mixV_succ a b i HII.out, vcells_set]
        exact blk_set_same (hw2.blk G0.out))
      have hE : Hid (Ext w (w2.setCell ⟨b0, i, none⟩ (.int .i64 (mxI (a.at i) (b.at i))))) := Lib.hid (Ext.setCell (HE.out.trans hw2) HB.out _)
      have hn1 : Hid ((w2.setCell ⟨b0, i, none⟩ (.int .i64 (mxI (a.at i) (b.at i)))).heap[b0 + 1]? = some (.cells (vcells b).toArray 26 (0, 0))) := Lib.hid (blk_set_other (hw2.blk G1.out) (by omega))
      have hn2 : Hid ((w2.setCell ⟨b0, i, none⟩ (.int .i64 (mxI (a.at i) (b.at i)))).heap[b0 + 2]? = some (.cells (vcells Vc.zero).toArray 26 (0, 0))) := Lib.hid (blk_set_other (hw2.blk G2.out) (by omega))
      generalize w2.setCell ⟨b0, i, none⟩ (.int .i64 (mxI (a.at i) (b.at i))) = w3 at *
      refine g_done (by kernel_rfl) (fun w4 hw4 => ?_)
      have hnew4 := Lib.hid (hw4.blk hnew.out)
      have hn14 := Lib.hid (hw4.blk hn1.out)
      have hn24 := Lib.hid (hw4.blk hn2.out)
      have hE4 := Lib.hid (hE.out.trans hw4)
      clear ca cb hw2 hnew hn1 hn2 hE hw4
      go_wp2
      go_roundg (16 - (i + 1))
      case measure => have := HK.out; have := HII.out; omega
      case rel => exact ⟨i + 1, by simp, Lib.hid HII.out, Lib.hid (by omega), hnew4, hn14, hn24, hE4⟩
    · have e : i = 16 := by have := HI.out; omega
      subst e
      have rr := blk_range G0.out
      go_upto_region 6 with (fail)
      refine gl_begin (Ext.refl _) ?_
      refine gl_take (N := some 22) rfl (gy_row (by rfl) rfl (by rfl) (by with_reducible assumption) Tryd.underlying26 rfl (by first | exact vinfo _ | exact einfo _ | kernel_rfl)) (by simp only [Act.put, List.setIfInBounds_toArray, List.set_cons_zero, List.set_cons_succ]; rfl) ?_
      refine gl_eff (by rfl) (fun w2 hw2 => ?_)
      refine wp_store_mid 26 _ _ rfl (b0 + 1 + 1) 0 (vcells (mixV a b 16)).toArray (by rfl) (by rfl) (blk_there (hw2.blk G2.out) 0 _ (by simp [vcells_len])) (by rw [List.size_toArray, vcells_len]; exact info26) (all_oneCell_toArray (vcells_one _)) (wpl_nil ?_)
      have hn : Hid ((w2.setCells (b0 + 1 + 1) 0 (vcells (mixV a b 16))).heap[b0 + 1 + 1]? = some (.cells (vcells (joinV a b)).toArray 26 (0, 0))) := Lib.hid (setCells_whole (hw2.blk G2.out) (by rw [vcells_len, vcells_len]))
      have hE : Hid (Ext w (w2.setCells (b0 + 1 + 1) 0 (vcells (mixV a b 16)))) := Lib.hid (Ext.setCells (HE.out.trans hw2) (by have := HB.out; omega) _ _)
      simp only [List.toList_toArray]
      generalize w2.setCells (b0 + 1 + 1) 0 (vcells (mixV a b 16)) = w3 at *
      clear hw2
      go_wp2
      exact bodyPost_ret (v := .agg (vcells (joinV a b)).toArray) (results_cell_row rfl _ _ (b0 + 1 + 1) 26 _ (0, 0) _ rfl hn.out Tryd.underlying26 rfl (by rw [List.size_toArray, vcells_len]; exact info26)) rfl ⟨rfl, hE.out⟩
set_option maxHeartbeats 1000000 in
theorem Join_calls (a b : Vc) (w : World) : Calls Tryd.prog 37 #[vval a, vval b] w fun e w' => e = .returned (vval (joinV a b)) ∧ Ext w w' := by
  obtain ⟨W0, b0, hW, hb0, hx, h0, h1, h2⟩ := boxes_vvz w a b
  rw [zcells_v] at hW
  have ra := blk_range h0
  have rb := blk_range h1
  have HX := Lib.hid hx
  have HW := Lib.hid hW
  have HS := Lib.hid hb0
  have H2 := Lib.hid h2
  have HB : Hid (w.heap.size ≤ b0) := Lib.hid (by omega)
  clear hx hW hb0 h0 h1 h2
  unfold vval
  go_enter Tryd.func37, Tryd.ntmps37
  go_upto_region 1 with (fail)
  rw [HW.out, HS.out]
  refine gl_begin (Ext.refl W0) ?_
  refine gl_take (N := some 5) rfl (gy_row (by rfl) rfl (by rfl) (by with_reducible assumption) Tryd.underlying26 rfl (by first | exact vinfo _ | exact einfo _ | kernel_rfl)) (by simp only [Act.put, List.setIfInBounds_toArray, List.set_cons_zero, List.set_cons_succ]; rfl) ?_
  refine gl_take (N := some 6) rfl (gy_row (by rfl) rfl (by rfl) (by with_reducible assumption) Tryd.underlying26 rfl (by first | exact vinfo _ | exact einfo _ | kernel_rfl)) (by simp only [Act.put, List.setIfInBounds_toArray, List.set_cons_zero, List.set_cons_succ]; rfl) ?_
  refine gl_take (N := some 7) rfl (gy_call (by rfl) rfl Tryd.func44 (by kernel_rfl) rfl #[_, _, _] (by rfl) (fun w _ => each_calls a b w)) (by simp only [Act.put, List.setIfInBounds_toArray, List.set_cons_zero, List.set_cons_succ]; rfl) ?_
  refine gl_eff (by rfl) (fun w2 hw2 => ?_)
  refine wp_store_mid 26 _ _ rfl (b0 + 1 + 1) 0 (vcells (joinV a b)).toArray (by rfl) (by rfl) (blk_there (hw2.blk H2.out) 0 _ (by simp [vcells_len])) (by rw [List.size_toArray, vcells_len]; exact info26) (all_oneCell_toArray (vcells_one _)) (wpl_nil ?_)
  have hn : Hid ((w2.setCells (b0 + 1 + 1) 0 (vcells (joinV a b))).heap[b0 + 1 + 1]? = some (.cells (vcells (joinV a b)).toArray 26 (0, 0))) := Lib.hid (setCells_whole (hw2.blk H2.out) (by rw [vcells_len, vcells_len]))
  have hE : Hid (Ext w (w2.setCells (b0 + 1 + 1) 0 (vcells (joinV a b)))) := Lib.hid (Ext.setCells (HX.out.trans hw2) (by have := HB.out; omega) _ _)
  simp only [List.toList_toArray]
  generalize w2.setCells (b0 + 1 + 1) 0 (vcells (joinV a b)) = w3 at *
  clear hw2
  go_wp2
  exact bodyPost_ret (v := .agg (vcells (joinV a b)).toArray) (results_cell_row rfl _ _ (b0 + 1 + 1) 26 _ (0, 0) _ rfl hn.out Tryd.underlying26 rfl (by rw [List.size_toArray, vcells_len]; exact info26)) rfl ⟨rfl, hE.out⟩
def belowB (a b : Vc) : Bool := decide (joinV a b = b)
theorem boxes_vv (w : World) (a b : Vc) : ∃ W0 b0, ((w.alloc (.cells (vcells a).toArray 26)).alloc (.cells (vcells b).toArray 26)) = W0 ∧ w.heap.size = b0 ∧ Ext w W0 ∧
    W0.heap[b0]? = some (.cells (vcells a).toArray 26 (0, 0)) ∧ W0.heap[b0 + 1]? = some (.cells (vcells b).toArray 26 (0, 0)) := by
  refine ⟨_, _, rfl, rfl, ((Ext.refl w).alloc _).alloc _, blk_alloc (blk_new _ _) _, ?_⟩
  have := blk_new (w.alloc (.cells (vcells a).toArray 26)) (.cells (vcells b).toArray 26)
  simpa using this
set_option maxHeartbeats 1000000 in
theorem Below_calls {a b : Vc} {r : Bool} (hr : belowB a b = r) (w : World) : Calls Tryd.prog 26 #[vval a, vval b] w fun e w' => e = .returned (.bool r) ∧ Ext w w' := by
  obtain ⟨W0, b0, hW, hb0, hx, h0, h1⟩ := boxes_vv w a b
  have ra := blk_range h0
  have rb := blk_range h1
  have HR := Lib.hid hr
  have HX := Lib.hid hx
  have HW := Lib.hid hW
  have HS := Lib.hid hb0
  clear hx hW hb0 h0 h1 hr
  unfold vval
  go_enter Tryd.func26, Tryd.ntmps26
  go_upto_region 1 with (fail)
  rw [HW.out, HS.out]
  refine g_begin (by kernel_rfl) (Ext.refl W0) #[false, false, false, false, false, false] 6 rfl rfl ?_
  refine g_take 0 #[true, false, false, false, false, false] (N := some 5) rfl rfl (by kernel_rfl) (fun _ _ _ h => h) (GP.rd (by rfl) (gy_row (by rfl) rfl (by rfl) (by with_reducible assumption) Tryd.underlying26 rfl (by first | exact vinfo _ | exact einfo _ | kernel_rfl))) (by simp only [Act.put, List.setIfInBounds_toArray, List.set_cons_zero, List.set_cons_succ]; rfl) ?_
  refine g_take 1 #[true, true, false, false, false, false] (N := some 6) rfl rfl (by kernel_rfl) (fun _ _ _ h => h) (GP.rd (by rfl) (gy_row (by rfl) rfl (by rfl) (by with_reducible assumption) Tryd.underlying26 rfl (by first | exact vinfo _ | exact einfo _ | kernel_rfl))) (by simp only [Act.put, List.setIfInBounds_toArray, List.set_cons_zero, List.set_cons_succ]; rfl) ?_
  refine g_take 2 #[true, true, true, false, false, false] (N := some 7) rfl rfl (by kernel_rfl) (fun _ _ _ h => h) (GP.rd (by rfl) (gy_call (by rfl) rfl Tryd.func37 (by kernel_rfl) rfl #[_, _] (by rfl) (fun w _ => Join_calls a b w))) (by simp only [Act.put, List.setIfInBounds_toArray, List.set_cons_zero, List.set_cons_succ]; rfl) ?_
  refine g_take 3 #[true, true, true, true, false, false] (N := some 8) rfl rfl (by kernel_rfl) (fun _ _ _ h => h) (GP.rd (by rfl) (gy_row (by rfl) rfl (by rfl) (by with_reducible assumption) Tryd.underlying26 rfl (by first | exact vinfo _ | exact einfo _ | kernel_rfl))) (by simp only [Act.put, List.setIfInBounds_toArray, List.set_cons_zero, List.set_cons_succ]; rfl) ?_
  refine g_take 4 #[true, true, true, true, true, false] (N := some 9) rfl rfl (by kernel_rfl) (fun _ _ _ h => h) (GP.p (gy_eqv (by rfl) rfl (by rfl) (by rfl))) (by simp only [Act.put, List.setIfInBounds_toArray, List.set_cons_zero, List.set_cons_succ]; rfl) ?_
  refine g_take 5 #[true, true, true, true, true, true] (N := some 4) rfl rfl (by kernel_rfl) (fun _ _ _ h => h) (GP.p (gy_pure (by rfl) (fun w_ => by go_simp; with_reducible rfl))) (by simp only [Act.put, List.setIfInBounds_toArray, List.set_cons_zero, List.set_cons_succ]; rfl) ?_
  refine g_done (by kernel_rfl) (fun w1 hw1 => ?_)
  clear ra rb
  go_wp2
  go_ret
  exact ⟨ret_bool (by rw [← HR.out, belowB]), HX.out.trans hw1⟩
def addV (v : Vc) (r c : Int) : Vc := if dotB r c && !knowsB v r c then v.set r.toNat c else v
theorem boxes_vdz (w : World) (v : Vc) (r c : Int) : ∃ W0 b0, (((w.alloc (.cells (vcells v).toArray 26)).alloc (.cells #[.int .i64 r, .int .i64 c] 30)).alloc (.cells (vcells Vc.zero).toArray 26)) = W0 ∧ w.heap.size = b0 ∧ Ext w W0 ∧
    W0.heap[b0]? = some (.cells (vcells v).toArray 26 (0, 0)) ∧ W0.heap[b0 + 1]? = some (.cells [.int .i64 r, .int .i64 c].toArray 30 (0, 0)) ∧ W0.heap[b0 + 2]? = some (.cells (vcells Vc.zero).toArray 26 (0, 0)) := by
  refine ⟨_, _, rfl, rfl, (((Ext.refl w).alloc _).alloc _).alloc _, blk_alloc (blk_alloc (blk_new _ _) _) _, blk_alloc ?_ _, ?_⟩
  · have := blk_new (w.alloc (.cells (vcells v).toArray 26)) (.cells #[.int .i64 r, .int .i64 c] 30)
    simpa using this
  · have := blk_new ((w.alloc (.cells (vcells v).toArray 26)).alloc (.cells #[.int .i64 r, .int .i64 c] 30)) (.cells (vcells Vc.zero).toArray 26)
    simpa using this
end Go.Proofs.YthmnohecmmknpaaDoor.Vec
namespace Go.Proofs.YthmnohecmmknpaaDoor.Vec
open Go.RowKit
set_option linter.unusedVariables false
set_option linter.unusedSimpArgs false
set_option maxRecDepth 100000
set_option maxHeartbeats 1000000 in
theorem Add_same {v : Vc} {r c : Int} {bd : Bool} (hd : dotB r c = bd) (hk : knowsB v r c = bd) (w : World) : Calls Tryd.prog 20 #[vval v, dval r c] w fun e w' => e = .returned (vval v) ∧ Ext w w' := by
  obtain ⟨W0, b0, hW, hb0, hx, h0, h1, h2⟩ := boxes_vdz w v r c
  rw [zcells_v] at hW
  have rv := blk_range h0
  have rd := blk_range h1
  have HD := Lib.hid hd
  have HKK := Lib.hid hk
  have HX := Lib.hid hx
  have HW := Lib.hid hW
  have HS := Lib.hid hb0
  have H2 := Lib.hid h2
  have HB : Hid (w.heap.size ≤ b0) := Lib.hid (by omega)
  clear hx hW hb0 h0 h1 h2 hd hk
  unfold vval
  cases bd with
  | false =>
    go_enter Tryd.func20, Tryd.ntmps20
    go_upto_region 1 with (fail)
    rw [HW.out, HS.out]
    refine gl_begin (Ext.refl W0) ?_
    refine gl_take (N := some 5) rfl (gy_row (by rfl) rfl (by rfl) (by with_reducible assumption) Tryd.underlying30 rfl (by first | exact vinfo _ | exact einfo _ | kernel_rfl)) (by simp only [Act.put, List.setIfInBounds_toArray, List.set_cons_zero, List.set_cons_succ]; rfl) ?_
    refine gl_take (N := some 6) rfl (gy_call (by rfl) rfl Tryd.func32 (by kernel_rfl) rfl #[_] (by rfl) (fun w _ => Dot_calls HD.out w)) (by simp only [Act.put, List.setIfInBounds_toArray, List.set_cons_zero, List.set_cons_succ]; rfl) ?_
    refine gl_take (N := some 7) rfl (Yields.gy (gy_pure (by rfl) (fun w_ => by go_simp; with_reducible rfl))) (by simp only [Act.put, List.setIfInBounds_toArray, List.set_cons_zero, List.set_cons_succ]; rfl) ?_
    refine gl_take (N := some 8) rfl (Yields.gy (gy_off (by rfl))) (by simp only [Act.put, List.setIfInBounds_toArray, List.set_cons_zero, List.set_cons_succ]; rfl) ?_
    refine gl_take (N := some 9) rfl (Yields.gy (gy_off (by rfl))) (by simp only [Act.put, List.setIfInBounds_toArray, List.set_cons_zero, List.set_cons_succ]; rfl) ?_
    refine gl_take (N := some 10) rfl (Yields.gy (gy_off (by rfl))) (by simp only [Act.put, List.setIfInBounds_toArray, List.set_cons_zero, List.set_cons_succ]; rfl) ?_
    refine gl_take (N := some 11) rfl (Yields.gy (gy_off (by rfl))) (by simp only [Act.put, List.setIfInBounds_toArray, List.set_cons_zero, List.set_cons_succ]; rfl) ?_
    refine gl_take (N := some 12) rfl (Yields.gy (gy_pure (by rfl) (fun w_ => by go_simp; with_reducible rfl))) (by simp only [Act.put, List.setIfInBounds_toArray, List.set_cons_zero, List.set_cons_succ]; rfl) ?_
    refine gl_done (fun w1 hw1 => ?_)
    have rv1 := hw1.range rv
    have G2 := Lib.hid (hw1.blk H2.out)
    have HE := Lib.hid (HX.out.trans hw1)
    clear rv rd hw1
    go_upto_region 3 with (fail)
    refine gl_begin (Ext.refl _) ?_
    refine gl_take (N := some 18) rfl (gy_row (by rfl) rfl (by rfl) (by with_reducible assumption) Tryd.underlying26 rfl (by first | exact vinfo _ | exact einfo _ | kernel_rfl)) (by simp only [Act.put, List.setIfInBounds_toArray, List.set_cons_zero, List.set_cons_succ]; rfl) ?_
    refine gl_eff (by rfl) (fun w2 hw2 => ?_)
    refine wp_store_mid 26 _ _ rfl (b0 + 1 + 1) 0 (vcells v).toArray (by rfl) (by rfl) (blk_there (hw2.blk G2.out) 0 _ (by simp [vcells_len])) (by rw [List.size_toArray, vcells_len]; exact info26) (all_oneCell_toArray (vcells_one _)) (wpl_nil ?_)
    have hn : Hid ((w2.setCells (b0 + 1 + 1) 0 (vcells v)).heap[b0 + 1 + 1]? = some (.cells (vcells v).toArray 26 (0, 0))) := Lib.hid (setCells_whole (hw2.blk G2.out) (by rw [vcells_len, vcells_len]))
    have hE : Hid (Ext w (w2.setCells (b0 + 1 + 1) 0 (vcells v))) := Lib.hid (Ext.setCells (HE.out.trans hw2) (by have := HB.out; omega) _ _)
    simp only [List.toList_toArray]
    generalize w2.setCells (b0 + 1 + 1) 0 (vcells v) = w3 at *
    clear hw2
    go_wp2
    exact bodyPost_ret (v := .agg (vcells v).toArray) (results_cell_row rfl _ _ (b0 + 1 + 1) 26 _ (0, 0) _ rfl hn.out Tryd.underlying26 rfl (by rw [List.size_toArray, vcells_len]; exact info26)) rfl ⟨rfl, hE.out⟩
  | true =>
    go_enter Tryd.func20, Tryd.ntmps20
    go_upto_region 1 with (fail)
    rw [HW.out, HS.out]
    refine gl_begin (Ext.refl W0) ?_
    refine gl_take (N := some 5) rfl (gy_row (by rfl) rfl (by rfl) (by with_reducible assumption) Tryd.underlying30 rfl (by first | exact vinfo _ | exact einfo _ | kernel_rfl)) (by simp only [Act.put, List.setIfInBounds_toArray, List.set_cons_zero, List.set_cons_succ]; rfl) ?_
    refine gl_take (N := some 6) rfl (gy_call (by rfl) rfl Tryd.func32 (by kernel_rfl) rfl #[_] (by rfl) (fun w _ => Dot_calls HD.out w)) (by simp only [Act.put, List.setIfInBounds_toArray, List.set_cons_zero, List.set_cons_succ]; rfl) ?_
    refine gl_take (N := some 7) rfl (Yields.gy (gy_pure (by rfl) (fun w_ => by go_simp; with_reducible rfl))) (by simp only [Act.put, List.setIfInBounds_toArray, List.set_cons_zero, List.set_cons_succ]; rfl) ?_
    refine gl_take (N := some 8) rfl (gy_row (by rfl) rfl (by rfl) (by with_reducible assumption) Tryd.underlying26 rfl (by first | exact vinfo _ | exact einfo _ | kernel_rfl)) (by simp only [Act.put, List.setIfInBounds_toArray, List.set_cons_zero, List.set_cons_succ]; rfl) ?_
    refine gl_take (N := some 9) rfl (gy_row (by rfl) rfl (by rfl) (by with_reducible assumption) Tryd.underlying30 rfl (by first | exact vinfo _ | exact einfo _ | kernel_rfl)) (by simp only [Act.put, List.setIfInBounds_toArray, List.set_cons_zero, List.set_cons_succ]; rfl) ?_
    refine gl_take (N := some 10) rfl (gy_call (by rfl) rfl Tryd.func23 (by kernel_rfl) rfl #[_, _] (by rfl) (fun w _ => Knows_calls HKK.out w)) (by simp only [Act.put, List.setIfInBounds_toArray, List.set_cons_zero, List.set_cons_succ]; rfl) ?_
    refine gl_take (N := some 11) rfl (Yields.gy (gy_pure (by rfl) (fun w_ => by go_simp; with_reducible rfl))) (by simp only [Act.put, List.setIfInBounds_toArray, List.set_cons_zero, List.set_cons_succ]; rfl) ?_
    refine gl_take (N := some 12) rfl (Yields.gy (gy_pure (by rfl) (fun w_ => by go_simp; with_reducible rfl))) (by simp only [Act.put, List.setIfInBounds_toArray, List.set_cons_zero, List.set_cons_succ]; rfl) ?_
    refine gl_done (fun w1 hw1 => ?_)
    have rv1 := hw1.range rv
    have G2 := Lib.hid (hw1.blk H2.out)
    have HE := Lib.hid (HX.out.trans hw1)
    clear rv rd hw1
    go_upto_region 3 with (fail)
    refine gl_begin (Ext.refl _) ?_
    refine gl_take (N := some 18) rfl (gy_row (by rfl) rfl (by rfl) (by with_reducible assumption) Tryd.underlying26 rfl (by first | exact vinfo _ | exact einfo _ | kernel_rfl)) (by simp only [Act.put, List.setIfInBounds_toArray, List.set_cons_zero, List.set_cons_succ]; rfl) ?_
    refine gl_eff (by rfl) (fun w2 hw2 => ?_)
    refine wp_store_mid 26 _ _ rfl (b0 + 1 + 1) 0 (vcells v).toArray (by rfl) (by rfl) (blk_there (hw2.blk G2.out) 0 _ (by simp [vcells_len])) (by rw [List.size_toArray, vcells_len]; exact info26) (all_oneCell_toArray (vcells_one _)) (wpl_nil ?_)
    have hn : Hid ((w2.setCells (b0 + 1 + 1) 0 (vcells v)).heap[b0 + 1 + 1]? = some (.cells (vcells v).toArray 26 (0, 0))) := Lib.hid (setCells_whole (hw2.blk G2.out) (by rw [vcells_len, vcells_len]))
    have hE : Hid (Ext w (w2.setCells (b0 + 1 + 1) 0 (vcells v))) := Lib.hid (Ext.setCells (HE.out.trans hw2) (by have := HB.out; omega) _ _)
    simp only [List.toList_toArray]
    generalize w2.setCells (b0 + 1 + 1) 0 (vcells v) = w3 at *
    clear hw2
    go_wp2
    exact bodyPost_ret (v := .agg (vcells v).toArray) (results_cell_row rfl _ _ (b0 + 1 + 1) 26 _ (0, 0) _ rfl hn.out Tryd.underlying26 rfl (by rw [List.size_toArray, vcells_len]; exact info26)) rfl ⟨rfl, hE.out⟩
set_option maxHeartbeats 1000000 in
theorem Add_new {v : Vc} {n : Nat} {c : Int} (hn : n < 16) (hd : dotB n c = true) (hk : knowsB v n c = false) (w : World) : Calls Tryd.prog 20 #[vval v, dval n c] w fun e w' => e = .returned (vval (v.set n c)) ∧ Ext w w' := by
  obtain ⟨W0, b0, hW, hb0, hx, h0, h1, h2⟩ := boxes_vdz w v n c
  rw [zcells_v] at hW
  have rv := blk_range h0
  have rd := blk_range h1
  have d0 : W0.cell? ⟨b0 + 1, 0, none⟩ = some (.int .i64 (n : Int)) := (blk_cell h1 0).trans rfl
  have d1 : W0.cell? ⟨b0 + 1, 1, none⟩ = some (.int .i64 c) := (blk_cell h1 1).trans rfl
  have hn1 : (n : Int) < 16 := by omega
  have hn0 : 0 ≤ (n : Int) := by omega
  have HN := Lib.hid hn
  have HD := Lib.hid hd
  have HKK := Lib.hid hk
  have HX := Lib.hid hx
  have HW := Lib.hid hW
  have HS := Lib.hid hb0
  have H0 := Lib.hid h0
  have H2 := Lib.hid h2
  have HB : Hid (w.heap.size ≤ b0) := Lib.hid (by omega)
  clear hx hW hb0 h0 h1 h2 hd hk hn
  unfold vval
  go_enter Tryd.func20, Tryd.ntmps20
  go_upto_region 1 with (fail)
  rw [HW.out, HS.out]
  refine gl_begin (Ext.refl W0) ?_
  refine gl_take (N := some 5) rfl (gy_row (by rfl) rfl (by rfl) (by with_reducible assumption) Tryd.underlying30 rfl (by first | exact vinfo _ | exact einfo _ | kernel_rfl)) (by simp only [Act.put, List.setIfInBounds_toArray, List.set_cons_zero, List.set_cons_succ]; rfl) ?_
  refine gl_take (N := some 6) rfl (gy_call (by rfl) rfl Tryd.func32 (by kernel_rfl) rfl #[_] (by rfl) (fun w _ => Dot_calls HD.out w)) (by simp only [Act.put, List.setIfInBounds_toArray, List.set_cons_zero, List.set_cons_succ]; rfl) ?_
  refine gl_take (N := some 7) rfl (Yields.gy (gy_pure (by rfl) (fun w_ => by go_simp; with_reducible rfl))) (by simp only [Act.put, List.setIfInBounds_toArray, List.set_cons_zero, List.set_cons_succ]; rfl) ?_
  refine gl_take (N := some 8) rfl (gy_row (by rfl) rfl (by rfl) (by with_reducible assumption) Tryd.underlying26 rfl (by first | exact vinfo _ | exact einfo _ | kernel_rfl)) (by simp only [Act.put, List.setIfInBounds_toArray, List.set_cons_zero, List.set_cons_succ]; rfl) ?_
  refine gl_take (N := some 9) rfl (gy_row (by rfl) rfl (by rfl) (by with_reducible assumption) Tryd.underlying30 rfl (by first | exact vinfo _ | exact einfo _ | kernel_rfl)) (by simp only [Act.put, List.setIfInBounds_toArray, List.set_cons_zero, List.set_cons_succ]; rfl) ?_
  refine gl_take (N := some 10) rfl (gy_call (by rfl) rfl Tryd.func23 (by kernel_rfl) rfl #[_, _] (by rfl) (fun w _ => Knows_calls HKK.out w)) (by simp only [Act.put, List.setIfInBounds_toArray, List.set_cons_zero, List.set_cons_succ]; rfl) ?_
  refine gl_take (N := some 11) rfl (Yields.gy (gy_pure (by rfl) (fun w_ => by go_simp; with_reducible rfl))) (by simp only [Act.put, List.setIfInBounds_toArray, List.set_cons_zero, List.set_cons_succ]; rfl) ?_
  refine gl_take (N := some 12) rfl (Yields.gy (gy_pure (by rfl) (fun w_ => by go_simp; with_reducible rfl))) (by simp only [Act.put, List.setIfInBounds_toArray, List.set_cons_zero, List.set_cons_succ]; rfl) ?_
  refine gl_done (fun w1 hw1 => ?_)
  have c0 := hw1.cell d0
  have c1 := hw1.cell d1
  have G0 := Lib.hid (hw1.blk H0.out)
  have G2 := Lib.hid (hw1.blk H2.out)
  have HE := Lib.hid (HX.out.trans hw1)
  clear rv rd d0 d1 hw1
  go_upto_region 2 with (fail)
  refine gl_begin (Ext.refl _) ?_
  refine gl_take (N := some 13) rfl (Yields.gy (gy_pure (by rfl) (fun w_ => by go_simp; with_reducible rfl))) (by simp only [Act.put, List.setIfInBounds_toArray, List.set_cons_zero, List.set_cons_succ]; rfl) ?_
  refine gl_take (N := some 14) rfl (gy_load1 (by rfl) rfl (by rfl) Tryd.isAgg3 (by with_reducible assumption)) (by simp only [Act.put, List.setIfInBounds_toArray, List.set_cons_zero, List.set_cons_succ]; rfl) ?_
  refine gl_take (N := some 15) rfl (Yields.gy (gy_pure (by rfl) (fun w_ => by go_simp; with_reducible rfl))) (by simp only [Act.put, List.setIfInBounds_toArray, List.set_cons_zero, List.set_cons_succ]; rfl) ?_
  refine gl_take (N := some 16) rfl (gy_load1 (by rfl) rfl (by rfl) Tryd.isAgg3 (by with_reducible assumption)) (by simp only [Act.put, List.setIfInBounds_toArray, List.set_cons_zero, List.set_cons_succ]; rfl) ?_
  refine gl_take (N := some 17) rfl (Yields.gy (gy_pure (by rfl) (fun w_ => by go_simp; with_reducible rfl))) (by simp only [Act.put, List.setIfInBounds_toArray, List.set_cons_zero, List.set_cons_succ]; rfl) ?_
  refine gl_eff (by rfl) (fun w2 hw2 => ?_)
  have cn := range_at (blk_range (hw2.blk G0.out)) n HN.out
  rw [Nat.zero_add] at cn
  refine wp_store1 (v := .int .i64 c) rfl (by rfl) (by rfl) Tryd.sizeOf3 rfl rfl cn (frozen_of_row _ _ _ _ _ (hw2.blk G0.out)) (wpl_nil ?_)
  have rv3 : (w2.setCell ⟨b0, n, none⟩ (.int .i64 c)).rangeAt b0 0 (vcells (v.set n c)) := blk_range (by
    rw [vcells_set]
    exact blk_set_same (hw2.blk G0.out))
  have G3 : Hid ((w2.setCell ⟨b0, n, none⟩ (.int .i64 c)).heap[b0 + 1 + 1]? = some (.cells (vcells Vc.zero).toArray 26 (0, 0))) := Lib.hid (blk_set_other (hw2.blk G2.out) (by omega))
  have HE3 : Hid (Ext w (w2.setCell ⟨b0, n, none⟩ (.int .i64 c))) := Lib.hid (Ext.setCell (HE.out.trans hw2) HB.out _)
  generalize w2.setCell ⟨b0, n, none⟩ (.int .i64 c) = w3 at *
  clear c0 c1 cn hw2
  go_upto_region 3 with (fail)
  refine gl_begin (Ext.refl _) ?_
  refine gl_take (N := some 18) rfl (gy_row (by rfl) rfl (by rfl) (by with_reducible assumption) Tryd.underlying26 rfl (by first | exact vinfo _ | exact einfo _ | kernel_rfl)) (by simp only [Act.put, List.setIfInBounds_toArray, List.set_cons_zero, List.set_cons_succ]; rfl) ?_
  refine gl_eff (by rfl) (fun w4 hw4 => ?_)
  refine wp_store_mid 26 _ _ rfl (b0 + 1 + 1) 0 (vcells (v.set n c)).toArray (by rfl) (by rfl) (blk_there (hw4.blk G3.out) 0 _ (by simp [vcells_len])) (by rw [List.size_toArray, vcells_len]; exact info26) (all_oneCell_toArray (vcells_one _)) (wpl_nil ?_)
  have hn : Hid ((w4.setCells (b0 + 1 + 1) 0 (vcells (v.set n c))).heap[b0 + 1 + 1]? = some (.cells (vcells (v.set n c)).toArray 26 (0, 0))) := Lib.hid (setCells_whole (hw4.blk G3.out) (by rw [vcells_len, vcells_len]))
  have hE : Hid (Ext w (w4.setCells (b0 + 1 + 1) 0 (vcells (v.set n c)))) := Lib.hid (Ext.setCells (HE3.out.trans hw4) (by have := HB.out; omega) _ _)
  simp only [List.toList_toArray]
  generalize w4.setCells (b0 + 1 + 1) 0 (vcells (v.set n c)) = w5 at *
  clear hw4
  go_wp2
  exact bodyPost_ret (v := .agg (vcells (v.set n c)).toArray) (results_cell_row rfl _ _ (b0 + 1 + 1) 26 _ (0, 0) _ rfl hn.out Tryd.underlying26 rfl (by rw [List.size_toArray, vcells_len]; exact info26)) rfl ⟨rfl, hE.out⟩
theorem Add_calls (v : Vc) (r c : Int) (w : World) : Calls Tryd.prog 20 #[vval v, dval r c] w fun e w' => e = .returned (vval (addV v r c)) ∧ Ext w w' := by
  unfold addV
  cases hd : dotB r c with
  | false =>
    rw [Bool.false_and, if_neg (by decide)]
    exact Add_same hd (by rw [knowsB, hd, Bool.false_and]) w
  | true =>
    cases hk : knowsB v r c with
    | true =>
      rw [Bool.true_and, if_neg (by decide)]
      exact Add_same hd hk w
    | false =>
      rw [Bool.true_and, if_pos (by decide)]
      obtain ⟨h0, h1, h2, h3⟩ := dotB_iff.1 hd
      obtain ⟨n, rfl⟩ : ∃ n : Nat, r = n := ⟨r.toNat, by omega⟩
      exact Add_new (by omega) hd hk w
end Go.Proofs.YthmnohecmmknpaaDoor.Vec
namespace Go.Proofs.YthmnohecmmknpaaDoor.Vec
open Go.RowKit
set_option linter.unusedVariables false
set_option linter.unusedSimpArgs false
set_option maxRecDepth 100000
abbrev chcells (e : Ev) : List Value := [.int .i64 e.op, .int .i64 e.kind, .string e.a, .string e.b, .string e.c, .string e.d, .int .i64 e.vk, .int .i64 e.vn, .string e.vt]
theorem chcells_one (e : Ev) : ∀ u ∈ chcells e, u.oneCell' = true := by
  intro u hu
  simp at hu
  rcases hu with rfl | rfl | rfl | rfl | rfl | rfl | rfl | rfl | rfl <;> rfl
theorem boxes_ez (w : World) (e : Ev) : ∃ W0 b0, ((w.alloc (.cells (ecells e).toArray 36)).alloc (.cells #[.int .i64 0, .int .i64 0, .string ⟨#[]⟩, .string ⟨#[]⟩, .string ⟨#[]⟩, .string ⟨#[]⟩, .int .i64 0, .int .i64 0, .string ⟨#[]⟩] 56)) = W0 ∧ w.heap.size = b0 ∧ Ext w W0 ∧
    EvAt W0 b0 0 e ∧ W0.heap[b0 + 1]? = some (.cells [.int .i64 0, .int .i64 0, .string ⟨#[]⟩, .string ⟨#[]⟩, .string ⟨#[]⟩, .string ⟨#[]⟩, .int .i64 0, .int .i64 0, .string ⟨#[]⟩].toArray 56 (0, 0)) := by
  refine ⟨_, _, rfl, rfl, ((Ext.refl w).alloc _).alloc _, (EvAt.new w e 36).ext ((Ext.refl _).alloc _), ?_⟩
  have := blk_new (w.alloc (.cells (ecells e).toArray 36)) (.cells #[.int .i64 0, .int .i64 0, .string ⟨#[]⟩, .string ⟨#[]⟩, .string ⟨#[]⟩, .string ⟨#[]⟩, .int .i64 0, .int .i64 0, .string ⟨#[]⟩] 56)
  simpa using this
set_option maxHeartbeats 1000000 in
theorem Of_calls (e : Ev) (w : World) : Calls Tryd.prog 36 #[evval e] w fun r w' => r = .returned (.agg (chcells e).toArray) ∧ Ext w w' := by
  obtain ⟨W0, b0, hW, hb0, hx, he, h1⟩ := boxes_ez w e
  have r18 := he.opc
  have r19 : W0.rangeAt b0 19 [.int .i64 e.kind, .string e.a, .string e.b, .string e.c, .string e.d] := by have := he.elemr; simpa [elemc] using this
  have r24 : W0.rangeAt b0 24 [.int .i64 e.vk, .int .i64 e.vn, .string e.vt] := by have := he.valr; simpa [valc] using this
  rw [Nat.zero_add] at r18
  have HX := Lib.hid hx
  have HW := Lib.hid hW
  have HS := Lib.hid hb0
  have H1 := Lib.hid h1
  have HB : Hid (w.heap.size ≤ b0) := Lib.hid (by omega)
  clear hx hW hb0 h1 he
  unfold evval
  go_enter Tryd.func36, Tryd.ntmps36
  go_upto_region 1 with (fail)
  rw [HW.out, HS.out]
  refine gl_begin (Ext.refl W0) ?_
  refine gl_take (N := some 3) rfl (Yields.gy (gy_pure (by rfl) (fun w_ => by go_simp; with_reducible rfl))) (by simp only [Act.put, List.setIfInBounds_toArray, List.set_cons_zero, List.set_cons_succ]; rfl) ?_
  refine gl_take (N := some 4) rfl (gy_load1 (by rfl) rfl (by rfl) Tryd.isAgg3 (by with_reducible assumption)) (by simp only [Act.put, List.setIfInBounds_toArray, List.set_cons_zero, List.set_cons_succ]; rfl) ?_
  refine gl_take (N := some 5) rfl (Yields.gy (gy_pure (by rfl) (fun w_ => by go_simp; with_reducible rfl))) (by simp only [Act.put, List.setIfInBounds_toArray, List.set_cons_zero, List.set_cons_succ]; rfl) ?_
  refine gl_take (N := some 6) rfl (gy_row (by rfl) rfl (by rfl) (by with_reducible assumption) Tryd.underlying32 rfl (by first | exact vinfo _ | exact einfo _ | kernel_rfl)) (by simp only [Act.put, List.setIfInBounds_toArray, List.set_cons_zero, List.set_cons_succ]; rfl) ?_
  refine gl_take (N := some 7) rfl (Yields.gy (gy_pure (by rfl) (fun w_ => by go_simp; with_reducible rfl))) (by simp only [Act.put, List.setIfInBounds_toArray, List.set_cons_zero, List.set_cons_succ]; rfl) ?_
  refine gl_take (N := some 8) rfl (gy_row (by rfl) rfl (by rfl) (by with_reducible assumption) Tryd.underlying34 rfl (by first | exact vinfo _ | exact einfo _ | kernel_rfl)) (by simp only [Act.put, List.setIfInBounds_toArray, List.set_cons_zero, List.set_cons_succ]; rfl) ?_
  refine gl_take (N := some 9) rfl (Yields.gy (gy_pure (by rfl) (fun w_ => by go_simp; with_reducible rfl))) (by simp only [Act.put, List.setIfInBounds_toArray, List.set_cons_zero, List.set_cons_succ]; rfl) ?_
  refine gl_eff (by rfl) (fun w2 hw2 => ?_)
  refine wp_store_mid 56 _ _ rfl (b0 + 1) 0 (chcells e).toArray (by rfl) (by rfl) (blk_there (hw2.blk H1.out) 0 _ (by simp)) (by kernel_rfl) (all_oneCell_toArray (chcells_one e)) (wpl_nil ?_)
  have hn : Hid ((w2.setCells (b0 + 1) 0 (chcells e)).heap[b0 + 1]? = some (.cells (chcells e).toArray 56 (0, 0))) := Lib.hid (setCells_whole (hw2.blk H1.out) rfl)
  have hE : Hid (Ext w (w2.setCells (b0 + 1) 0 (chcells e))) := Lib.hid (Ext.setCells (HX.out.trans hw2) (by have := HB.out; omega) _ _)
  simp only [List.toList_toArray]
  generalize w2.setCells (b0 + 1) 0 (chcells e) = w3 at *
  clear hw2
  go_wp2
  exact bodyPost_ret (v := .agg (chcells e).toArray) (results_cell_row rfl _ _ (b0 + 1) 56 _ (0, 0) _ rfl hn.out Tryd.underlying56 rfl (by kernel_rfl)) rfl ⟨rfl, hE.out⟩
theorem box_e (w : World) (e : Ev) : ∃ W0 b0, w.alloc (.cells (ecells e).toArray 36) = W0 ∧ w.heap.size = b0 ∧ Ext w W0 ∧ EvAt W0 b0 0 e :=
  ⟨_, _, rfl, rfl, (Ext.refl w).alloc _, EvAt.new w e 36⟩
def ChangeIs (e : Ev) (x : Int) : Prop := ∀ w, Calls Tryd.prog 35 #[.agg (chcells e).toArray] w fun r w' => r = .returned (.int .i64 x) ∧ Ext w w'
set_option maxHeartbeats 1000000 in
theorem ERight_no {e : Ev} {b : Bool} (hn : nextB e.past e.rep e.cnt = b) (hv : rightB e.past = false) (w : World) : Calls Tryd.prog 24 #[evval e] w fun r w' => r = .returned (.int .i64 1) ∧ Ext w w' := by
  obtain ⟨W0, b0, hW, hb0, hx, he⟩ := box_e w e
  have r0 := he.dotr
  have r2 := he.past
  rw [Nat.zero_add] at r2
  have HX := Lib.hid hx
  have HW := Lib.hid hW
  have HS := Lib.hid hb0
  have HN := Lib.hid hn
  have HV := Lib.hid hv
  clear hx hW hb0 he hn hv
  unfold evval
  cases b with
  | false =>
    go_enter Tryd.func24, Tryd.ntmps24
    go_upto_region 1 with (fail)
    rw [HW.out, HS.out]
    refine gl_begin (Ext.refl W0) ?_
    refine gl_take (N := some 3) rfl (Yields.gy (gy_pure (by rfl) (fun w_ => by go_simp; with_reducible rfl))) (by simp only [Act.put, List.setIfInBounds_toArray, List.set_cons_zero, List.set_cons_succ]; rfl) ?_
    refine gl_take (N := some 4) rfl (gy_row (by rfl) rfl (by rfl) (by with_reducible assumption) Tryd.underlying26 rfl (by first | exact vinfo _ | exact einfo _ | kernel_rfl)) (by simp only [Act.put, List.setIfInBounds_toArray, List.set_cons_zero, List.set_cons_succ]; rfl) ?_
    refine gl_take (N := some 5) rfl (Yields.gy (gy_pure (by rfl) (fun w_ => by go_simp; with_reducible rfl))) (by simp only [Act.put, List.setIfInBounds_toArray, List.set_cons_zero, List.set_cons_succ]; rfl) ?_
    refine gl_take (N := some 6) rfl (gy_row (by rfl) rfl (by rfl) (by with_reducible assumption) Tryd.underlying30 rfl (by first | exact vinfo _ | exact einfo _ | kernel_rfl)) (by simp only [Act.put, List.setIfInBounds_toArray, List.set_cons_zero, List.set_cons_succ]; rfl) ?_
    refine gl_take (N := some 7) rfl (gy_call (by rfl) rfl Tryd.func25 (by kernel_rfl) rfl #[_, _] (by rfl) (fun w _ => Next_calls HN.out w)) (by simp only [Act.put, List.setIfInBounds_toArray, List.set_cons_zero, List.set_cons_succ]; rfl) ?_
    refine gl_take (N := some 8) rfl (Yields.gy (gy_pure (by rfl) (fun w_ => by go_simp; with_reducible rfl))) (by simp only [Act.put, List.setIfInBounds_toArray, List.set_cons_zero, List.set_cons_succ]; rfl) ?_
    refine gl_take (N := some 9) rfl (Yields.gy (gy_pure (by rfl) (fun w_ => by go_simp; with_reducible rfl))) (by simp only [Act.put, List.setIfInBounds_toArray, List.set_cons_zero, List.set_cons_succ]; rfl) ?_
    refine gl_take (N := some 10) rfl (Yields.gy (gy_off (by rfl))) (by simp only [Act.put, List.setIfInBounds_toArray, List.set_cons_zero, List.set_cons_succ]; rfl) ?_
    refine gl_take (N := some 11) rfl (Yields.gy (gy_off (by rfl))) (by simp only [Act.put, List.setIfInBounds_toArray, List.set_cons_zero, List.set_cons_succ]; rfl) ?_
    refine gl_take (N := some 12) rfl (Yields.gy (gy_off (by rfl))) (by simp only [Act.put, List.setIfInBounds_toArray, List.set_cons_zero, List.set_cons_succ]; rfl) ?_
    refine gl_take (N := some 13) rfl (Yields.gy (gy_off (by rfl))) (by simp only [Act.put, List.setIfInBounds_toArray, List.set_cons_zero, List.set_cons_succ]; rfl) ?_
    refine gl_take (N := some 14) rfl (Yields.gy (gy_pure (by rfl) (fun w_ => by go_simp; with_reducible rfl))) (by simp only [Act.put, List.setIfInBounds_toArray, List.set_cons_zero, List.set_cons_succ]; rfl) ?_
    refine gl_done (fun w1 hw1 => ?_)
    go_wp2
    go_ret
    exact ⟨rfl, HX.out.trans hw1⟩
  | true =>
    go_enter Tryd.func24, Tryd.ntmps24
    go_upto_region 1 with (fail)
    rw [HW.out, HS.out]
    refine gl_begin (Ext.refl W0) ?_
    refine gl_take (N := some 3) rfl (Yields.gy (gy_pure (by rfl) (fun w_ => by go_simp; with_reducible rfl))) (by simp only [Act.put, List.setIfInBounds_toArray, List.set_cons_zero, List.set_cons_succ]; rfl) ?_
    refine gl_take (N := some 4) rfl (gy_row (by rfl) rfl (by rfl) (by with_reducible assumption) Tryd.underlying26 rfl (by first | exact vinfo _ | exact einfo _ | kernel_rfl)) (by simp only [Act.put, List.setIfInBounds_toArray, List.set_cons_zero, List.set_cons_succ]; rfl) ?_
    refine gl_take (N := some 5) rfl (Yields.gy (gy_pure (by rfl) (fun w_ => by go_simp; with_reducible rfl))) (by simp only [Act.put, List.setIfInBounds_toArray, List.set_cons_zero, List.set_cons_succ]; rfl) ?_
    refine gl_take (N := some 6) rfl (gy_row (by rfl) rfl (by rfl) (by with_reducible assumption) Tryd.underlying30 rfl (by first | exact vinfo _ | exact einfo _ | kernel_rfl)) (by simp only [Act.put, List.setIfInBounds_toArray, List.set_cons_zero, List.set_cons_succ]; rfl) ?_
    refine gl_take (N := some 7) rfl (gy_call (by rfl) rfl Tryd.func25 (by kernel_rfl) rfl #[_, _] (by rfl) (fun w _ => Next_calls HN.out w)) (by simp only [Act.put, List.setIfInBounds_toArray, List.set_cons_zero, List.set_cons_succ]; rfl) ?_
    refine gl_take (N := some 8) rfl (Yields.gy (gy_pure (by rfl) (fun w_ => by go_simp; with_reducible rfl))) (by simp only [Act.put, List.setIfInBounds_toArray, List.set_cons_zero, List.set_cons_succ]; rfl) ?_
    refine gl_take (N := some 9) rfl (Yields.gy (gy_pure (by rfl) (fun w_ => by go_simp; with_reducible rfl))) (by simp only [Act.put, List.setIfInBounds_toArray, List.set_cons_zero, List.set_cons_succ]; rfl) ?_
    refine gl_take (N := some 10) rfl (Yields.gy (gy_pure (by rfl) (fun w_ => by go_simp; with_reducible rfl))) (by simp only [Act.put, List.setIfInBounds_toArray, List.set_cons_zero, List.set_cons_succ]; rfl) ?_
    refine gl_take (N := some 11) rfl (gy_row (by rfl) rfl (by rfl) (by with_reducible assumption) Tryd.underlying26 rfl (by first | exact vinfo _ | exact einfo _ | kernel_rfl)) (by simp only [Act.put, List.setIfInBounds_toArray, List.set_cons_zero, List.set_cons_succ]; rfl) ?_
    refine gl_take (N := some 12) rfl (gy_call (by rfl) rfl Tryd.func34 (by kernel_rfl) rfl #[_] (by rfl) (fun w _ => VRight_calls HV.out w)) (by simp only [Act.put, List.setIfInBounds_toArray, List.set_cons_zero, List.set_cons_succ]; rfl) ?_
    refine gl_take (N := some 13) rfl (Yields.gy (gy_pure (by rfl) (fun w_ => by go_simp; with_reducible rfl))) (by simp only [Act.put, List.setIfInBounds_toArray, List.set_cons_zero, List.set_cons_succ]; rfl) ?_
    refine gl_take (N := some 14) rfl (Yields.gy (gy_pure (by rfl) (fun w_ => by go_simp; with_reducible rfl))) (by simp only [Act.put, List.setIfInBounds_toArray, List.set_cons_zero, List.set_cons_succ]; rfl) ?_
    refine gl_done (fun w1 hw1 => ?_)
    go_wp2
    go_ret
    exact ⟨rfl, HX.out.trans hw1⟩
set_option maxHeartbeats 1000000 in
theorem ERight_next {e : Ev} (hn : nextB e.past e.rep e.cnt = false) (w : World) : Calls Tryd.prog 24 #[evval e] w fun r w' => r = .returned (.int .i64 1) ∧ Ext w w' := by
  obtain ⟨W0, b0, hW, hb0, hx, he⟩ := box_e w e
  have r0 := he.dotr
  have r2 := he.past
  rw [Nat.zero_add] at r2
  have HX := Lib.hid hx
  have HW := Lib.hid hW
  have HS := Lib.hid hb0
  have HN := Lib.hid hn
  clear hx hW hb0 he hn
  unfold evval
  go_enter Tryd.func24, Tryd.ntmps24
  go_upto_region 1 with (fail)
  rw [HW.out, HS.out]
  refine gl_begin (Ext.refl W0) ?_
  refine gl_take (N := some 3) rfl (Yields.gy (gy_pure (by rfl) (fun w_ => by go_simp; with_reducible rfl))) (by simp only [Act.put, List.setIfInBounds_toArray, List.set_cons_zero, List.set_cons_succ]; rfl) ?_
  refine gl_take (N := some 4) rfl (gy_row (by rfl) rfl (by rfl) (by with_reducible assumption) Tryd.underlying26 rfl (by first | exact vinfo _ | exact einfo _ | kernel_rfl)) (by simp only [Act.put, List.setIfInBounds_toArray, List.set_cons_zero, List.set_cons_succ]; rfl) ?_
  refine gl_take (N := some 5) rfl (Yields.gy (gy_pure (by rfl) (fun w_ => by go_simp; with_reducible rfl))) (by simp only [Act.put, List.setIfInBounds_toArray, List.set_cons_zero, List.set_cons_succ]; rfl) ?_
  refine gl_take (N := some 6) rfl (gy_row (by rfl) rfl (by rfl) (by with_reducible assumption) Tryd.underlying30 rfl (by first | exact vinfo _ | exact einfo _ | kernel_rfl)) (by simp only [Act.put, List.setIfInBounds_toArray, List.set_cons_zero, List.set_cons_succ]; rfl) ?_
  refine gl_take (N := some 7) rfl (gy_call (by rfl) rfl Tryd.func25 (by kernel_rfl) rfl #[_, _] (by rfl) (fun w _ => Next_calls HN.out w)) (by simp only [Act.put, List.setIfInBounds_toArray, List.set_cons_zero, List.set_cons_succ]; rfl) ?_
  refine gl_take (N := some 8) rfl (Yields.gy (gy_pure (by rfl) (fun w_ => by go_simp; with_reducible rfl))) (by simp only [Act.put, List.setIfInBounds_toArray, List.set_cons_zero, List.set_cons_succ]; rfl) ?_
  refine gl_take (N := some 9) rfl (Yields.gy (gy_pure (by rfl) (fun w_ => by go_simp; with_reducible rfl))) (by simp only [Act.put, List.setIfInBounds_toArray, List.set_cons_zero, List.set_cons_succ]; rfl) ?_
  refine gl_take (N := some 10) rfl (Yields.gy (gy_off (by rfl))) (by simp only [Act.put, List.setIfInBounds_toArray, List.set_cons_zero, List.set_cons_succ]; rfl) ?_
  refine gl_take (N := some 11) rfl (Yields.gy (gy_off (by rfl))) (by simp only [Act.put, List.setIfInBounds_toArray, List.set_cons_zero, List.set_cons_succ]; rfl) ?_
  refine gl_take (N := some 12) rfl (Yields.gy (gy_off (by rfl))) (by simp only [Act.put, List.setIfInBounds_toArray, List.set_cons_zero, List.set_cons_succ]; rfl) ?_
  refine gl_take (N := some 13) rfl (Yields.gy (gy_off (by rfl))) (by simp only [Act.put, List.setIfInBounds_toArray, List.set_cons_zero, List.set_cons_succ]; rfl) ?_
  refine gl_take (N := some 14) rfl (Yields.gy (gy_pure (by rfl) (fun w_ => by go_simp; with_reducible rfl))) (by simp only [Act.put, List.setIfInBounds_toArray, List.set_cons_zero, List.set_cons_succ]; rfl) ?_
  refine gl_done (fun w1 hw1 => ?_)
  go_wp2
  go_ret
  exact ⟨rfl, HX.out.trans hw1⟩
set_option maxHeartbeats 1000000 in
theorem ERight_yes {e : Ev} {x : Int} (hn : nextB e.past e.rep e.cnt = true) (hv : rightB e.past = true) (hc : ChangeIs e x) (w : World) : Calls Tryd.prog 24 #[evval e] w fun r w' => r = .returned (.int .i64 x) ∧ Ext w w' := by
  obtain ⟨W0, b0, hW, hb0, hx, he⟩ := box_e w e
  have r0 := he.dotr
  have r2 := he.past
  have HA := Lib.hid he.all
  rw [Nat.zero_add] at r2
  have HX := Lib.hid hx
  have HW := Lib.hid hW
  have HS := Lib.hid hb0
  have HN := Lib.hid hn
  have HV := Lib.hid hv
  have HC := Lib.hid hc
  clear hx hW hb0 he hn hv hc
  unfold evval
  go_enter Tryd.func24, Tryd.ntmps24
  go_upto_region 1 with (fail)
  rw [HW.out, HS.out]
  refine gl_begin (Ext.refl W0) ?_
  refine gl_take (N := some 3) rfl (Yields.gy (gy_pure (by rfl) (fun w_ => by go_simp; with_reducible rfl))) (by simp only [Act.put, List.setIfInBounds_toArray, List.set_cons_zero, List.set_cons_succ]; rfl) ?_
  refine gl_take (N := some 4) rfl (gy_row (by rfl) rfl (by rfl) (by with_reducible assumption) Tryd.underlying26 rfl (by first | exact vinfo _ | exact einfo _ | kernel_rfl)) (by simp only [Act.put, List.setIfInBounds_toArray, List.set_cons_zero, List.set_cons_succ]; rfl) ?_
  refine gl_take (N := some 5) rfl (Yields.gy (gy_pure (by rfl) (fun w_ => by go_simp; with_reducible rfl))) (by simp only [Act.put, List.setIfInBounds_toArray, List.set_cons_zero, List.set_cons_succ]; rfl) ?_
  refine gl_take (N := some 6) rfl (gy_row (by rfl) rfl (by rfl) (by with_reducible assumption) Tryd.underlying30 rfl (by first | exact vinfo _ | exact einfo _ | kernel_rfl)) (by simp only [Act.put, List.setIfInBounds_toArray, List.set_cons_zero, List.set_cons_succ]; rfl) ?_
  refine gl_take (N := some 7) rfl (gy_call (by rfl) rfl Tryd.func25 (by kernel_rfl) rfl #[_, _] (by rfl) (fun w _ => Next_calls HN.out w)) (by simp only [Act.put, List.setIfInBounds_toArray, List.set_cons_zero, List.set_cons_succ]; rfl) ?_
  refine gl_take (N := some 8) rfl (Yields.gy (gy_pure (by rfl) (fun w_ => by go_simp; with_reducible rfl))) (by simp only [Act.put, List.setIfInBounds_toArray, List.set_cons_zero, List.set_cons_succ]; rfl) ?_
  refine gl_take (N := some 9) rfl (Yields.gy (gy_pure (by rfl) (fun w_ => by go_simp; with_reducible rfl))) (by simp only [Act.put, List.setIfInBounds_toArray, List.set_cons_zero, List.set_cons_succ]; rfl) ?_
  refine gl_take (N := some 10) rfl (Yields.gy (gy_pure (by rfl) (fun w_ => by go_simp; with_reducible rfl))) (by simp only [Act.put, List.setIfInBounds_toArray, List.set_cons_zero, List.set_cons_succ]; rfl) ?_
  refine gl_take (N := some 11) rfl (gy_row (by rfl) rfl (by rfl) (by with_reducible assumption) Tryd.underlying26 rfl (by first | exact vinfo _ | exact einfo _ | kernel_rfl)) (by simp only [Act.put, List.setIfInBounds_toArray, List.set_cons_zero, List.set_cons_succ]; rfl) ?_
  refine gl_take (N := some 12) rfl (gy_call (by rfl) rfl Tryd.func34 (by kernel_rfl) rfl #[_] (by rfl) (fun w _ => VRight_calls HV.out w)) (by simp only [Act.put, List.setIfInBounds_toArray, List.set_cons_zero, List.set_cons_succ]; rfl) ?_
  refine gl_take (N := some 13) rfl (Yields.gy (gy_pure (by rfl) (fun w_ => by go_simp; with_reducible rfl))) (by simp only [Act.put, List.setIfInBounds_toArray, List.set_cons_zero, List.set_cons_succ]; rfl) ?_
  refine gl_take (N := some 14) rfl (Yields.gy (gy_pure (by rfl) (fun w_ => by go_simp; with_reducible rfl))) (by simp only [Act.put, List.setIfInBounds_toArray, List.set_cons_zero, List.set_cons_succ]; rfl) ?_
  refine gl_done (fun w1 hw1 => ?_)
  have ra1 := hw1.range HA.out
  have HE := Lib.hid (HX.out.trans hw1)
  clear r0 r2 hw1
  go_upto_region 3 with (fail)
  refine gl_begin (Ext.refl _) ?_
  refine gl_take (N := some 15) rfl (gy_row (by rfl) rfl (by rfl) (by with_reducible assumption) Tryd.underlying36 rfl (by first | exact vinfo _ | exact einfo _ | kernel_rfl)) (by simp only [Act.put, List.setIfInBounds_toArray, List.set_cons_zero, List.set_cons_succ]; rfl) ?_
  refine gl_take (N := some 16) rfl (gy_call (by rfl) rfl Tryd.func36 (by kernel_rfl) rfl #[_] (by rfl) (fun w _ => Of_calls e w)) (by simp only [Act.put, List.setIfInBounds_toArray, List.set_cons_zero, List.set_cons_succ]; rfl) ?_
  refine gl_take (N := some 17) rfl (gy_call (by rfl) rfl Tryd.func35 (by kernel_rfl) rfl #[_] (by rfl) (fun w _ => HC.out w)) (by simp only [Act.put, List.setIfInBounds_toArray, List.set_cons_zero, List.set_cons_succ]; rfl) ?_
  refine gl_take (N := some 2) rfl (Yields.gy (gy_pure (by rfl) (fun w_ => by go_simp; with_reducible rfl))) (by simp only [Act.put, List.setIfInBounds_toArray, List.set_cons_zero, List.set_cons_succ]; rfl) ?_
  refine gl_done (fun w2 hw2 => ?_)
  clear ra1
  go_wp2
  go_ret
  exact ⟨rfl, HE.out.trans hw2⟩
def evErr (ch : Ev → Bool) (e : Ev) : Int := if nextB e.past e.rep e.cnt && rightB e.past && ch e then 0 else 1
theorem ERight_calls {ch : Ev → Bool} {e : Ev} (hc : ChangeIs e (if ch e then 0 else 1)) (w : World) : Calls Tryd.prog 24 #[evval e] w fun r w' => r = .returned (.int .i64 (evErr ch e)) ∧ Ext w w' := by
  unfold evErr
  cases hn : nextB e.past e.rep e.cnt with
  | false =>
    rw [Bool.false_and, Bool.false_and, if_neg (by decide)]
    exact ERight_next hn w
  | true =>
    cases hv : rightB e.past with
    | false =>
      rw [Bool.and_false, Bool.false_and, if_neg (by decide)]
      exact ERight_no hn hv w
    | true =>
      rw [Bool.true_and, Bool.true_and]
      exact ERight_yes hn hv hc w
end Go.Proofs.YthmnohecmmknpaaDoor.Vec
namespace Go.Proofs.YthmnohecmmknpaaDoor.Vec
open Go.RowKit Go.Proofs.YthmnohecmmknpaaDoorW.PrintWords
set_option linter.unusedVariables false
set_option linter.unusedSimpArgs false
def Kd.plain {α : Type} (sz : Nat) (f : α → List Value) (hl : ∀ x, (f x).length = sz) (h1 : ∀ x, ∀ u ∈ f x, u.oneCell' = true) : Kd α where
  sz := sz
  E := []
  K := fun _ x cs => cs = f x
  M := fun _ _ _ x cs => cs = f x
  K_len := fun h => by rw [h]; exact hl _
  K_one := fun h u hu => by
    rw [h] at hu
    exact h1 _ u hu
  K_below := fun _ h => h
  K_of_M := fun h => h
  M_mono := fun _ h => h
  M_bound := fun h => h
  M_move := fun _ h => h
  M_lower := fun _ h => h
def kEv : Kd Ev := Kd.plain 27 ecells ecells_len ecells_one
def AtR (w : World) (p : Addr) (cs : List Value) : Prop := ∀ j u, cs[j]? = some u → w.cell? (p.add j) = some u
theorem AtR.ext {w w' : World} {p : Addr} {cs : List Value} (h : AtR w p cs) (hx : Ext w w') : AtR w' p cs := fun j u hu => hx.cell (h j u hu)
theorem ev_at {w : World} {A : Option Addr} {xs : List Ev} {n : Nat} (h : Kd.C kEv w A n xs) (hn : n = xs.length) {i : Nat} {x : Ev} (hi : xs[i]? = some x) : ∃ ad, A = some ad ∧ AtR w (ad.add (i * 27)) (ecells x) := by
  subst hn
  have hlt := (List.getElem?_eq_some_iff.1 hi).1
  obtain ⟨ad, c, e, _, hK, hc⟩ := Kd.C_get h evz (i : Int) (by omega) (by omega)
  have hK' : c = ecells (xs.getD (i : Int).toNat evz) := hK
  rw [Int.toNat_natCast] at hK' hc
  rw [List.getD_eq_getElem?_getD, hi] at hK'
  refine ⟨ad, e, fun j u hu => ?_⟩
  rw [Addr.add_add]
  exact hc j u (by rw [hK']; exact hu)
theorem take_snoc' {α : Type} {l : List α} {i : Nat} {x : α} (hi : l[i]? = some x) : l.take (i + 1) = l.take i ++ [x] := by
  rw [List.take_add_one, hi]
  rfl
theorem some_at {α : Type} {l : List α} {i : Nat} (h : i < l.length) : ∃ x, l[i]? = some x := ⟨l[i], List.getElem?_eq_getElem h⟩
theorem C_ext {w w' : World} {A : Option Addr} {n : Nat} {xs : List Ev} (h : Kd.C kEv w A n xs) (hx : Ext w w') : Kd.C kEv w' A n xs := Kd.C_below h hx
section
variable {P : Program} {ops : Array Oper} {Q : Exit → Act → World → Prop}
theorem gy_rowA {W0 : World} {o : Oper} {a : Act} {t : TypeId} {x : Operand} {p : Addr} {cs : List Value} (hw : Region.wanted o (yielded ops a.tmps) = true) (ho : o.op = .load t x) (hx : a.eval x = .pointer (some p))
    (hc : AtR W0 p cs) (hagg : ∀ w, (isAgg t).run P w = .ok true w) {n : Nat} (hsz : ∀ w, (sizeOf t).run P w = .ok n w) (hn : cs.length = n) : GY P ops W0 o (.agg cs.toArray) a := gy_read hw fun w hx' => by
  subst hn
  have hl : (loadCells p cs.length).run P w = .ok cs.toArray w := run_loadCells_list (P := P) w p cs (fun j v hv => hx'.cell (hc j v hv))
  unfold execOp
  simp only [ho, hx, Instr.loadAt, Instr.sureAddr, Sem.run_bind, Sem.run_pure, Result.andThen_ok, loadVar, hagg, hsz, hl, if_true]
theorem wp_alloc0 {o : Oper} {a : Act} {w : World} {K : Act → World → Prop} {Q : Exit → Act → World → Prop} {t : TypeId} {z : Value} (ho : o.op = .alloc t) (hz : ∀ w, (zeroValue t).run P w = .ok z w) (hsz : ∀ w, (sizeOf t).run P w = .ok z.cells.size w)
    (h : K (a.put o.dst (.pointer (some ⟨w.heap.size, 0, none⟩))) (w.alloc (.cells z.cells t))) : o.wp P a w K Q := by
  unfold Oper.wp execOp
  simp only [ho, Instr.alloc, Sem.run_bind, hz, hsz, Result.andThen_ok]
  simp [go_sem, newVar, Sem.run_bind, hsz, hz]
  exact h
theorem Good.norm {n : Nat} {W0 : World} {l : Array Bool} {a a' : Act} {md : Region.Mode} (ha : a = a') (h : Good P md ops Q n W0 l a') : Good P md ops Q n W0 l a := by
  subst ha
  exact h
theorem GoodL.norm {W0 : World} {rest : List Oper} {a a' : Act} (ha : a = a') (h : GoodL P ops Q W0 rest a') : GoodL P ops Q W0 rest a := by
  subst ha
  exact h
theorem wpl_norm {w : World} {rest : List Oper} {a a' : Act} (ha : a = a') (h : wpList P ops Q rest a' w) : wpList P ops Q rest a w := by
  subst ha
  exact h
theorem wp_value {o : Oper} {a : Act} {w w1 : World} {v : Value} {K : Act → World → Prop} (hrun : (execOp a.eval o).run P w = .ok (.value v) w1) (h : K (a.put o.dst v) w1) : o.wp P a w K Q := by
  unfold Oper.wp
  rw [hrun]
  exact h
theorem GoodL.start {w : World} {rest : List Oper} {a : Act} (h : GoodL P ops Q w rest a) : wpList P ops Q rest a w := h w (Ext.refl w)
theorem wp_callF {o : Oper} {a : Act} {w : World} {K : Act → World → Prop} {f : FuncId} {fn : Func} {os : Array Operand} {ts : Array TypeId} (hop : o.op = .call { callee := .value (.func f), args := os, argTypes := ts })
    (hf : P.funcs[f]? = some fn) (hname : (fn.name == "runtime.NumGoroutine") = false) (hb : fn.body.isSome = true) (args : Array Value) (hargs' : os.toList.map a.eval = args.toList)
    (h : Calls P f args w fun e w' => ∃ v, e = .returned v ∧ K (a.put o.dst v) w') : o.wp P a w K Q := by
  have he := enters0 hf hname hb args w
  have hargs : os.map a.eval = args := by
    apply Array.toList_inj.1
    rw [Array.toList_map]
    exact hargs'
  have hrun : (execOp a.eval o).run P w = .ok (.enter f args) w := by
    unfold execOp
    simp [hop, resolve, Deferred.ofValue, invoke, Act.eval, hargs, he]
  unfold Oper.wp
  rw [hrun, Oper.upon_enter]
  refine h.mono fun e w' ⟨v, he, hk⟩ => ?_
  subst he
  exact hk
end
end Go.Proofs.YthmnohecmmknpaaDoor.Vec
namespace Go.Proofs.YthmnohecmmknpaaDoor.Vec
open Go.RowKit Go.Proofs.YthmnohecmmknpaaDoorW.PrintWords
set_option linter.unusedVariables false
set_option linter.unusedSimpArgs false
set_option maxRecDepth 100000
structure EvIn (e : Ev) : Prop where
  a : e.a.size ≤ 140737488351232
  b : e.b.size ≤ 140737488351232
  c : e.c.size ≤ 140737488351232
  d : e.d.size ≤ 140737488351232
  t : e.vt.size ≤ 140737488351232
  vn0 : -9223372036854775808 ≤ e.vn
  vn1 : e.vn ≤ 9223372036854775807
  c0 : -9223372036854775808 ≤ e.cnt
  c1 : e.cnt ≤ 9223372036854775807
def shortB (e : Ev) : Bool := decide (e.a.size + e.b.size + e.c.size + e.d.size + e.vt.size ≤ 300)
set_option maxHeartbeats 1000000 in
theorem Short_calls {e : Ev} (hin : EvIn e) {b : Bool} (hb : shortB e = b) (w : World) : Calls Tryd.prog 15 #[evval e] w fun r w' => r = .returned (.bool b) ∧ Ext w w' := by
  obtain ⟨W0, b0, hW, hb0, hx, he⟩ := box_e w e
  have r1 := he.sa
  have r2 := he.sb
  have r3 := he.sc
  have r4 := he.sd
  have r5 := he.st
  rw [Nat.zero_add] at r1 r2 r3 r4 r5
  obtain ⟨h1, h2, h3, h4, h5, -, -, -, -⟩ := hin
  have HX := Lib.hid hx
  have HW := Lib.hid hW
  have HS := Lib.hid hb0
  have HB := Lib.hid hb
  clear hx hW hb0 he hb
  have w1 : IntKind.i64.wrap ((e.a.size : Int) + (e.b.size : Int)) = (e.a.size : Int) + (e.b.size : Int) := IntWalk.i64_in _ (by omega)
  have w2 : IntKind.i64.wrap ((e.a.size : Int) + (e.b.size : Int) + (e.c.size : Int)) = (e.a.size : Int) + (e.b.size : Int) + (e.c.size : Int) := IntWalk.i64_in _ (by omega)
  have w3 : IntKind.i64.wrap ((e.a.size : Int) + (e.b.size : Int) + (e.c.size : Int) + (e.d.size : Int)) = (e.a.size : Int) + (e.b.size : Int) + (e.c.size : Int) + (e.d.size : Int) := IntWalk.i64_in _ (by omega)
  have w4 : IntKind.i64.wrap ((e.a.size : Int) + (e.b.size : Int) + (e.c.size : Int) + (e.d.size : Int) + (e.vt.size : Int)) = (e.a.size : Int) + (e.b.size : Int) + (e.c.size : Int) + (e.d.size : Int) + (e.vt.size : Int) := IntWalk.i64_in _ (by omega)
  unfold evval
  go_enter Tryd.func15, Tryd.ntmps15
  go_upto_region 1 with (fail)
  rw [HW.out, HS.out]
  clear h1 h2 h3 h4 h5
  go_wp2
  go_ret
  refine ⟨ret_bool ?_, HX.out⟩
  rw [← HB.out, shortB, Bool.eq_iff_iff, decide_eq_true_eq, decide_eq_true_eq]
  omega
theorem zcells_e : (ecells evz).toArray = #[.int .i64 0, .int .i64 0, .int .i64 0, .int .i64 0, .int .i64 0, .int .i64 0, .int .i64 0, .int .i64 0, .int .i64 0, .int .i64 0, .int .i64 0, .int .i64 0, .int .i64 0, .int .i64 0, .int .i64 0, .int .i64 0, .int .i64 0, .int .i64 0, .int .i64 0, .int .i64 0, .string ⟨#[]⟩, .string ⟨#[]⟩, .string ⟨#[]⟩, .string ⟨#[]⟩, .int .i64 0, .int .i64 0, .string ⟨#[]⟩] := by rfl
theorem var_e (w : World) (e : Ev) : ((w.alloc (.cells (ecells evz).toArray 36)).setCells w.heap.size 0 (ecells e)).heap[w.heap.size]? = some (.cells (ecells e).toArray 36 (0, 0)) ∧ Ext w ((w.alloc (.cells (ecells evz).toArray 36)).setCells w.heap.size 0 (ecells e)) :=
  ⟨setCells_whole (blk_new _ _) (by rw [ecells_len, ecells_len]), Ext.setCells ((Ext.refl w).alloc _) (Nat.le_refl _) _ _⟩
theorem einfoA (e : Ev) : (Tryd.prog.info? 36).map (·.size) = some (ecells e).toArray.size := by rw [List.size_toArray]; exact einfo e
theorem wpl_var {ops : Array Oper} {Q : Exit → Act → World → Prop} {o1 o2 : Oper} {rest : List Oper} {a : Act} {w : World} {e : Ev} {x y : Operand} {N : Tmp} (h1 : o1.op = .alloc 36) (hN : o1.dst = some N) (hg1 : o1.guard = none) (h2 : o2.op = .store 36 x y) (hN2 : o2.dst = none) (hg2 : o2.guard = none)
    (hx : (a.put (some N) (.pointer (some ⟨w.heap.size, 0, none⟩))).eval x = .pointer (some ⟨w.heap.size, 0, none⟩)) (hy : (a.put (some N) (.pointer (some ⟨w.heap.size, 0, none⟩))).eval y = .agg (ecells e).toArray)
    (h : ∀ w', w'.heap[w.heap.size]? = some (.cells (ecells e).toArray 36 (0, 0)) → Ext w w' → wpList Tryd.prog ops Q rest (a.put (some N) (.pointer (some ⟨w.heap.size, 0, none⟩))) w') : wpList Tryd.prog ops Q (o1 :: o2 :: rest) a w := by
  refine wpList_plain hg1 fun K hK => wp_alloc0 h1 Tryd.zeroValue36 Tryd.sizeOf36 (hK _ _ ?_)
  have e1 : (Value.agg #[.int .i64 0, .int .i64 0, .int .i64 0, .int .i64 0, .int .i64 0, .int .i64 0, .int .i64 0, .int .i64 0, .int .i64 0, .int .i64 0, .int .i64 0, .int .i64 0, .int .i64 0, .int .i64 0, .int .i64 0, .int .i64 0, .int .i64 0, .int .i64 0, .int .i64 0, .int .i64 0, .string ⟨#[]⟩, .string ⟨#[]⟩, .string ⟨#[]⟩, .string ⟨#[]⟩, .int .i64 0, .int .i64 0, .string ⟨#[]⟩]).cells = (ecells evz).toArray := zcells_e.symm
  rw [e1, hN]
  obtain ⟨hv, hX⟩ := var_e w e
  refine wpList_store_mid hg2 36 x y h2 w.heap.size 0 (ecells e).toArray hx hy (blk_there (blk_new _ _) 0 _ (by rw [List.size_toArray, List.size_toArray, ecells_len, ecells_len]; decide)) (einfoA e) (all_oneCell_toArray (ecells_one e)) ?_
  rw [hN2]
  exact h _ hv hX
def fewB (l : List Ev) : Bool := l.all shortB && decide (l.length ≤ 80)
set_option maxHeartbeats 1000000 in
theorem few_calls {l : List Ev} {A : Option Addr} {c : Nat} {b : Bool} (w : World) (hC : Kd.C kEv w A l.length l) (hc : l.length ≤ c) (hl : l.length ≤ 4611686018427387904) (hin : ∀ e ∈ l, EvIn e) (hb : fewB l = b) :
    Calls Tryd.prog 7 #[.slice A l.length c] w fun r w' => r = .returned (.bool b) ∧ Ext w w' := by
  have HC := Lib.hid hC
  have HL := Lib.hid hl
  have HIN := Lib.hid hin
  have HB := Lib.hid hb
  clear hC hl hin hb hc
  go_enter Tryd.func7, Tryd.ntmps7
  go_wp2
  go_loopg [7] l.length (fun k v7 wr => ∃ i : Nat, v7 = .int .i64 (i : Int) ∧ Hid (i ≤ l.length) ∧ Hid (l.length ≤ i + k) ∧ Hid ((l.take i).all shortB = true) ∧ Hid (Ext w wr))
  case atStart => exact ⟨0, rfl, Lib.hid (by omega), Lib.hid (by omega), Lib.hid rfl, Lib.hid (Ext.refl _)⟩
  case round =>
    obtain ⟨i, rfl, HI, HK, HA, HE⟩ := hrel
    by_cases hi : i < l.length
    · have HII := Lib.hid hi
      obtain ⟨e, hee⟩ := some_at hi
      obtain ⟨ad, rfl, hat⟩ := ev_at (C_ext HC.out HE.out) rfl hee
      have hi1 : (i : Int) < (l.length : Int) := by omega
      have hi0 : 0 ≤ (i : Int) := by omega
      have HMEM := Lib.hid (List.mem_of_getElem? hee)
      have HIE := Lib.hid (HIN.out _ HMEM.out)
      have HTS := Lib.hid (take_snoc' hee)
      clear hee hi
      go_upto_region 3 with (fail)
      refine gl_begin (Ext.refl _) ?_
      refine gl_take (N := some 9) rfl (Yields.gy (gy_pure (by rfl) (fun w_ => by go_simp; with_reducible rfl))) (by simp only [Act.put, List.setIfInBounds_toArray, List.set_cons_zero, List.set_cons_succ]; rfl) ?_
      refine gl_take (N := some 10) rfl (gy_rowA (by rfl) rfl (by rfl) (by with_reducible assumption) Tryd.isAgg36 Tryd.sizeOf36 (ecells_len e)) (by simp only [Act.put, List.setIfInBounds_toArray, List.set_cons_zero, List.set_cons_succ]; rfl) ?_
      refine (fun w2 hw2 => ?_)
      refine wpl_var (e := e) rfl rfl rfl rfl rfl rfl (by rfl) (by rfl) (fun w3 hv3 hx3 => wpl_nil ?_)
      simp only [Act.put, List.setIfInBounds_toArray, List.set_cons_zero, List.set_cons_succ]
      have HE3 : Hid (Ext w w3) := Lib.hid ((HE.out.trans hw2).trans hx3)
      have rv := blk_range hv3
      generalize w2.heap.size = b3 at *
      clear hat hv3 hx3 hw2
      go_upto_region 4 with (fail)
      cases hs : shortB e with
      | false =>
        have HSS := Lib.hid hs
        clear hs
        refine gl_begin (Ext.refl _) ?_
        refine gl_take (N := some 11) rfl (gy_row (by rfl) rfl (by rfl) (by with_reducible assumption) Tryd.underlying36 rfl (by first | exact vinfo _ | exact einfo _ | kernel_rfl)) (by simp only [Act.put, List.setIfInBounds_toArray, List.set_cons_zero, List.set_cons_succ]; rfl) ?_
        refine gl_take (N := some 12) rfl (gy_call (by rfl) rfl Tryd.func15 (by kernel_rfl) rfl #[_] (by rfl) (fun w _ => Short_calls HIE.out HSS.out w)) (by simp only [Act.put, List.setIfInBounds_toArray, List.set_cons_zero, List.set_cons_succ]; rfl) ?_
        refine gl_take (N := some 13) rfl (Yields.gy (gy_pure (by rfl) (fun w_ => by go_simp; with_reducible rfl))) (by simp only [Act.put, List.setIfInBounds_toArray, List.set_cons_zero, List.set_cons_succ]; rfl) ?_
        refine gl_done (fun w4 hw4 => ?_)
        clear rv
        go_wp2
        go_ret
        refine ⟨ret_bool ?_, HE3.out.trans hw4⟩
        rw [← HB.out, fewB, List.all_eq_false.2 ⟨e, HMEM.out, by rw [HSS.out]; decide⟩, Bool.false_and]
      | true =>
        have HSS := Lib.hid hs
        clear hs
        refine gl_begin (Ext.refl _) ?_
        refine gl_take (N := some 11) rfl (gy_row (by rfl) rfl (by rfl) (by with_reducible assumption) Tryd.underlying36 rfl (by first | exact vinfo _ | exact einfo _ | kernel_rfl)) (by simp only [Act.put, List.setIfInBounds_toArray, List.set_cons_zero, List.set_cons_succ]; rfl) ?_
        refine gl_take (N := some 12) rfl (gy_call (by rfl) rfl Tryd.func15 (by kernel_rfl) rfl #[_] (by rfl) (fun w _ => Short_calls HIE.out HSS.out w)) (by simp only [Act.put, List.setIfInBounds_toArray, List.set_cons_zero, List.set_cons_succ]; rfl) ?_
        refine gl_take (N := some 13) rfl (Yields.gy (gy_pure (by rfl) (fun w_ => by go_simp; with_reducible rfl))) (by simp only [Act.put, List.setIfInBounds_toArray, List.set_cons_zero, List.set_cons_succ]; rfl) ?_
        refine gl_done (fun w4 hw4 => ?_)
        have HE4 := Lib.hid (HE3.out.trans hw4)
        clear rv hw4
        have hwi : IntKind.i64.wrap ((i : Int) + 1) = (i : Int) + 1 := IntWalk.i64_in _ (by have := HL.out; omega)
        go_wp2
        go_roundg (l.length - (i + 1))
        case measure => have := HK.out; have := HII.out; omega
        case rel => exact ⟨i + 1, by simp, Lib.hid HII.out, Lib.hid (by omega), Lib.hid (by rw [HTS.out, List.all_append, HA.out]; simp [HSS.out]), HE4⟩
    · have e : i = l.length := by have := HI.out; omega
      subst e
      have ha := HA.out
      rw [List.take_length] at ha
      have HAA := Lib.hid ha
      clear ha
      go_wp2
      go_ret
      refine ⟨ret_bool ?_, HE.out⟩
      rw [← HB.out, fewB, HAA.out, Bool.true_and, Bool.eq_iff_iff, decide_eq_true_eq, decide_eq_true_eq]
      omega
end Go.Proofs.YthmnohecmmknpaaDoor.Vec
