/- Changes, walked: may, Change, the reference's Change. -/
import Derived.Test.YthmnohecmmknpaaDoorEvB
import Derived.Test.YthmnohecmmknpaaDoorEvV
import Derived.Great.BuildSlice
namespace Go.Proofs.YthmnohecmmknpaaDoor.Vec
open Go.RowKit Go.Proofs.YthmnohecmmknpaaDoorW.PrintWords Go.Proofs.YthmnohecmmknpaaDoor.Given Go.Proofs.YthmnohecmmknpaaDoor.PA Go.Proofs.YthmnohecmmknpaaDoor.Val
set_option linter.unusedVariables false
set_option linter.unusedSimpArgs false
set_option maxRecDepth 100000
structure EvSm (e : Ev) : Prop where
  a : e.a.size ≤ 1000
  b : e.b.size ≤ 1000
  c : e.c.size ≤ 1000
  d : e.d.size ≤ 1000
  t : e.vt.size ≤ 1000
  vn0 : -9223372036854775808 ≤ e.vn
  vn1 : e.vn ≤ 9223372036854775807
theorem EvIn.small {e : Ev} (h : EvIn e) (hs : shortB e = true) : EvSm e := by
  have := of_decide_eq_true hs
  exact ⟨by omega, by omega, by omega, by omega, by omega, h.vn0, h.vn1⟩
def noneB (e : Ev) : Bool := decide (e.vk = 0) && (decide (e.vn = 0) && emptyB e.vt)
def elB (e : Ev) : Bool := elemB e.kind e.a e.b e.c e.d
def mayB (e : Ev) : Bool := elB e && (if e.op = 1 ∨ e.op = 2 then noneB e && !keptB e.kind else if e.op = 3 then keptB e.kind && scalarB e.vk e.vn e.vt else if e.op = 4 then noneB e && keptB e.kind else false)
theorem empty_eq (s : ByteArray) : (s == (⟨#[]⟩ : ByteArray)) = emptyB s := by
  rw [bs_beq, emptyB, Bool.eq_iff_iff, decide_eq_true_eq, decide_eq_true_eq]
  constructor
  · rintro rfl
    rfl
  · intro h
    obtain ⟨⟨l⟩⟩ := s
    have : l.length = 0 := h
    rw [List.length_eq_zero_iff.1 this]
theorem none_run (e : Ev) (w : World) : (binOp .eql 34 (.agg #[.int .i64 e.vk, .int .i64 e.vn, .string e.vt]) (.agg #[.int .i64 0, .int .i64 0, .string ⟨#[]⟩])).run Tryd.prog w = .ok (.bool (noneB e)) w := by
  have h := eqval e evz 9998 w
  have h2 : (e.vk == evz.vk && (e.vn == evz.vn && e.vt == evz.vt)) = noneB e := by
    rw [noneB, ← empty_eq]
    rfl
  rw [h2] at h
  have h3 : (Op.equalIn (9998 + 2) 34 (.agg #[.int .i64 e.vk, .int .i64 e.vn, .string e.vt]) (.agg #[.int .i64 0, .int .i64 0, .string ⟨#[]⟩])).run Tryd.prog w = .ok (noneB e) w := h
  simp only [binOp, Op.equal, Op.maxDepth, Sem.run_bind]
  rw [h3]
  simp
theorem gy_none {ops : Array Oper} {o : Oper} {a : Act} {x y : Operand} {e : Ev} {b : Bool} (hb : noneB e = b) (hw : Region.wanted o (yielded ops a.tmps) = true) (ho : o.op = .binOp .eql 34 x y 34) (hx : a.eval x = .agg #[.int .i64 e.vk, .int .i64 e.vn, .string e.vt]) (hy : a.eval y = .agg #[.int .i64 0, .int .i64 0, .string ⟨#[]⟩]) :
    Yields Tryd.prog ops o (.bool b) a := gy_pure hw fun w => by
  rw [← hb]
  unfold execOp
  simp only [ho, hx, hy, Sem.run_bind, run_eqGuard_agg w _ _ _ _ _ _ Tryd.eqGuardType34, none_run e w, Result.andThen_ok, Sem.run_pure]
theorem box_ch (w : World) (e : Ev) : ∃ W0 b0, w.alloc (.cells (chcells e).toArray 56) = W0 ∧ w.heap.size = b0 ∧ Ext w W0 ∧ W0.heap[b0]? = some (.cells (chcells e).toArray 56 (0, 0)) :=
  ⟨_, _, rfl, rfl, (Ext.refl w).alloc _, blk_new _ _⟩
theorem ch_elem {W0 : World} {b0 : Nat} {e : Ev} (h : W0.heap[b0]? = some (.cells (chcells e).toArray 56 (0, 0))) : W0.rangeAt b0 1 [.int .i64 e.kind, .string e.a, .string e.b, .string e.c, .string e.d] :=
  range_part (a := [.int .i64 e.op]) (d := [.int .i64 e.vk, .int .i64 e.vn, .string e.vt]) (blk_range h) _ rfl
theorem ch_val {W0 : World} {b0 : Nat} {e : Ev} (h : W0.heap[b0]? = some (.cells (chcells e).toArray 56 (0, 0))) : W0.rangeAt b0 6 [.int .i64 e.vk, .int .i64 e.vn, .string e.vt] :=
  range_part (a := [.int .i64 e.op, .int .i64 e.kind, .string e.a, .string e.b, .string e.c, .string e.d]) (d := []) (blk_range h) _ rfl
theorem ch_op {W0 : World} {b0 : Nat} {e : Ev} (h : W0.heap[b0]? = some (.cells (chcells e).toArray 56 (0, 0))) : W0.cell? ⟨b0, 0, none⟩ = some (.int .i64 e.op) := (blk_cell h 0).trans rfl
theorem Elem_c {e : Ev} (hs : EvSm e) {b : Bool} (hb : elB e = b) (w : World) : Calls Tryd.prog 50 #[.agg #[.int .i64 e.kind, .string e.a, .string e.b, .string e.c, .string e.d]] w fun r w' => r = .returned (.bool b) ∧ Ext w w' :=
  value_Elem.calls 2000 e.kind e.a e.b e.c e.d b w (by rw [elem_is _ _ _ _ _ hs.a hs.b hs.c hs.d 2000 (by omega), ← hb]; rfl)
theorem kept_c {e : Ev} {b : Bool} (hb : keptB e.kind = b) (w : World) : Calls Tryd.prog 51 #[.agg #[.int .i64 e.kind, .string e.a, .string e.b, .string e.c, .string e.d]] w fun r w' => r = .returned (.bool b) ∧ Ext w w' :=
  event_kept.calls e.kind e.a e.b e.c e.d b w (by rw [kept_is, hb])
theorem scalar_c {e : Ev} (hs : EvSm e) {b : Bool} (hb : scalarB e.vk e.vn e.vt = b) (w : World) : Calls Tryd.prog 52 #[.agg #[.int .i64 e.vk, .int .i64 e.vn, .string e.vt]] w fun r w' => r = .returned (.bool b) ∧ Ext w w' :=
  event_scalar.calls 2000 e.vk e.vn e.vt b w (by rw [scalar_is _ _ _ hs.vn0 hs.vn1 hs.t, hb])
set_option maxHeartbeats 1000000 in
theorem may_no {e : Ev} (hs : EvSm e) (he : elB e = false) (w : World) : Calls Tryd.prog 43 #[.agg (chcells e).toArray] w fun r w' => r = .returned (.bool false) ∧ Ext w w' := by
  obtain ⟨W0, b0, hW, hb0, hx, hb⟩ := box_ch w e
  have r1 := ch_elem hb
  have HX := Lib.hid hx
  have HW := Lib.hid hW
  have HS := Lib.hid hb0
  have HE := Lib.hid he
  have HSM := Lib.hid hs
  clear hx hW hb0 he hs hb
  go_enter Tryd.func43, Tryd.ntmps43
  go_upto_region 1 with (fail)
  rw [HW.out, HS.out]
  refine gl_begin (Ext.refl W0) ?_
  refine gl_take (N := some 4) rfl (Yields.gy (gy_pure (by rfl) (fun w_ => by go_simp; with_reducible rfl))) (by simp only [Act.put, List.setIfInBounds_toArray, List.set_cons_zero, List.set_cons_succ]; rfl) ?_
  refine gl_take (N := some 5) rfl (gy_row (by rfl) rfl (by rfl) (by with_reducible assumption) Tryd.underlying32 rfl (by first | exact vinfo _ | exact einfo _ | kernel_rfl)) (by simp only [Act.put, List.setIfInBounds_toArray, List.set_cons_zero, List.set_cons_succ]; rfl) ?_
  refine gl_take (N := some 6) rfl (gy_call (by rfl) rfl Tryd.func50 (by kernel_rfl) rfl #[_] (by rfl) (fun w _ => Elem_c HSM.out HE.out w)) (by simp only [Act.put, List.setIfInBounds_toArray, List.set_cons_zero, List.set_cons_succ]; rfl) ?_
  refine gl_take (N := some 7) rfl (Yields.gy (gy_pure (by rfl) (fun w_ => by go_simp; with_reducible rfl))) (by simp only [Act.put, List.setIfInBounds_toArray, List.set_cons_zero, List.set_cons_succ]; rfl) ?_
  refine gl_done (fun w1 hw1 => ?_)
  clear r1
  go_wp2
  go_ret
  exact ⟨rfl, HX.out.trans hw1⟩
set_option maxHeartbeats 1000000 in
theorem may_1f {e : Ev} (hs : EvSm e) (he : elB e = true) {bk : Bool} (ho : e.op = 1) (hn : noneB e = false) (hk : keptB e.kind = bk) (w : World) : Calls Tryd.prog 43 #[.agg (chcells e).toArray] w fun r w' => r = .returned (.bool (false && !bk)) ∧ Ext w w' := by
  obtain ⟨W0, b0, hW, hb0, hx, hb⟩ := box_ch w e
  have r1 := ch_elem hb
  have r6 := ch_val hb
  have c0 := ch_op hb
  have HX := Lib.hid hx
  have HW := Lib.hid hW
  have HS := Lib.hid hb0
  have HE := Lib.hid he
  have HSM := Lib.hid hs
  have HN := Lib.hid hn
  have HK := Lib.hid hk
  have o1a : (e.op == 1) = true := by simp [ho]
  have o1b : (e.op = 1) = True := by simp [ho]
  have o2a : (e.op == 2) = false := by simp [ho]
  have o2b : (e.op = 2) = False := by simp [ho]
  have o3a : (e.op == 3) = false := by simp [ho]
  have o3b : (e.op = 3) = False := by simp [ho]
  have o4a : (e.op == 4) = false := by simp [ho]
  have o4b : (e.op = 4) = False := by simp [ho]
  clear hn hk ho
  clear hx hW hb0 he hs hb
  go_enter Tryd.func43, Tryd.ntmps43
  go_upto_region 1 with (fail)
  rw [HW.out, HS.out]
  refine gl_begin (Ext.refl W0) ?_
  refine gl_take (N := some 4) rfl (Yields.gy (gy_pure (by rfl) (fun w_ => by go_simp; with_reducible rfl))) (by simp only [Act.put, List.setIfInBounds_toArray, List.set_cons_zero, List.set_cons_succ]; rfl) ?_
  refine gl_take (N := some 5) rfl (gy_row (by rfl) rfl (by rfl) (by with_reducible assumption) Tryd.underlying32 rfl (by first | exact vinfo _ | exact einfo _ | kernel_rfl)) (by simp only [Act.put, List.setIfInBounds_toArray, List.set_cons_zero, List.set_cons_succ]; rfl) ?_
  refine gl_take (N := some 6) rfl (gy_call (by rfl) rfl Tryd.func50 (by kernel_rfl) rfl #[_] (by rfl) (fun w _ => Elem_c HSM.out HE.out w)) (by simp only [Act.put, List.setIfInBounds_toArray, List.set_cons_zero, List.set_cons_succ]; rfl) ?_
  refine gl_take (N := some 7) rfl (Yields.gy (gy_pure (by rfl) (fun w_ => by go_simp; with_reducible rfl))) (by simp only [Act.put, List.setIfInBounds_toArray, List.set_cons_zero, List.set_cons_succ]; rfl) ?_
  refine gl_done (fun w1 hw1 => ?_)
  have q1 := hw1.range r1
  have q6 := hw1.range r6
  have d0 := hw1.cell c0
  have HX1 := Lib.hid (HX.out.trans hw1)
  clear r1 r6 c0 hw1
  go_upto_region 3 with (fail)
  refine gl_begin (Ext.refl _) ?_
  refine gl_take (N := some 8) rfl (Yields.gy (gy_pure (by rfl) (fun w_ => by go_simp; with_reducible rfl))) (by simp only [Act.put, List.setIfInBounds_toArray, List.set_cons_zero, List.set_cons_succ]; rfl) ?_
  refine gl_take (N := some 9) rfl (gy_row (by rfl) rfl (by rfl) (by with_reducible assumption) Tryd.underlying34 rfl (by first | exact vinfo _ | exact einfo _ | kernel_rfl)) (by simp only [Act.put, List.setIfInBounds_toArray, List.set_cons_zero, List.set_cons_succ]; rfl) ?_
  refine gl_take (N := some 10) rfl (Yields.gy (gy_pure (by rfl) (fun w_ => by go_simp; with_reducible rfl))) (by simp only [Act.put, List.setIfInBounds_toArray, List.set_cons_zero, List.set_cons_succ]; rfl) ?_
  refine gl_take (N := some 11) rfl (Yields.gy (gy_none HN.out (by rfl) rfl (by rfl) (by rfl))) (by simp only [Act.put, List.setIfInBounds_toArray, List.set_cons_zero, List.set_cons_succ]; rfl) ?_
  refine gl_take (N := some 3) rfl (Yields.gy (gy_pure (by rfl) (fun w_ => by go_simp; with_reducible rfl))) (by simp only [Act.put, List.setIfInBounds_toArray, List.set_cons_zero, List.set_cons_succ]; rfl) ?_
  refine gl_done (fun w2 hw2 => ?_)
  have r1 := hw2.range q1
  have r6 := hw2.range q6
  have c0 := hw2.cell d0
  have HX2 := Lib.hid (HX1.out.trans hw2)
  clear q1 q6 d0 hw2
  go_upto_region 7 with (fail)
  refine gl_begin (Ext.refl _) ?_
  refine gl_take (N := some 17) rfl (Yields.gy (gy_pure (by rfl) (fun w_ => by go_simp; with_reducible rfl))) (by simp only [Act.put, List.setIfInBounds_toArray, List.set_cons_zero, List.set_cons_succ]; rfl) ?_
  refine gl_take (N := some 18) rfl (Yields.gy (gy_pure (by rfl) (fun w_ => by go_simp; with_reducible rfl))) (by simp only [Act.put, List.setIfInBounds_toArray, List.set_cons_zero, List.set_cons_succ]; rfl) ?_
  refine gl_take (N := some 19) rfl (Yields.gy (gy_off (by rfl))) (by simp only [Act.put, List.setIfInBounds_toArray, List.set_cons_zero, List.set_cons_succ]; rfl) ?_
  refine gl_take (N := some 20) rfl (Yields.gy (gy_off (by rfl))) (by simp only [Act.put, List.setIfInBounds_toArray, List.set_cons_zero, List.set_cons_succ]; rfl) ?_
  refine gl_take (N := some 21) rfl (Yields.gy (gy_off (by rfl))) (by simp only [Act.put, List.setIfInBounds_toArray, List.set_cons_zero, List.set_cons_succ]; rfl) ?_
  refine gl_take (N := some 22) rfl (Yields.gy (gy_off (by rfl))) (by simp only [Act.put, List.setIfInBounds_toArray, List.set_cons_zero, List.set_cons_succ]; rfl) ?_
  refine gl_take (N := some 23) rfl (Yields.gy (gy_pure (by rfl) (fun w_ => by go_simp; with_reducible rfl))) (by simp only [Act.put, List.setIfInBounds_toArray, List.set_cons_zero, List.set_cons_succ]; rfl) ?_
  refine gl_take (N := some 2) rfl (Yields.gy (gy_pure (by rfl) (fun w_ => by go_simp; with_reducible rfl))) (by simp only [Act.put, List.setIfInBounds_toArray, List.set_cons_zero, List.set_cons_succ]; rfl) ?_
  refine gl_done (fun w3 hw3 => ?_)
  clear r1 r6 c0
  go_wp2
  go_ret
  exact ⟨ret_bool (by simp), HX2.out.trans hw3⟩
set_option maxHeartbeats 1000000 in
theorem may_1t {e : Ev} (hs : EvSm e) (he : elB e = true) {bk : Bool} (ho : e.op = 1) (hn : noneB e = true) (hk : keptB e.kind = bk) (w : World) : Calls Tryd.prog 43 #[.agg (chcells e).toArray] w fun r w' => r = .returned (.bool (true && !bk)) ∧ Ext w w' := by
  obtain ⟨W0, b0, hW, hb0, hx, hb⟩ := box_ch w e
  have r1 := ch_elem hb
  have r6 := ch_val hb
  have c0 := ch_op hb
  have HX := Lib.hid hx
  have HW := Lib.hid hW
  have HS := Lib.hid hb0
  have HE := Lib.hid he
  have HSM := Lib.hid hs
  have HN := Lib.hid hn
  have HK := Lib.hid hk
  have o1a : (e.op == 1) = true := by simp [ho]
  have o1b : (e.op = 1) = True := by simp [ho]
  have o2a : (e.op == 2) = false := by simp [ho]
  have o2b : (e.op = 2) = False := by simp [ho]
  have o3a : (e.op == 3) = false := by simp [ho]
  have o3b : (e.op = 3) = False := by simp [ho]
  have o4a : (e.op == 4) = false := by simp [ho]
  have o4b : (e.op = 4) = False := by simp [ho]
  clear hn hk ho
  clear hx hW hb0 he hs hb
  go_enter Tryd.func43, Tryd.ntmps43
  go_upto_region 1 with (fail)
  rw [HW.out, HS.out]
  refine gl_begin (Ext.refl W0) ?_
  refine gl_take (N := some 4) rfl (Yields.gy (gy_pure (by rfl) (fun w_ => by go_simp; with_reducible rfl))) (by simp only [Act.put, List.setIfInBounds_toArray, List.set_cons_zero, List.set_cons_succ]; rfl) ?_
  refine gl_take (N := some 5) rfl (gy_row (by rfl) rfl (by rfl) (by with_reducible assumption) Tryd.underlying32 rfl (by first | exact vinfo _ | exact einfo _ | kernel_rfl)) (by simp only [Act.put, List.setIfInBounds_toArray, List.set_cons_zero, List.set_cons_succ]; rfl) ?_
  refine gl_take (N := some 6) rfl (gy_call (by rfl) rfl Tryd.func50 (by kernel_rfl) rfl #[_] (by rfl) (fun w _ => Elem_c HSM.out HE.out w)) (by simp only [Act.put, List.setIfInBounds_toArray, List.set_cons_zero, List.set_cons_succ]; rfl) ?_
  refine gl_take (N := some 7) rfl (Yields.gy (gy_pure (by rfl) (fun w_ => by go_simp; with_reducible rfl))) (by simp only [Act.put, List.setIfInBounds_toArray, List.set_cons_zero, List.set_cons_succ]; rfl) ?_
  refine gl_done (fun w1 hw1 => ?_)
  have q1 := hw1.range r1
  have q6 := hw1.range r6
  have d0 := hw1.cell c0
  have HX1 := Lib.hid (HX.out.trans hw1)
  clear r1 r6 c0 hw1
  go_upto_region 3 with (fail)
  refine gl_begin (Ext.refl _) ?_
  refine gl_take (N := some 8) rfl (Yields.gy (gy_pure (by rfl) (fun w_ => by go_simp; with_reducible rfl))) (by simp only [Act.put, List.setIfInBounds_toArray, List.set_cons_zero, List.set_cons_succ]; rfl) ?_
  refine gl_take (N := some 9) rfl (gy_row (by rfl) rfl (by rfl) (by with_reducible assumption) Tryd.underlying34 rfl (by first | exact vinfo _ | exact einfo _ | kernel_rfl)) (by simp only [Act.put, List.setIfInBounds_toArray, List.set_cons_zero, List.set_cons_succ]; rfl) ?_
  refine gl_take (N := some 10) rfl (Yields.gy (gy_pure (by rfl) (fun w_ => by go_simp; with_reducible rfl))) (by simp only [Act.put, List.setIfInBounds_toArray, List.set_cons_zero, List.set_cons_succ]; rfl) ?_
  refine gl_take (N := some 11) rfl (Yields.gy (gy_none HN.out (by rfl) rfl (by rfl) (by rfl))) (by simp only [Act.put, List.setIfInBounds_toArray, List.set_cons_zero, List.set_cons_succ]; rfl) ?_
  refine gl_take (N := some 3) rfl (Yields.gy (gy_pure (by rfl) (fun w_ => by go_simp; with_reducible rfl))) (by simp only [Act.put, List.setIfInBounds_toArray, List.set_cons_zero, List.set_cons_succ]; rfl) ?_
  refine gl_done (fun w2 hw2 => ?_)
  have r1 := hw2.range q1
  have r6 := hw2.range q6
  have c0 := hw2.cell d0
  have HX2 := Lib.hid (HX1.out.trans hw2)
  clear q1 q6 d0 hw2
  go_upto_region 7 with (fail)
  refine gl_begin (Ext.refl _) ?_
  refine gl_take (N := some 17) rfl (Yields.gy (gy_pure (by rfl) (fun w_ => by go_simp; with_reducible rfl))) (by simp only [Act.put, List.setIfInBounds_toArray, List.set_cons_zero, List.set_cons_succ]; rfl) ?_
  refine gl_take (N := some 18) rfl (Yields.gy (gy_pure (by rfl) (fun w_ => by go_simp; with_reducible rfl))) (by simp only [Act.put, List.setIfInBounds_toArray, List.set_cons_zero, List.set_cons_succ]; rfl) ?_
  refine gl_take (N := some 19) rfl (Yields.gy (gy_pure (by rfl) (fun w_ => by go_simp; with_reducible rfl))) (by simp only [Act.put, List.setIfInBounds_toArray, List.set_cons_zero, List.set_cons_succ]; rfl) ?_
  refine gl_take (N := some 20) rfl (gy_row (by rfl) rfl (by rfl) (by with_reducible assumption) Tryd.underlying32 rfl (by first | exact vinfo _ | exact einfo _ | kernel_rfl)) (by simp only [Act.put, List.setIfInBounds_toArray, List.set_cons_zero, List.set_cons_succ]; rfl) ?_
  refine gl_take (N := some 21) rfl (gy_call (by rfl) rfl Tryd.func51 (by kernel_rfl) rfl #[_] (by rfl) (fun w _ => kept_c HK.out w)) (by simp only [Act.put, List.setIfInBounds_toArray, List.set_cons_zero, List.set_cons_succ]; rfl) ?_
  refine gl_take (N := some 22) rfl (Yields.gy (gy_pure (by rfl) (fun w_ => by go_simp; with_reducible rfl))) (by simp only [Act.put, List.setIfInBounds_toArray, List.set_cons_zero, List.set_cons_succ]; rfl) ?_
  refine gl_take (N := some 23) rfl (Yields.gy (gy_pure (by rfl) (fun w_ => by go_simp; with_reducible rfl))) (by simp only [Act.put, List.setIfInBounds_toArray, List.set_cons_zero, List.set_cons_succ]; rfl) ?_
  refine gl_take (N := some 2) rfl (Yields.gy (gy_pure (by rfl) (fun w_ => by go_simp; with_reducible rfl))) (by simp only [Act.put, List.setIfInBounds_toArray, List.set_cons_zero, List.set_cons_succ]; rfl) ?_
  refine gl_done (fun w3 hw3 => ?_)
  clear r1 r6 c0
  go_wp2
  go_ret
  exact ⟨ret_bool (by simp), HX2.out.trans hw3⟩
set_option maxHeartbeats 1000000 in
theorem may_2f {e : Ev} (hs : EvSm e) (he : elB e = true) {bk : Bool} (ho : e.op = 2) (hn : noneB e = false) (hk : keptB e.kind = bk) (w : World) : Calls Tryd.prog 43 #[.agg (chcells e).toArray] w fun r w' => r = .returned (.bool (false && !bk)) ∧ Ext w w' := by
  obtain ⟨W0, b0, hW, hb0, hx, hb⟩ := box_ch w e
  have r1 := ch_elem hb
  have r6 := ch_val hb
  have c0 := ch_op hb
  have HX := Lib.hid hx
  have HW := Lib.hid hW
  have HS := Lib.hid hb0
  have HE := Lib.hid he
  have HSM := Lib.hid hs
  have HN := Lib.hid hn
  have HK := Lib.hid hk
  have o1a : (e.op == 1) = false := by simp [ho]
  have o1b : (e.op = 1) = False := by simp [ho]
  have o2a : (e.op == 2) = true := by simp [ho]
  have o2b : (e.op = 2) = True := by simp [ho]
  have o3a : (e.op == 3) = false := by simp [ho]
  have o3b : (e.op = 3) = False := by simp [ho]
  have o4a : (e.op == 4) = false := by simp [ho]
  have o4b : (e.op = 4) = False := by simp [ho]
  clear hn hk ho
  clear hx hW hb0 he hs hb
  go_enter Tryd.func43, Tryd.ntmps43
  go_upto_region 1 with (fail)
  rw [HW.out, HS.out]
  refine gl_begin (Ext.refl W0) ?_
  refine gl_take (N := some 4) rfl (Yields.gy (gy_pure (by rfl) (fun w_ => by go_simp; with_reducible rfl))) (by simp only [Act.put, List.setIfInBounds_toArray, List.set_cons_zero, List.set_cons_succ]; rfl) ?_
  refine gl_take (N := some 5) rfl (gy_row (by rfl) rfl (by rfl) (by with_reducible assumption) Tryd.underlying32 rfl (by first | exact vinfo _ | exact einfo _ | kernel_rfl)) (by simp only [Act.put, List.setIfInBounds_toArray, List.set_cons_zero, List.set_cons_succ]; rfl) ?_
  refine gl_take (N := some 6) rfl (gy_call (by rfl) rfl Tryd.func50 (by kernel_rfl) rfl #[_] (by rfl) (fun w _ => Elem_c HSM.out HE.out w)) (by simp only [Act.put, List.setIfInBounds_toArray, List.set_cons_zero, List.set_cons_succ]; rfl) ?_
  refine gl_take (N := some 7) rfl (Yields.gy (gy_pure (by rfl) (fun w_ => by go_simp; with_reducible rfl))) (by simp only [Act.put, List.setIfInBounds_toArray, List.set_cons_zero, List.set_cons_succ]; rfl) ?_
  refine gl_done (fun w1 hw1 => ?_)
  have q1 := hw1.range r1
  have q6 := hw1.range r6
  have d0 := hw1.cell c0
  have HX1 := Lib.hid (HX.out.trans hw1)
  clear r1 r6 c0 hw1
  go_upto_region 3 with (fail)
  refine gl_begin (Ext.refl _) ?_
  refine gl_take (N := some 8) rfl (Yields.gy (gy_pure (by rfl) (fun w_ => by go_simp; with_reducible rfl))) (by simp only [Act.put, List.setIfInBounds_toArray, List.set_cons_zero, List.set_cons_succ]; rfl) ?_
  refine gl_take (N := some 9) rfl (gy_row (by rfl) rfl (by rfl) (by with_reducible assumption) Tryd.underlying34 rfl (by first | exact vinfo _ | exact einfo _ | kernel_rfl)) (by simp only [Act.put, List.setIfInBounds_toArray, List.set_cons_zero, List.set_cons_succ]; rfl) ?_
  refine gl_take (N := some 10) rfl (Yields.gy (gy_pure (by rfl) (fun w_ => by go_simp; with_reducible rfl))) (by simp only [Act.put, List.setIfInBounds_toArray, List.set_cons_zero, List.set_cons_succ]; rfl) ?_
  refine gl_take (N := some 11) rfl (Yields.gy (gy_none HN.out (by rfl) rfl (by rfl) (by rfl))) (by simp only [Act.put, List.setIfInBounds_toArray, List.set_cons_zero, List.set_cons_succ]; rfl) ?_
  refine gl_take (N := some 3) rfl (Yields.gy (gy_pure (by rfl) (fun w_ => by go_simp; with_reducible rfl))) (by simp only [Act.put, List.setIfInBounds_toArray, List.set_cons_zero, List.set_cons_succ]; rfl) ?_
  refine gl_done (fun w2 hw2 => ?_)
  have r1 := hw2.range q1
  have r6 := hw2.range q6
  have c0 := hw2.cell d0
  have HX2 := Lib.hid (HX1.out.trans hw2)
  clear q1 q6 d0 hw2
  go_upto_region 7 with (fail)
  refine gl_begin (Ext.refl _) ?_
  refine gl_take (N := some 17) rfl (Yields.gy (gy_pure (by rfl) (fun w_ => by go_simp; with_reducible rfl))) (by simp only [Act.put, List.setIfInBounds_toArray, List.set_cons_zero, List.set_cons_succ]; rfl) ?_
  refine gl_take (N := some 18) rfl (Yields.gy (gy_pure (by rfl) (fun w_ => by go_simp; with_reducible rfl))) (by simp only [Act.put, List.setIfInBounds_toArray, List.set_cons_zero, List.set_cons_succ]; rfl) ?_
  refine gl_take (N := some 19) rfl (Yields.gy (gy_off (by rfl))) (by simp only [Act.put, List.setIfInBounds_toArray, List.set_cons_zero, List.set_cons_succ]; rfl) ?_
  refine gl_take (N := some 20) rfl (Yields.gy (gy_off (by rfl))) (by simp only [Act.put, List.setIfInBounds_toArray, List.set_cons_zero, List.set_cons_succ]; rfl) ?_
  refine gl_take (N := some 21) rfl (Yields.gy (gy_off (by rfl))) (by simp only [Act.put, List.setIfInBounds_toArray, List.set_cons_zero, List.set_cons_succ]; rfl) ?_
  refine gl_take (N := some 22) rfl (Yields.gy (gy_off (by rfl))) (by simp only [Act.put, List.setIfInBounds_toArray, List.set_cons_zero, List.set_cons_succ]; rfl) ?_
  refine gl_take (N := some 23) rfl (Yields.gy (gy_pure (by rfl) (fun w_ => by go_simp; with_reducible rfl))) (by simp only [Act.put, List.setIfInBounds_toArray, List.set_cons_zero, List.set_cons_succ]; rfl) ?_
  refine gl_take (N := some 2) rfl (Yields.gy (gy_pure (by rfl) (fun w_ => by go_simp; with_reducible rfl))) (by simp only [Act.put, List.setIfInBounds_toArray, List.set_cons_zero, List.set_cons_succ]; rfl) ?_
  refine gl_done (fun w3 hw3 => ?_)
  clear r1 r6 c0
  go_wp2
  go_ret
  exact ⟨ret_bool (by simp), HX2.out.trans hw3⟩
set_option maxHeartbeats 1000000 in
theorem may_2t {e : Ev} (hs : EvSm e) (he : elB e = true) {bk : Bool} (ho : e.op = 2) (hn : noneB e = true) (hk : keptB e.kind = bk) (w : World) : Calls Tryd.prog 43 #[.agg (chcells e).toArray] w fun r w' => r = .returned (.bool (true && !bk)) ∧ Ext w w' := by
  obtain ⟨W0, b0, hW, hb0, hx, hb⟩ := box_ch w e
  have r1 := ch_elem hb
  have r6 := ch_val hb
  have c0 := ch_op hb
  have HX := Lib.hid hx
  have HW := Lib.hid hW
  have HS := Lib.hid hb0
  have HE := Lib.hid he
  have HSM := Lib.hid hs
  have HN := Lib.hid hn
  have HK := Lib.hid hk
  have o1a : (e.op == 1) = false := by simp [ho]
  have o1b : (e.op = 1) = False := by simp [ho]
  have o2a : (e.op == 2) = true := by simp [ho]
  have o2b : (e.op = 2) = True := by simp [ho]
  have o3a : (e.op == 3) = false := by simp [ho]
  have o3b : (e.op = 3) = False := by simp [ho]
  have o4a : (e.op == 4) = false := by simp [ho]
  have o4b : (e.op = 4) = False := by simp [ho]
  clear hn hk ho
  clear hx hW hb0 he hs hb
  go_enter Tryd.func43, Tryd.ntmps43
  go_upto_region 1 with (fail)
  rw [HW.out, HS.out]
  refine gl_begin (Ext.refl W0) ?_
  refine gl_take (N := some 4) rfl (Yields.gy (gy_pure (by rfl) (fun w_ => by go_simp; with_reducible rfl))) (by simp only [Act.put, List.setIfInBounds_toArray, List.set_cons_zero, List.set_cons_succ]; rfl) ?_
  refine gl_take (N := some 5) rfl (gy_row (by rfl) rfl (by rfl) (by with_reducible assumption) Tryd.underlying32 rfl (by first | exact vinfo _ | exact einfo _ | kernel_rfl)) (by simp only [Act.put, List.setIfInBounds_toArray, List.set_cons_zero, List.set_cons_succ]; rfl) ?_
  refine gl_take (N := some 6) rfl (gy_call (by rfl) rfl Tryd.func50 (by kernel_rfl) rfl #[_] (by rfl) (fun w _ => Elem_c HSM.out HE.out w)) (by simp only [Act.put, List.setIfInBounds_toArray, List.set_cons_zero, List.set_cons_succ]; rfl) ?_
  refine gl_take (N := some 7) rfl (Yields.gy (gy_pure (by rfl) (fun w_ => by go_simp; with_reducible rfl))) (by simp only [Act.put, List.setIfInBounds_toArray, List.set_cons_zero, List.set_cons_succ]; rfl) ?_
  refine gl_done (fun w1 hw1 => ?_)
  have q1 := hw1.range r1
  have q6 := hw1.range r6
  have d0 := hw1.cell c0
  have HX1 := Lib.hid (HX.out.trans hw1)
  clear r1 r6 c0 hw1
  go_upto_region 3 with (fail)
  refine gl_begin (Ext.refl _) ?_
  refine gl_take (N := some 8) rfl (Yields.gy (gy_pure (by rfl) (fun w_ => by go_simp; with_reducible rfl))) (by simp only [Act.put, List.setIfInBounds_toArray, List.set_cons_zero, List.set_cons_succ]; rfl) ?_
  refine gl_take (N := some 9) rfl (gy_row (by rfl) rfl (by rfl) (by with_reducible assumption) Tryd.underlying34 rfl (by first | exact vinfo _ | exact einfo _ | kernel_rfl)) (by simp only [Act.put, List.setIfInBounds_toArray, List.set_cons_zero, List.set_cons_succ]; rfl) ?_
  refine gl_take (N := some 10) rfl (Yields.gy (gy_pure (by rfl) (fun w_ => by go_simp; with_reducible rfl))) (by simp only [Act.put, List.setIfInBounds_toArray, List.set_cons_zero, List.set_cons_succ]; rfl) ?_
  refine gl_take (N := some 11) rfl (Yields.gy (gy_none HN.out (by rfl) rfl (by rfl) (by rfl))) (by simp only [Act.put, List.setIfInBounds_toArray, List.set_cons_zero, List.set_cons_succ]; rfl) ?_
  refine gl_take (N := some 3) rfl (Yields.gy (gy_pure (by rfl) (fun w_ => by go_simp; with_reducible rfl))) (by simp only [Act.put, List.setIfInBounds_toArray, List.set_cons_zero, List.set_cons_succ]; rfl) ?_
  refine gl_done (fun w2 hw2 => ?_)
  have r1 := hw2.range q1
  have r6 := hw2.range q6
  have c0 := hw2.cell d0
  have HX2 := Lib.hid (HX1.out.trans hw2)
  clear q1 q6 d0 hw2
  go_upto_region 7 with (fail)
  refine gl_begin (Ext.refl _) ?_
  refine gl_take (N := some 17) rfl (Yields.gy (gy_pure (by rfl) (fun w_ => by go_simp; with_reducible rfl))) (by simp only [Act.put, List.setIfInBounds_toArray, List.set_cons_zero, List.set_cons_succ]; rfl) ?_
  refine gl_take (N := some 18) rfl (Yields.gy (gy_pure (by rfl) (fun w_ => by go_simp; with_reducible rfl))) (by simp only [Act.put, List.setIfInBounds_toArray, List.set_cons_zero, List.set_cons_succ]; rfl) ?_
  refine gl_take (N := some 19) rfl (Yields.gy (gy_pure (by rfl) (fun w_ => by go_simp; with_reducible rfl))) (by simp only [Act.put, List.setIfInBounds_toArray, List.set_cons_zero, List.set_cons_succ]; rfl) ?_
  refine gl_take (N := some 20) rfl (gy_row (by rfl) rfl (by rfl) (by with_reducible assumption) Tryd.underlying32 rfl (by first | exact vinfo _ | exact einfo _ | kernel_rfl)) (by simp only [Act.put, List.setIfInBounds_toArray, List.set_cons_zero, List.set_cons_succ]; rfl) ?_
  refine gl_take (N := some 21) rfl (gy_call (by rfl) rfl Tryd.func51 (by kernel_rfl) rfl #[_] (by rfl) (fun w _ => kept_c HK.out w)) (by simp only [Act.put, List.setIfInBounds_toArray, List.set_cons_zero, List.set_cons_succ]; rfl) ?_
  refine gl_take (N := some 22) rfl (Yields.gy (gy_pure (by rfl) (fun w_ => by go_simp; with_reducible rfl))) (by simp only [Act.put, List.setIfInBounds_toArray, List.set_cons_zero, List.set_cons_succ]; rfl) ?_
  refine gl_take (N := some 23) rfl (Yields.gy (gy_pure (by rfl) (fun w_ => by go_simp; with_reducible rfl))) (by simp only [Act.put, List.setIfInBounds_toArray, List.set_cons_zero, List.set_cons_succ]; rfl) ?_
  refine gl_take (N := some 2) rfl (Yields.gy (gy_pure (by rfl) (fun w_ => by go_simp; with_reducible rfl))) (by simp only [Act.put, List.setIfInBounds_toArray, List.set_cons_zero, List.set_cons_succ]; rfl) ?_
  refine gl_done (fun w3 hw3 => ?_)
  clear r1 r6 c0
  go_wp2
  go_ret
  exact ⟨ret_bool (by simp), HX2.out.trans hw3⟩
set_option maxHeartbeats 1000000 in
theorem may_3f {e : Ev} (hs : EvSm e) (he : elB e = true) {bn bs : Bool} (ho : e.op = 3) (hn : noneB e = bn) (hk : keptB e.kind = false) (hc : scalarB e.vk e.vn e.vt = bs) (w : World) : Calls Tryd.prog 43 #[.agg (chcells e).toArray] w fun r w' => r = .returned (.bool (false && bs)) ∧ Ext w w' := by
  obtain ⟨W0, b0, hW, hb0, hx, hb⟩ := box_ch w e
  have r1 := ch_elem hb
  have r6 := ch_val hb
  have c0 := ch_op hb
  have HX := Lib.hid hx
  have HW := Lib.hid hW
  have HS := Lib.hid hb0
  have HE := Lib.hid he
  have HSM := Lib.hid hs
  have HN := Lib.hid hn
  have HK := Lib.hid hk
  have HC := Lib.hid hc
  have o1a : (e.op == 1) = false := by simp [ho]
  have o1b : (e.op = 1) = False := by simp [ho]
  have o2a : (e.op == 2) = false := by simp [ho]
  have o2b : (e.op = 2) = False := by simp [ho]
  have o3a : (e.op == 3) = true := by simp [ho]
  have o3b : (e.op = 3) = True := by simp [ho]
  have o4a : (e.op == 4) = false := by simp [ho]
  have o4b : (e.op = 4) = False := by simp [ho]
  clear hn hk hc ho
  clear hx hW hb0 he hs hb
  go_enter Tryd.func43, Tryd.ntmps43
  go_upto_region 1 with (fail)
  rw [HW.out, HS.out]
  refine gl_begin (Ext.refl W0) ?_
  refine gl_take (N := some 4) rfl (Yields.gy (gy_pure (by rfl) (fun w_ => by go_simp; with_reducible rfl))) (by simp only [Act.put, List.setIfInBounds_toArray, List.set_cons_zero, List.set_cons_succ]; rfl) ?_
  refine gl_take (N := some 5) rfl (gy_row (by rfl) rfl (by rfl) (by with_reducible assumption) Tryd.underlying32 rfl (by first | exact vinfo _ | exact einfo _ | kernel_rfl)) (by simp only [Act.put, List.setIfInBounds_toArray, List.set_cons_zero, List.set_cons_succ]; rfl) ?_
  refine gl_take (N := some 6) rfl (gy_call (by rfl) rfl Tryd.func50 (by kernel_rfl) rfl #[_] (by rfl) (fun w _ => Elem_c HSM.out HE.out w)) (by simp only [Act.put, List.setIfInBounds_toArray, List.set_cons_zero, List.set_cons_succ]; rfl) ?_
  refine gl_take (N := some 7) rfl (Yields.gy (gy_pure (by rfl) (fun w_ => by go_simp; with_reducible rfl))) (by simp only [Act.put, List.setIfInBounds_toArray, List.set_cons_zero, List.set_cons_succ]; rfl) ?_
  refine gl_done (fun w1 hw1 => ?_)
  have q1 := hw1.range r1
  have q6 := hw1.range r6
  have d0 := hw1.cell c0
  have HX1 := Lib.hid (HX.out.trans hw1)
  clear r1 r6 c0 hw1
  go_upto_region 3 with (fail)
  refine gl_begin (Ext.refl _) ?_
  refine gl_take (N := some 8) rfl (Yields.gy (gy_pure (by rfl) (fun w_ => by go_simp; with_reducible rfl))) (by simp only [Act.put, List.setIfInBounds_toArray, List.set_cons_zero, List.set_cons_succ]; rfl) ?_
  refine gl_take (N := some 9) rfl (gy_row (by rfl) rfl (by rfl) (by with_reducible assumption) Tryd.underlying34 rfl (by first | exact vinfo _ | exact einfo _ | kernel_rfl)) (by simp only [Act.put, List.setIfInBounds_toArray, List.set_cons_zero, List.set_cons_succ]; rfl) ?_
  refine gl_take (N := some 10) rfl (Yields.gy (gy_pure (by rfl) (fun w_ => by go_simp; with_reducible rfl))) (by simp only [Act.put, List.setIfInBounds_toArray, List.set_cons_zero, List.set_cons_succ]; rfl) ?_
  refine gl_take (N := some 11) rfl (Yields.gy (gy_none HN.out (by rfl) rfl (by rfl) (by rfl))) (by simp only [Act.put, List.setIfInBounds_toArray, List.set_cons_zero, List.set_cons_succ]; rfl) ?_
  refine gl_take (N := some 3) rfl (Yields.gy (gy_pure (by rfl) (fun w_ => by go_simp; with_reducible rfl))) (by simp only [Act.put, List.setIfInBounds_toArray, List.set_cons_zero, List.set_cons_succ]; rfl) ?_
  refine gl_done (fun w2 hw2 => ?_)
  have r1 := hw2.range q1
  have r6 := hw2.range q6
  have c0 := hw2.cell d0
  have HX2 := Lib.hid (HX1.out.trans hw2)
  clear q1 q6 d0 hw2
  go_upto_region 9 with (fail)
  refine gl_begin (Ext.refl _) ?_
  refine gl_take (N := some 26) rfl (Yields.gy (gy_pure (by rfl) (fun w_ => by go_simp; with_reducible rfl))) (by simp only [Act.put, List.setIfInBounds_toArray, List.set_cons_zero, List.set_cons_succ]; rfl) ?_
  refine gl_take (N := some 27) rfl (gy_row (by rfl) rfl (by rfl) (by with_reducible assumption) Tryd.underlying32 rfl (by first | exact vinfo _ | exact einfo _ | kernel_rfl)) (by simp only [Act.put, List.setIfInBounds_toArray, List.set_cons_zero, List.set_cons_succ]; rfl) ?_
  refine gl_take (N := some 28) rfl (gy_call (by rfl) rfl Tryd.func51 (by kernel_rfl) rfl #[_] (by rfl) (fun w _ => kept_c HK.out w)) (by simp only [Act.put, List.setIfInBounds_toArray, List.set_cons_zero, List.set_cons_succ]; rfl) ?_
  refine gl_take (N := some 29) rfl (Yields.gy (gy_pure (by rfl) (fun w_ => by go_simp; with_reducible rfl))) (by simp only [Act.put, List.setIfInBounds_toArray, List.set_cons_zero, List.set_cons_succ]; rfl) ?_
  refine gl_take (N := some 30) rfl (Yields.gy (gy_off (by rfl))) (by simp only [Act.put, List.setIfInBounds_toArray, List.set_cons_zero, List.set_cons_succ]; rfl) ?_
  refine gl_take (N := some 31) rfl (Yields.gy (gy_off (by rfl))) (by simp only [Act.put, List.setIfInBounds_toArray, List.set_cons_zero, List.set_cons_succ]; rfl) ?_
  refine gl_take (N := some 32) rfl (Yields.gy (gy_off (by rfl))) (by simp only [Act.put, List.setIfInBounds_toArray, List.set_cons_zero, List.set_cons_succ]; rfl) ?_
  refine gl_take (N := some 33) rfl (Yields.gy (gy_pure (by rfl) (fun w_ => by go_simp; with_reducible rfl))) (by simp only [Act.put, List.setIfInBounds_toArray, List.set_cons_zero, List.set_cons_succ]; rfl) ?_
  refine gl_take (N := some 2) rfl (Yields.gy (gy_pure (by rfl) (fun w_ => by go_simp; with_reducible rfl))) (by simp only [Act.put, List.setIfInBounds_toArray, List.set_cons_zero, List.set_cons_succ]; rfl) ?_
  refine gl_done (fun w3 hw3 => ?_)
  clear r1 r6 c0
  go_wp2
  go_ret
  exact ⟨ret_bool (by simp), HX2.out.trans hw3⟩
set_option maxHeartbeats 1000000 in
theorem may_3t {e : Ev} (hs : EvSm e) (he : elB e = true) {bn bs : Bool} (ho : e.op = 3) (hn : noneB e = bn) (hk : keptB e.kind = true) (hc : scalarB e.vk e.vn e.vt = bs) (w : World) : Calls Tryd.prog 43 #[.agg (chcells e).toArray] w fun r w' => r = .returned (.bool (true && bs)) ∧ Ext w w' := by
  obtain ⟨W0, b0, hW, hb0, hx, hb⟩ := box_ch w e
  have r1 := ch_elem hb
  have r6 := ch_val hb
  have c0 := ch_op hb
  have HX := Lib.hid hx
  have HW := Lib.hid hW
  have HS := Lib.hid hb0
  have HE := Lib.hid he
  have HSM := Lib.hid hs
  have HN := Lib.hid hn
  have HK := Lib.hid hk
  have HC := Lib.hid hc
  have o1a : (e.op == 1) = false := by simp [ho]
  have o1b : (e.op = 1) = False := by simp [ho]
  have o2a : (e.op == 2) = false := by simp [ho]
  have o2b : (e.op = 2) = False := by simp [ho]
  have o3a : (e.op == 3) = true := by simp [ho]
  have o3b : (e.op = 3) = True := by simp [ho]
  have o4a : (e.op == 4) = false := by simp [ho]
  have o4b : (e.op = 4) = False := by simp [ho]
  clear hn hk hc ho
  clear hx hW hb0 he hs hb
  go_enter Tryd.func43, Tryd.ntmps43
  go_upto_region 1 with (fail)
  rw [HW.out, HS.out]
  refine gl_begin (Ext.refl W0) ?_
  refine gl_take (N := some 4) rfl (Yields.gy (gy_pure (by rfl) (fun w_ => by go_simp; with_reducible rfl))) (by simp only [Act.put, List.setIfInBounds_toArray, List.set_cons_zero, List.set_cons_succ]; rfl) ?_
  refine gl_take (N := some 5) rfl (gy_row (by rfl) rfl (by rfl) (by with_reducible assumption) Tryd.underlying32 rfl (by first | exact vinfo _ | exact einfo _ | kernel_rfl)) (by simp only [Act.put, List.setIfInBounds_toArray, List.set_cons_zero, List.set_cons_succ]; rfl) ?_
  refine gl_take (N := some 6) rfl (gy_call (by rfl) rfl Tryd.func50 (by kernel_rfl) rfl #[_] (by rfl) (fun w _ => Elem_c HSM.out HE.out w)) (by simp only [Act.put, List.setIfInBounds_toArray, List.set_cons_zero, List.set_cons_succ]; rfl) ?_
  refine gl_take (N := some 7) rfl (Yields.gy (gy_pure (by rfl) (fun w_ => by go_simp; with_reducible rfl))) (by simp only [Act.put, List.setIfInBounds_toArray, List.set_cons_zero, List.set_cons_succ]; rfl) ?_
  refine gl_done (fun w1 hw1 => ?_)
  have q1 := hw1.range r1
  have q6 := hw1.range r6
  have d0 := hw1.cell c0
  have HX1 := Lib.hid (HX.out.trans hw1)
  clear r1 r6 c0 hw1
  go_upto_region 3 with (fail)
  refine gl_begin (Ext.refl _) ?_
  refine gl_take (N := some 8) rfl (Yields.gy (gy_pure (by rfl) (fun w_ => by go_simp; with_reducible rfl))) (by simp only [Act.put, List.setIfInBounds_toArray, List.set_cons_zero, List.set_cons_succ]; rfl) ?_
  refine gl_take (N := some 9) rfl (gy_row (by rfl) rfl (by rfl) (by with_reducible assumption) Tryd.underlying34 rfl (by first | exact vinfo _ | exact einfo _ | kernel_rfl)) (by simp only [Act.put, List.setIfInBounds_toArray, List.set_cons_zero, List.set_cons_succ]; rfl) ?_
  refine gl_take (N := some 10) rfl (Yields.gy (gy_pure (by rfl) (fun w_ => by go_simp; with_reducible rfl))) (by simp only [Act.put, List.setIfInBounds_toArray, List.set_cons_zero, List.set_cons_succ]; rfl) ?_
  refine gl_take (N := some 11) rfl (Yields.gy (gy_none HN.out (by rfl) rfl (by rfl) (by rfl))) (by simp only [Act.put, List.setIfInBounds_toArray, List.set_cons_zero, List.set_cons_succ]; rfl) ?_
  refine gl_take (N := some 3) rfl (Yields.gy (gy_pure (by rfl) (fun w_ => by go_simp; with_reducible rfl))) (by simp only [Act.put, List.setIfInBounds_toArray, List.set_cons_zero, List.set_cons_succ]; rfl) ?_
  refine gl_done (fun w2 hw2 => ?_)
  have r1 := hw2.range q1
  have r6 := hw2.range q6
  have c0 := hw2.cell d0
  have HX2 := Lib.hid (HX1.out.trans hw2)
  clear q1 q6 d0 hw2
  go_upto_region 9 with (fail)
  refine gl_begin (Ext.refl _) ?_
  refine gl_take (N := some 26) rfl (Yields.gy (gy_pure (by rfl) (fun w_ => by go_simp; with_reducible rfl))) (by simp only [Act.put, List.setIfInBounds_toArray, List.set_cons_zero, List.set_cons_succ]; rfl) ?_
  refine gl_take (N := some 27) rfl (gy_row (by rfl) rfl (by rfl) (by with_reducible assumption) Tryd.underlying32 rfl (by first | exact vinfo _ | exact einfo _ | kernel_rfl)) (by simp only [Act.put, List.setIfInBounds_toArray, List.set_cons_zero, List.set_cons_succ]; rfl) ?_
  refine gl_take (N := some 28) rfl (gy_call (by rfl) rfl Tryd.func51 (by kernel_rfl) rfl #[_] (by rfl) (fun w _ => kept_c HK.out w)) (by simp only [Act.put, List.setIfInBounds_toArray, List.set_cons_zero, List.set_cons_succ]; rfl) ?_
  refine gl_take (N := some 29) rfl (Yields.gy (gy_pure (by rfl) (fun w_ => by go_simp; with_reducible rfl))) (by simp only [Act.put, List.setIfInBounds_toArray, List.set_cons_zero, List.set_cons_succ]; rfl) ?_
  refine gl_take (N := some 30) rfl (Yields.gy (gy_pure (by rfl) (fun w_ => by go_simp; with_reducible rfl))) (by simp only [Act.put, List.setIfInBounds_toArray, List.set_cons_zero, List.set_cons_succ]; rfl) ?_
  refine gl_take (N := some 31) rfl (gy_row (by rfl) rfl (by rfl) (by with_reducible assumption) Tryd.underlying34 rfl (by first | exact vinfo _ | exact einfo _ | kernel_rfl)) (by simp only [Act.put, List.setIfInBounds_toArray, List.set_cons_zero, List.set_cons_succ]; rfl) ?_
  refine gl_take (N := some 32) rfl (gy_call (by rfl) rfl Tryd.func52 (by kernel_rfl) rfl #[_] (by rfl) (fun w _ => scalar_c HSM.out HC.out w)) (by simp only [Act.put, List.setIfInBounds_toArray, List.set_cons_zero, List.set_cons_succ]; rfl) ?_
  refine gl_take (N := some 33) rfl (Yields.gy (gy_pure (by rfl) (fun w_ => by go_simp; with_reducible rfl))) (by simp only [Act.put, List.setIfInBounds_toArray, List.set_cons_zero, List.set_cons_succ]; rfl) ?_
  refine gl_take (N := some 2) rfl (Yields.gy (gy_pure (by rfl) (fun w_ => by go_simp; with_reducible rfl))) (by simp only [Act.put, List.setIfInBounds_toArray, List.set_cons_zero, List.set_cons_succ]; rfl) ?_
  refine gl_done (fun w3 hw3 => ?_)
  clear r1 r6 c0
  go_wp2
  go_ret
  exact ⟨ret_bool (by simp), HX2.out.trans hw3⟩
set_option maxHeartbeats 1000000 in
theorem may_4f {e : Ev} (hs : EvSm e) (he : elB e = true) {bk : Bool} (ho : e.op = 4) (hn : noneB e = false) (hk : keptB e.kind = bk) (w : World) : Calls Tryd.prog 43 #[.agg (chcells e).toArray] w fun r w' => r = .returned (.bool (false && bk)) ∧ Ext w w' := by
  obtain ⟨W0, b0, hW, hb0, hx, hb⟩ := box_ch w e
  have r1 := ch_elem hb
  have r6 := ch_val hb
  have c0 := ch_op hb
  have HX := Lib.hid hx
  have HW := Lib.hid hW
  have HS := Lib.hid hb0
  have HE := Lib.hid he
  have HSM := Lib.hid hs
  have HN := Lib.hid hn
  have HK := Lib.hid hk
  have o1a : (e.op == 1) = false := by simp [ho]
  have o1b : (e.op = 1) = False := by simp [ho]
  have o2a : (e.op == 2) = false := by simp [ho]
  have o2b : (e.op = 2) = False := by simp [ho]
  have o3a : (e.op == 3) = false := by simp [ho]
  have o3b : (e.op = 3) = False := by simp [ho]
  have o4a : (e.op == 4) = true := by simp [ho]
  have o4b : (e.op = 4) = True := by simp [ho]
  clear hn hk ho
  clear hx hW hb0 he hs hb
  go_enter Tryd.func43, Tryd.ntmps43
  go_upto_region 1 with (fail)
  rw [HW.out, HS.out]
  refine gl_begin (Ext.refl W0) ?_
  refine gl_take (N := some 4) rfl (Yields.gy (gy_pure (by rfl) (fun w_ => by go_simp; with_reducible rfl))) (by simp only [Act.put, List.setIfInBounds_toArray, List.set_cons_zero, List.set_cons_succ]; rfl) ?_
  refine gl_take (N := some 5) rfl (gy_row (by rfl) rfl (by rfl) (by with_reducible assumption) Tryd.underlying32 rfl (by first | exact vinfo _ | exact einfo _ | kernel_rfl)) (by simp only [Act.put, List.setIfInBounds_toArray, List.set_cons_zero, List.set_cons_succ]; rfl) ?_
  refine gl_take (N := some 6) rfl (gy_call (by rfl) rfl Tryd.func50 (by kernel_rfl) rfl #[_] (by rfl) (fun w _ => Elem_c HSM.out HE.out w)) (by simp only [Act.put, List.setIfInBounds_toArray, List.set_cons_zero, List.set_cons_succ]; rfl) ?_
  refine gl_take (N := some 7) rfl (Yields.gy (gy_pure (by rfl) (fun w_ => by go_simp; with_reducible rfl))) (by simp only [Act.put, List.setIfInBounds_toArray, List.set_cons_zero, List.set_cons_succ]; rfl) ?_
  refine gl_done (fun w1 hw1 => ?_)
  have q1 := hw1.range r1
  have q6 := hw1.range r6
  have d0 := hw1.cell c0
  have HX1 := Lib.hid (HX.out.trans hw1)
  clear r1 r6 c0 hw1
  go_upto_region 3 with (fail)
  refine gl_begin (Ext.refl _) ?_
  refine gl_take (N := some 8) rfl (Yields.gy (gy_pure (by rfl) (fun w_ => by go_simp; with_reducible rfl))) (by simp only [Act.put, List.setIfInBounds_toArray, List.set_cons_zero, List.set_cons_succ]; rfl) ?_
  refine gl_take (N := some 9) rfl (gy_row (by rfl) rfl (by rfl) (by with_reducible assumption) Tryd.underlying34 rfl (by first | exact vinfo _ | exact einfo _ | kernel_rfl)) (by simp only [Act.put, List.setIfInBounds_toArray, List.set_cons_zero, List.set_cons_succ]; rfl) ?_
  refine gl_take (N := some 10) rfl (Yields.gy (gy_pure (by rfl) (fun w_ => by go_simp; with_reducible rfl))) (by simp only [Act.put, List.setIfInBounds_toArray, List.set_cons_zero, List.set_cons_succ]; rfl) ?_
  refine gl_take (N := some 11) rfl (Yields.gy (gy_none HN.out (by rfl) rfl (by rfl) (by rfl))) (by simp only [Act.put, List.setIfInBounds_toArray, List.set_cons_zero, List.set_cons_succ]; rfl) ?_
  refine gl_take (N := some 3) rfl (Yields.gy (gy_pure (by rfl) (fun w_ => by go_simp; with_reducible rfl))) (by simp only [Act.put, List.setIfInBounds_toArray, List.set_cons_zero, List.set_cons_succ]; rfl) ?_
  refine gl_done (fun w2 hw2 => ?_)
  have r1 := hw2.range q1
  have r6 := hw2.range q6
  have c0 := hw2.cell d0
  have HX2 := Lib.hid (HX1.out.trans hw2)
  clear q1 q6 d0 hw2
  go_upto_region 11 with (fail)
  refine gl_begin (Ext.refl _) ?_
  refine gl_take (N := some 36) rfl (Yields.gy (gy_pure (by rfl) (fun w_ => by go_simp; with_reducible rfl))) (by simp only [Act.put, List.setIfInBounds_toArray, List.set_cons_zero, List.set_cons_succ]; rfl) ?_
  refine gl_take (N := some 37) rfl (Yields.gy (gy_pure (by rfl) (fun w_ => by go_simp; with_reducible rfl))) (by simp only [Act.put, List.setIfInBounds_toArray, List.set_cons_zero, List.set_cons_succ]; rfl) ?_
  refine gl_take (N := some 38) rfl (Yields.gy (gy_off (by rfl))) (by simp only [Act.put, List.setIfInBounds_toArray, List.set_cons_zero, List.set_cons_succ]; rfl) ?_
  refine gl_take (N := some 39) rfl (Yields.gy (gy_off (by rfl))) (by simp only [Act.put, List.setIfInBounds_toArray, List.set_cons_zero, List.set_cons_succ]; rfl) ?_
  refine gl_take (N := some 40) rfl (Yields.gy (gy_off (by rfl))) (by simp only [Act.put, List.setIfInBounds_toArray, List.set_cons_zero, List.set_cons_succ]; rfl) ?_
  refine gl_take (N := some 41) rfl (Yields.gy (gy_pure (by rfl) (fun w_ => by go_simp; with_reducible rfl))) (by simp only [Act.put, List.setIfInBounds_toArray, List.set_cons_zero, List.set_cons_succ]; rfl) ?_
  refine gl_take (N := some 2) rfl (Yields.gy (gy_pure (by rfl) (fun w_ => by go_simp; with_reducible rfl))) (by simp only [Act.put, List.setIfInBounds_toArray, List.set_cons_zero, List.set_cons_succ]; rfl) ?_
  refine gl_done (fun w3 hw3 => ?_)
  clear r1 r6 c0
  go_wp2
  go_ret
  exact ⟨ret_bool (by simp), HX2.out.trans hw3⟩
set_option maxHeartbeats 1000000 in
theorem may_4t {e : Ev} (hs : EvSm e) (he : elB e = true) {bk : Bool} (ho : e.op = 4) (hn : noneB e = true) (hk : keptB e.kind = bk) (w : World) : Calls Tryd.prog 43 #[.agg (chcells e).toArray] w fun r w' => r = .returned (.bool (true && bk)) ∧ Ext w w' := by
  obtain ⟨W0, b0, hW, hb0, hx, hb⟩ := box_ch w e
  have r1 := ch_elem hb
  have r6 := ch_val hb
  have c0 := ch_op hb
  have HX := Lib.hid hx
  have HW := Lib.hid hW
  have HS := Lib.hid hb0
  have HE := Lib.hid he
  have HSM := Lib.hid hs
  have HN := Lib.hid hn
  have HK := Lib.hid hk
  have o1a : (e.op == 1) = false := by simp [ho]
  have o1b : (e.op = 1) = False := by simp [ho]
  have o2a : (e.op == 2) = false := by simp [ho]
  have o2b : (e.op = 2) = False := by simp [ho]
  have o3a : (e.op == 3) = false := by simp [ho]
  have o3b : (e.op = 3) = False := by simp [ho]
  have o4a : (e.op == 4) = true := by simp [ho]
  have o4b : (e.op = 4) = True := by simp [ho]
  clear hn hk ho
  clear hx hW hb0 he hs hb
  go_enter Tryd.func43, Tryd.ntmps43
  go_upto_region 1 with (fail)
  rw [HW.out, HS.out]
  refine gl_begin (Ext.refl W0) ?_
  refine gl_take (N := some 4) rfl (Yields.gy (gy_pure (by rfl) (fun w_ => by go_simp; with_reducible rfl))) (by simp only [Act.put, List.setIfInBounds_toArray, List.set_cons_zero, List.set_cons_succ]; rfl) ?_
  refine gl_take (N := some 5) rfl (gy_row (by rfl) rfl (by rfl) (by with_reducible assumption) Tryd.underlying32 rfl (by first | exact vinfo _ | exact einfo _ | kernel_rfl)) (by simp only [Act.put, List.setIfInBounds_toArray, List.set_cons_zero, List.set_cons_succ]; rfl) ?_
  refine gl_take (N := some 6) rfl (gy_call (by rfl) rfl Tryd.func50 (by kernel_rfl) rfl #[_] (by rfl) (fun w _ => Elem_c HSM.out HE.out w)) (by simp only [Act.put, List.setIfInBounds_toArray, List.set_cons_zero, List.set_cons_succ]; rfl) ?_
  refine gl_take (N := some 7) rfl (Yields.gy (gy_pure (by rfl) (fun w_ => by go_simp; with_reducible rfl))) (by simp only [Act.put, List.setIfInBounds_toArray, List.set_cons_zero, List.set_cons_succ]; rfl) ?_
  refine gl_done (fun w1 hw1 => ?_)
  have q1 := hw1.range r1
  have q6 := hw1.range r6
  have d0 := hw1.cell c0
  have HX1 := Lib.hid (HX.out.trans hw1)
  clear r1 r6 c0 hw1
  go_upto_region 3 with (fail)
  refine gl_begin (Ext.refl _) ?_
  refine gl_take (N := some 8) rfl (Yields.gy (gy_pure (by rfl) (fun w_ => by go_simp; with_reducible rfl))) (by simp only [Act.put, List.setIfInBounds_toArray, List.set_cons_zero, List.set_cons_succ]; rfl) ?_
  refine gl_take (N := some 9) rfl (gy_row (by rfl) rfl (by rfl) (by with_reducible assumption) Tryd.underlying34 rfl (by first | exact vinfo _ | exact einfo _ | kernel_rfl)) (by simp only [Act.put, List.setIfInBounds_toArray, List.set_cons_zero, List.set_cons_succ]; rfl) ?_
  refine gl_take (N := some 10) rfl (Yields.gy (gy_pure (by rfl) (fun w_ => by go_simp; with_reducible rfl))) (by simp only [Act.put, List.setIfInBounds_toArray, List.set_cons_zero, List.set_cons_succ]; rfl) ?_
  refine gl_take (N := some 11) rfl (Yields.gy (gy_none HN.out (by rfl) rfl (by rfl) (by rfl))) (by simp only [Act.put, List.setIfInBounds_toArray, List.set_cons_zero, List.set_cons_succ]; rfl) ?_
  refine gl_take (N := some 3) rfl (Yields.gy (gy_pure (by rfl) (fun w_ => by go_simp; with_reducible rfl))) (by simp only [Act.put, List.setIfInBounds_toArray, List.set_cons_zero, List.set_cons_succ]; rfl) ?_
  refine gl_done (fun w2 hw2 => ?_)
  have r1 := hw2.range q1
  have r6 := hw2.range q6
  have c0 := hw2.cell d0
  have HX2 := Lib.hid (HX1.out.trans hw2)
  clear q1 q6 d0 hw2
  go_upto_region 11 with (fail)
  refine gl_begin (Ext.refl _) ?_
  refine gl_take (N := some 36) rfl (Yields.gy (gy_pure (by rfl) (fun w_ => by go_simp; with_reducible rfl))) (by simp only [Act.put, List.setIfInBounds_toArray, List.set_cons_zero, List.set_cons_succ]; rfl) ?_
  refine gl_take (N := some 37) rfl (Yields.gy (gy_pure (by rfl) (fun w_ => by go_simp; with_reducible rfl))) (by simp only [Act.put, List.setIfInBounds_toArray, List.set_cons_zero, List.set_cons_succ]; rfl) ?_
  refine gl_take (N := some 38) rfl (Yields.gy (gy_pure (by rfl) (fun w_ => by go_simp; with_reducible rfl))) (by simp only [Act.put, List.setIfInBounds_toArray, List.set_cons_zero, List.set_cons_succ]; rfl) ?_
  refine gl_take (N := some 39) rfl (gy_row (by rfl) rfl (by rfl) (by with_reducible assumption) Tryd.underlying32 rfl (by first | exact vinfo _ | exact einfo _ | kernel_rfl)) (by simp only [Act.put, List.setIfInBounds_toArray, List.set_cons_zero, List.set_cons_succ]; rfl) ?_
  refine gl_take (N := some 40) rfl (gy_call (by rfl) rfl Tryd.func51 (by kernel_rfl) rfl #[_] (by rfl) (fun w _ => kept_c HK.out w)) (by simp only [Act.put, List.setIfInBounds_toArray, List.set_cons_zero, List.set_cons_succ]; rfl) ?_
  refine gl_take (N := some 41) rfl (Yields.gy (gy_pure (by rfl) (fun w_ => by go_simp; with_reducible rfl))) (by simp only [Act.put, List.setIfInBounds_toArray, List.set_cons_zero, List.set_cons_succ]; rfl) ?_
  refine gl_take (N := some 2) rfl (Yields.gy (gy_pure (by rfl) (fun w_ => by go_simp; with_reducible rfl))) (by simp only [Act.put, List.setIfInBounds_toArray, List.set_cons_zero, List.set_cons_succ]; rfl) ?_
  refine gl_done (fun w3 hw3 => ?_)
  clear r1 r6 c0
  go_wp2
  go_ret
  exact ⟨ret_bool (by simp), HX2.out.trans hw3⟩
set_option maxHeartbeats 1000000 in
theorem may_else {e : Ev} (hs : EvSm e) (he : elB e = true) {bn : Bool} (h1 : e.op ≠ 1) (h2 : e.op ≠ 2) (h3 : e.op ≠ 3) (h4 : e.op ≠ 4) (hn : noneB e = bn) (w : World) : Calls Tryd.prog 43 #[.agg (chcells e).toArray] w fun r w' => r = .returned (.bool false) ∧ Ext w w' := by
  obtain ⟨W0, b0, hW, hb0, hx, hb⟩ := box_ch w e
  have r1 := ch_elem hb
  have r6 := ch_val hb
  have c0 := ch_op hb
  have HX := Lib.hid hx
  have HW := Lib.hid hW
  have HS := Lib.hid hb0
  have HE := Lib.hid he
  have HSM := Lib.hid hs
  have HN := Lib.hid hn
  have o1a : (e.op == 1) = false := by simp [h1]
  have o1b : (e.op = 1) = False := by simp [h1]
  have o2a : (e.op == 2) = false := by simp [h2]
  have o2b : (e.op = 2) = False := by simp [h2]
  have o3a : (e.op == 3) = false := by simp [h3]
  have o3b : (e.op = 3) = False := by simp [h3]
  have o4a : (e.op == 4) = false := by simp [h4]
  have o4b : (e.op = 4) = False := by simp [h4]
  clear hn h1 h2 h3 h4
  clear hx hW hb0 he hs hb
  go_enter Tryd.func43, Tryd.ntmps43
  go_upto_region 1 with (fail)
  rw [HW.out, HS.out]
  refine gl_begin (Ext.refl W0) ?_
  refine gl_take (N := some 4) rfl (Yields.gy (gy_pure (by rfl) (fun w_ => by go_simp; with_reducible rfl))) (by simp only [Act.put, List.setIfInBounds_toArray, List.set_cons_zero, List.set_cons_succ]; rfl) ?_
  refine gl_take (N := some 5) rfl (gy_row (by rfl) rfl (by rfl) (by with_reducible assumption) Tryd.underlying32 rfl (by first | exact vinfo _ | exact einfo _ | kernel_rfl)) (by simp only [Act.put, List.setIfInBounds_toArray, List.set_cons_zero, List.set_cons_succ]; rfl) ?_
  refine gl_take (N := some 6) rfl (gy_call (by rfl) rfl Tryd.func50 (by kernel_rfl) rfl #[_] (by rfl) (fun w _ => Elem_c HSM.out HE.out w)) (by simp only [Act.put, List.setIfInBounds_toArray, List.set_cons_zero, List.set_cons_succ]; rfl) ?_
  refine gl_take (N := some 7) rfl (Yields.gy (gy_pure (by rfl) (fun w_ => by go_simp; with_reducible rfl))) (by simp only [Act.put, List.setIfInBounds_toArray, List.set_cons_zero, List.set_cons_succ]; rfl) ?_
  refine gl_done (fun w1 hw1 => ?_)
  have q1 := hw1.range r1
  have q6 := hw1.range r6
  have d0 := hw1.cell c0
  have HX1 := Lib.hid (HX.out.trans hw1)
  clear r1 r6 c0 hw1
  go_upto_region 3 with (fail)
  refine gl_begin (Ext.refl _) ?_
  refine gl_take (N := some 8) rfl (Yields.gy (gy_pure (by rfl) (fun w_ => by go_simp; with_reducible rfl))) (by simp only [Act.put, List.setIfInBounds_toArray, List.set_cons_zero, List.set_cons_succ]; rfl) ?_
  refine gl_take (N := some 9) rfl (gy_row (by rfl) rfl (by rfl) (by with_reducible assumption) Tryd.underlying34 rfl (by first | exact vinfo _ | exact einfo _ | kernel_rfl)) (by simp only [Act.put, List.setIfInBounds_toArray, List.set_cons_zero, List.set_cons_succ]; rfl) ?_
  refine gl_take (N := some 10) rfl (Yields.gy (gy_pure (by rfl) (fun w_ => by go_simp; with_reducible rfl))) (by simp only [Act.put, List.setIfInBounds_toArray, List.set_cons_zero, List.set_cons_succ]; rfl) ?_
  refine gl_take (N := some 11) rfl (Yields.gy (gy_none HN.out (by rfl) rfl (by rfl) (by rfl))) (by simp only [Act.put, List.setIfInBounds_toArray, List.set_cons_zero, List.set_cons_succ]; rfl) ?_
  refine gl_take (N := some 3) rfl (Yields.gy (gy_pure (by rfl) (fun w_ => by go_simp; with_reducible rfl))) (by simp only [Act.put, List.setIfInBounds_toArray, List.set_cons_zero, List.set_cons_succ]; rfl) ?_
  refine gl_done (fun w2 hw2 => ?_)
  have r1 := hw2.range q1
  have r6 := hw2.range q6
  have c0 := hw2.cell d0
  have HX2 := Lib.hid (HX1.out.trans hw2)
  clear q1 q6 d0 hw2
  clear r1 r6
  go_wp2
  go_ret
  exact ⟨rfl, HX2.out⟩
theorem may_calls {e : Ev} (hs : EvSm e) (w : World) : Calls Tryd.prog 43 #[.agg (chcells e).toArray] w fun r w' => r = .returned (.bool (mayB e)) ∧ Ext w w' := by
  unfold mayB
  cases he : elB e with
  | false => exact may_no hs he w
  | true =>
    rw [Bool.true_and]
    by_cases h1 : e.op = 1
    · rw [if_pos (.inl h1)]
      cases hn : noneB e with
      | false => exact may_1f hs he h1 hn rfl w
      | true => exact may_1t hs he h1 hn rfl w
    by_cases h2 : e.op = 2
    · rw [if_pos (.inr h2)]
      cases hn : noneB e with
      | false => exact may_2f hs he h2 hn rfl w
      | true => exact may_2t hs he h2 hn rfl w
    rw [if_neg (by simp [h1, h2])]
    by_cases h3 : e.op = 3
    · rw [if_pos h3]
      cases hk : keptB e.kind with
      | false => exact may_3f hs he h3 rfl hk rfl w
      | true => exact may_3t hs he h3 rfl hk rfl w
    rw [if_neg h3]
    by_cases h4 : e.op = 4
    · rw [if_pos h4]
      cases hn : noneB e with
      | false => exact may_4f hs he h4 hn rfl w
      | true => exact may_4t hs he h4 hn rfl w
    rw [if_neg h4]
    exact may_else hs he h1 h2 h3 h4 rfl w
set_option maxHeartbeats 1000000 in
theorem Change_calls {e : Ev} (hs : EvSm e) : ChangeIs e (if mayB e then 0 else 1) := by
  intro w
  obtain ⟨W0, b0, hW, hb0, hx, hb⟩ := box_ch w e
  have ra := blk_range hb
  have HX := Lib.hid hx
  have HW := Lib.hid hW
  have HS := Lib.hid hb0
  have HSM := Lib.hid hs
  clear hx hW hb0 hs hb
  have hm : ∀ w, Calls Tryd.prog 43 #[.agg (chcells e).toArray] w fun r w' => r = .returned (.bool (mayB e)) ∧ Ext w w' := fun w => may_calls HSM.out w
  cases hb : mayB e with
  | false =>
    rw [hb] at hm
    have HM := Lib.hid hm
    clear hm hb
    go_enter Tryd.func35, Tryd.ntmps35
    go_upto_region 1 with (fail)
    rw [HW.out, HS.out]
    refine gl_begin (Ext.refl W0) ?_
    refine gl_take (N := some 3) rfl (gy_row (by rfl) rfl (by rfl) (by with_reducible assumption) Tryd.underlying56 rfl (by first | exact vinfo _ | exact einfo _ | kernel_rfl)) (by simp only [Act.put, List.setIfInBounds_toArray, List.set_cons_zero, List.set_cons_succ]; rfl) ?_
    refine gl_take (N := some 4) rfl (gy_call (by rfl) rfl Tryd.func43 (by kernel_rfl) rfl #[_] (by rfl) (fun w _ => HM.out w)) (by simp only [Act.put, List.setIfInBounds_toArray, List.set_cons_zero, List.set_cons_succ]; rfl) ?_
    refine gl_take (N := some 5) rfl (Yields.gy (gy_pure (by rfl) (fun w_ => by go_simp; with_reducible rfl))) (by simp only [Act.put, List.setIfInBounds_toArray, List.set_cons_zero, List.set_cons_succ]; rfl) ?_
    refine gl_done (fun w1 hw1 => ?_)
    clear ra
    go_wp2
    go_ret
    exact ⟨rfl, HX.out.trans hw1⟩
  | true =>
    rw [hb] at hm
    have HM := Lib.hid hm
    clear hm hb
    go_enter Tryd.func35, Tryd.ntmps35
    go_upto_region 1 with (fail)
    rw [HW.out, HS.out]
    refine gl_begin (Ext.refl W0) ?_
    refine gl_take (N := some 3) rfl (gy_row (by rfl) rfl (by rfl) (by with_reducible assumption) Tryd.underlying56 rfl (by first | exact vinfo _ | exact einfo _ | kernel_rfl)) (by simp only [Act.put, List.setIfInBounds_toArray, List.set_cons_zero, List.set_cons_succ]; rfl) ?_
    refine gl_take (N := some 4) rfl (gy_call (by rfl) rfl Tryd.func43 (by kernel_rfl) rfl #[_] (by rfl) (fun w _ => HM.out w)) (by simp only [Act.put, List.setIfInBounds_toArray, List.set_cons_zero, List.set_cons_succ]; rfl) ?_
    refine gl_take (N := some 5) rfl (Yields.gy (gy_pure (by rfl) (fun w_ => by go_simp; with_reducible rfl))) (by simp only [Act.put, List.setIfInBounds_toArray, List.set_cons_zero, List.set_cons_succ]; rfl) ?_
    refine gl_done (fun w1 hw1 => ?_)
    clear ra
    go_wp2
    go_ret
    exact ⟨rfl, HX.out.trans hw1⟩
end Go.Proofs.YthmnohecmmknpaaDoor.Vec
namespace Go.Proofs.YthmnohecmmknpaaDoor.Vec
open Go.RowKit Go.Proofs.YthmnohecmmknpaaDoorW.PrintWords Go.Proofs.YthmnohecmmknpaaDoor.Given Go.Proofs.YthmnohecmmknpaaDoor.PA Go.Proofs.YthmnohecmmknpaaDoor.Val
set_option linter.unusedVariables false
set_option linter.unusedSimpArgs false
set_option maxRecDepth 100000
end Go.Proofs.YthmnohecmmknpaaDoor.Vec
namespace Go.Proofs.YthmnohecmmknpaaDoor.Vec
open Go.RowKit Go.Proofs.YthmnohecmmknpaaDoorW.PrintWords Go.Proofs.YthmnohecmmknpaaDoor.Given Go.Proofs.YthmnohecmmknpaaDoor.PA Go.Proofs.YthmnohecmmknpaaDoor.Val
set_option linter.unusedVariables false
set_option linter.unusedSimpArgs false
set_option maxRecDepth 100000
def okB (e : Ev) : Bool := nextB e.past e.rep e.cnt && rightB e.past && mayB e
theorem ERight_is {e : Ev} (hs : EvSm e) (w : World) : Calls Tryd.prog 24 #[evval e] w fun r w' => r = .returned (.int .i64 (if okB e then 0 else 1)) ∧ Ext w w' := ERight_calls (ch := mayB) (Change_calls hs) w
end Go.Proofs.YthmnohecmmknpaaDoor.Vec
namespace Go.Proofs.YthmnohecmmknpaaDoor.Vec
open Go.RowKit Go.Proofs.YthmnohecmmknpaaDoorW.PrintWords Go.Proofs.YthmnohecmmknpaaDoorW.PrintLast Go.Proofs.YthmnohecmmknpaaDoor.Given Go.Proofs.YthmnohecmmknpaaDoor.PA Go.Proofs.YthmnohecmmknpaaDoor.Val
set_option linter.unusedVariables false
set_option linter.unusedSimpArgs false
set_option maxRecDepth 100000
def oneE (v : Vc) (e : Ev) : Int := if okB e then (if knowsB v e.rep e.cnt then 5 else if nextB v e.rep e.cnt && belowB e.past v then 0 else 8) else 1
theorem boxes_ve (w : World) (v : Vc) (e : Ev) : ∃ W0 b0, ((w.alloc (.cells (vcells v).toArray 26)).alloc (.cells (ecells e).toArray 36)) = W0 ∧ w.heap.size = b0 ∧ Ext w W0 ∧ W0.rangeAt b0 0 (vcells v) ∧ EvAt W0 (b0 + 1) 0 e := by
  refine ⟨_, _, rfl, rfl, ((Ext.refl w).alloc _).alloc _, ((Ext.refl _).alloc _).range (range_new _ _ _), ?_⟩
  have := EvAt.new (w.alloc (.cells (vcells v).toArray 26)) e 36
  simpa using this
theorem boxes_ee (w : World) (e f : Ev) : ∃ W0 b0, ((w.alloc (.cells (ecells e).toArray 36)).alloc (.cells (ecells f).toArray 36)) = W0 ∧ w.heap.size = b0 ∧ Ext w W0 ∧ EvAt W0 b0 0 e ∧ EvAt W0 (b0 + 1) 0 f := by
  refine ⟨_, _, rfl, rfl, ((Ext.refl w).alloc _).alloc _, (EvAt.new w e 36).ext ((Ext.refl _).alloc _), ?_⟩
  have := EvAt.new (w.alloc (.cells (ecells e).toArray 36)) f 36
  simpa using this
theorem ERight_b {e : Ev} (hs : EvSm e) {b : Bool} (hb : okB e = b) (w : World) : Calls Tryd.prog 24 #[evval e] w fun r w' => r = .returned (.int .i64 (if b then 0 else 1)) ∧ Ext w w' := by
  rw [← hb]
  exact ERight_is hs w
set_option maxHeartbeats 2000000 in
theorem One_calls (v : Vc) {e : Ev} (hs : EvSm e) (w : World) : Calls Tryd.prog 14 #[vval v, evval e] w fun r w' => r = .returned (.int .i64 (oneE v e)) ∧ Ext w w' := by
  obtain ⟨W0, b0, hW, hb0, hx, hv, he⟩ := boxes_ve w v e
  have ra := he.all
  have R0 := Lib.hid he.dotr
  have r2 := he.past
  rw [Nat.zero_add] at r2
  have HV := Lib.hid hv
  have H2 := Lib.hid r2
  have HX := Lib.hid hx
  have HW := Lib.hid hW
  have HS := Lib.hid hb0
  have HSM := Lib.hid hs
  clear hx hW hb0 he hs hv r2
  unfold vval evval
  have hdef : oneE v e = if okB e then (if knowsB v e.rep e.cnt then 5 else if nextB v e.rep e.cnt && belowB e.past v then 0 else 8) else 1 := rfl
  cases hok : okB e with
  | false =>
    have H1 := Lib.hid hok
    rw [hok, if_neg (by decide)] at hdef
    have HD := Lib.hid hdef
    clear hdef hok
    go_enter Tryd.func14, Tryd.ntmps14
    go_upto_region 1 with (fail)
    rw [HW.out, HS.out]
    refine gl_begin (Ext.refl W0) ?_
    refine gl_take (N := some 6) rfl (gy_row (by rfl) rfl (by rfl) (by with_reducible assumption) Tryd.underlying36 rfl (by first | exact vinfo _ | exact einfo _ | kernel_rfl)) (by simp only [Act.put, List.setIfInBounds_toArray, List.set_cons_zero, List.set_cons_succ]; rfl) ?_
    refine gl_take (N := some 7) rfl (gy_call (by rfl) rfl Tryd.func24 (by kernel_rfl) rfl #[_] (by rfl) (fun w _ => ERight_b HSM.out H1.out w)) (by simp only [Act.put, List.setIfInBounds_toArray, List.set_cons_zero, List.set_cons_succ]; rfl) ?_
    refine gl_take (N := some 8) rfl (Yields.gy (gy_pure (by rfl) (fun w_ => by go_simp; with_reducible rfl))) (by simp only [Act.put, List.setIfInBounds_toArray, List.set_cons_zero, List.set_cons_succ]; rfl) ?_
    refine gl_take (N := some 5) rfl (Yields.gy (gy_pure (by rfl) (fun w_ => by go_simp; with_reducible rfl))) (by simp only [Act.put, List.setIfInBounds_toArray, List.set_cons_zero, List.set_cons_succ]; rfl) ?_
    refine gl_done (fun w1 hw1 => ?_)
    clear ra
    go_wp2
    go_ret
    exact ⟨ret_int (by rw [HD.out]), HX.out.trans hw1⟩
  | true =>
    have H1 := Lib.hid hok
    rw [hok, if_pos rfl] at hdef
    clear hok
    cases hk : knowsB v e.rep e.cnt with
    | true =>
      have HK := Lib.hid hk
      rw [hk, if_pos rfl] at hdef
      have HD := Lib.hid hdef
      clear hdef hk
      go_enter Tryd.func14, Tryd.ntmps14
      go_upto_region 1 with (fail)
      rw [HW.out, HS.out]
      refine gl_begin (Ext.refl W0) ?_
      refine gl_take (N := some 6) rfl (gy_row (by rfl) rfl (by rfl) (by with_reducible assumption) Tryd.underlying36 rfl (by first | exact vinfo _ | exact einfo _ | kernel_rfl)) (by simp only [Act.put, List.setIfInBounds_toArray, List.set_cons_zero, List.set_cons_succ]; rfl) ?_
      refine gl_take (N := some 7) rfl (gy_call (by rfl) rfl Tryd.func24 (by kernel_rfl) rfl #[_] (by rfl) (fun w _ => ERight_b HSM.out H1.out w)) (by simp only [Act.put, List.setIfInBounds_toArray, List.set_cons_zero, List.set_cons_succ]; rfl) ?_
      refine gl_take (N := some 8) rfl (Yields.gy (gy_pure (by rfl) (fun w_ => by go_simp; with_reducible rfl))) (by simp only [Act.put, List.setIfInBounds_toArray, List.set_cons_zero, List.set_cons_succ]; rfl) ?_
      refine gl_take (N := some 5) rfl (Yields.gy (gy_pure (by rfl) (fun w_ => by go_simp; with_reducible rfl))) (by simp only [Act.put, List.setIfInBounds_toArray, List.set_cons_zero, List.set_cons_succ]; rfl) ?_
      refine gl_done (fun w1 hw1 => ?_)
      have rv := hw1.range HV.out
      have r0 := hw1.range R0.out
      have HE1 := Lib.hid (HX.out.trans hw1)
      clear ra hw1
      go_upto_region 3 with (fail)
      refine gl_begin (Ext.refl _) ?_
      refine gl_take (N := some 10) rfl (gy_row (by rfl) rfl (by rfl) (by with_reducible assumption) Tryd.underlying26 rfl (by first | exact vinfo _ | exact einfo _ | kernel_rfl)) (by simp only [Act.put, List.setIfInBounds_toArray, List.set_cons_zero, List.set_cons_succ]; rfl) ?_
      refine gl_take (N := some 11) rfl (Yields.gy (gy_pure (by rfl) (fun w_ => by go_simp; with_reducible rfl))) (by simp only [Act.put, List.setIfInBounds_toArray, List.set_cons_zero, List.set_cons_succ]; rfl) ?_
      refine gl_take (N := some 12) rfl (gy_row (by rfl) rfl (by rfl) (by with_reducible assumption) Tryd.underlying30 rfl (by first | exact vinfo _ | exact einfo _ | kernel_rfl)) (by simp only [Act.put, List.setIfInBounds_toArray, List.set_cons_zero, List.set_cons_succ]; rfl) ?_
      refine gl_take (N := some 13) rfl (gy_call (by rfl) rfl Tryd.func23 (by kernel_rfl) rfl #[_, _] (by rfl) (fun w _ => Knows_calls HK.out w)) (by simp only [Act.put, List.setIfInBounds_toArray, List.set_cons_zero, List.set_cons_succ]; rfl) ?_
      refine gl_take (N := some 9) rfl (Yields.gy (gy_pure (by rfl) (fun w_ => by go_simp; with_reducible rfl))) (by simp only [Act.put, List.setIfInBounds_toArray, List.set_cons_zero, List.set_cons_succ]; rfl) ?_
      refine gl_done (fun w2 hw2 => ?_)
      clear rv r0
      go_wp2
      go_ret
      exact ⟨ret_int (by rw [HD.out]), HE1.out.trans hw2⟩
    | false =>
      have HK := Lib.hid hk
      rw [hk, if_neg (by decide)] at hdef
      clear hk
      cases hn : nextB v e.rep e.cnt with
      | false =>
        have HN := Lib.hid hn
        rw [hn, Bool.false_and, if_neg (by decide)] at hdef
        have HD := Lib.hid hdef
        clear hdef hn
        go_enter Tryd.func14, Tryd.ntmps14
        go_upto_region 1 with (fail)
        rw [HW.out, HS.out]
        refine gl_begin (Ext.refl W0) ?_
        refine gl_take (N := some 6) rfl (gy_row (by rfl) rfl (by rfl) (by with_reducible assumption) Tryd.underlying36 rfl (by first | exact vinfo _ | exact einfo _ | kernel_rfl)) (by simp only [Act.put, List.setIfInBounds_toArray, List.set_cons_zero, List.set_cons_succ]; rfl) ?_
        refine gl_take (N := some 7) rfl (gy_call (by rfl) rfl Tryd.func24 (by kernel_rfl) rfl #[_] (by rfl) (fun w _ => ERight_b HSM.out H1.out w)) (by simp only [Act.put, List.setIfInBounds_toArray, List.set_cons_zero, List.set_cons_succ]; rfl) ?_
        refine gl_take (N := some 8) rfl (Yields.gy (gy_pure (by rfl) (fun w_ => by go_simp; with_reducible rfl))) (by simp only [Act.put, List.setIfInBounds_toArray, List.set_cons_zero, List.set_cons_succ]; rfl) ?_
        refine gl_take (N := some 5) rfl (Yields.gy (gy_pure (by rfl) (fun w_ => by go_simp; with_reducible rfl))) (by simp only [Act.put, List.setIfInBounds_toArray, List.set_cons_zero, List.set_cons_succ]; rfl) ?_
        refine gl_done (fun w1 hw1 => ?_)
        have rv := hw1.range HV.out
        have r0 := hw1.range R0.out
        have HE1 := Lib.hid (HX.out.trans hw1)
        clear ra hw1
        go_upto_region 3 with (fail)
        refine gl_begin (Ext.refl _) ?_
        refine gl_take (N := some 10) rfl (gy_row (by rfl) rfl (by rfl) (by with_reducible assumption) Tryd.underlying26 rfl (by first | exact vinfo _ | exact einfo _ | kernel_rfl)) (by simp only [Act.put, List.setIfInBounds_toArray, List.set_cons_zero, List.set_cons_succ]; rfl) ?_
        refine gl_take (N := some 11) rfl (Yields.gy (gy_pure (by rfl) (fun w_ => by go_simp; with_reducible rfl))) (by simp only [Act.put, List.setIfInBounds_toArray, List.set_cons_zero, List.set_cons_succ]; rfl) ?_
        refine gl_take (N := some 12) rfl (gy_row (by rfl) rfl (by rfl) (by with_reducible assumption) Tryd.underlying30 rfl (by first | exact vinfo _ | exact einfo _ | kernel_rfl)) (by simp only [Act.put, List.setIfInBounds_toArray, List.set_cons_zero, List.set_cons_succ]; rfl) ?_
        refine gl_take (N := some 13) rfl (gy_call (by rfl) rfl Tryd.func23 (by kernel_rfl) rfl #[_, _] (by rfl) (fun w _ => Knows_calls HK.out w)) (by simp only [Act.put, List.setIfInBounds_toArray, List.set_cons_zero, List.set_cons_succ]; rfl) ?_
        refine gl_take (N := some 9) rfl (Yields.gy (gy_pure (by rfl) (fun w_ => by go_simp; with_reducible rfl))) (by simp only [Act.put, List.setIfInBounds_toArray, List.set_cons_zero, List.set_cons_succ]; rfl) ?_
        refine gl_done (fun w2 hw2 => ?_)
        have sv := hw2.range rv
        have s0 := hw2.range r0
        have HE2 := Lib.hid (HE1.out.trans hw2)
        clear rv r0 hw2
        go_upto_region 5 with (fail)
        refine gl_begin (Ext.refl _) ?_
        refine gl_take (N := some 15) rfl (gy_row (by rfl) rfl (by rfl) (by with_reducible assumption) Tryd.underlying26 rfl (by first | exact vinfo _ | exact einfo _ | kernel_rfl)) (by simp only [Act.put, List.setIfInBounds_toArray, List.set_cons_zero, List.set_cons_succ]; rfl) ?_
        refine gl_take (N := some 16) rfl (Yields.gy (gy_pure (by rfl) (fun w_ => by go_simp; with_reducible rfl))) (by simp only [Act.put, List.setIfInBounds_toArray, List.set_cons_zero, List.set_cons_succ]; rfl) ?_
        refine gl_take (N := some 17) rfl (gy_row (by rfl) rfl (by rfl) (by with_reducible assumption) Tryd.underlying30 rfl (by first | exact vinfo _ | exact einfo _ | kernel_rfl)) (by simp only [Act.put, List.setIfInBounds_toArray, List.set_cons_zero, List.set_cons_succ]; rfl) ?_
        refine gl_take (N := some 18) rfl (gy_call (by rfl) rfl Tryd.func25 (by kernel_rfl) rfl #[_, _] (by rfl) (fun w _ => Next_calls HN.out w)) (by simp only [Act.put, List.setIfInBounds_toArray, List.set_cons_zero, List.set_cons_succ]; rfl) ?_
        refine gl_take (N := some 19) rfl (Yields.gy (gy_pure (by rfl) (fun w_ => by go_simp; with_reducible rfl))) (by simp only [Act.put, List.setIfInBounds_toArray, List.set_cons_zero, List.set_cons_succ]; rfl) ?_
        refine gl_take (N := some 20) rfl (Yields.gy (gy_pure (by rfl) (fun w_ => by go_simp; with_reducible rfl))) (by simp only [Act.put, List.setIfInBounds_toArray, List.set_cons_zero, List.set_cons_succ]; rfl) ?_
        refine gl_take (N := some 21) rfl (Yields.gy (gy_off (by rfl))) (by simp only [Act.put, List.setIfInBounds_toArray, List.set_cons_zero, List.set_cons_succ]; rfl) ?_
        refine gl_take (N := some 22) rfl (Yields.gy (gy_off (by rfl))) (by simp only [Act.put, List.setIfInBounds_toArray, List.set_cons_zero, List.set_cons_succ]; rfl) ?_
        refine gl_take (N := some 23) rfl (Yields.gy (gy_off (by rfl))) (by simp only [Act.put, List.setIfInBounds_toArray, List.set_cons_zero, List.set_cons_succ]; rfl) ?_
        refine gl_take (N := some 24) rfl (Yields.gy (gy_off (by rfl))) (by simp only [Act.put, List.setIfInBounds_toArray, List.set_cons_zero, List.set_cons_succ]; rfl) ?_
        refine gl_take (N := some 25) rfl (Yields.gy (gy_off (by rfl))) (by simp only [Act.put, List.setIfInBounds_toArray, List.set_cons_zero, List.set_cons_succ]; rfl) ?_
        refine gl_take (N := some 26) rfl (Yields.gy (gy_pure (by rfl) (fun w_ => by go_simp; with_reducible rfl))) (by simp only [Act.put, List.setIfInBounds_toArray, List.set_cons_zero, List.set_cons_succ]; rfl) ?_
        refine gl_take (N := some 14) rfl (Yields.gy (gy_pure (by rfl) (fun w_ => by go_simp; with_reducible rfl))) (by simp only [Act.put, List.setIfInBounds_toArray, List.set_cons_zero, List.set_cons_succ]; rfl) ?_
        refine gl_done (fun w3 hw3 => ?_)
        clear sv s0
        go_wp2
        go_ret
        exact ⟨ret_int (by rw [HD.out]), HE2.out.trans hw3⟩
      | true =>
        have HN := Lib.hid hn
        rw [hn, Bool.true_and] at hdef
        clear hn
        have hfin : ∀ bb, belowB e.past v = bb → oneE v e = if bb then 0 else 8 := fun bb h => by rw [hdef, h]
        have HD := Lib.hid hfin
        clear hdef hfin
        cases hbl : belowB e.past v with
        | false =>
          have HBL := Lib.hid hbl
          clear hbl
          go_enter Tryd.func14, Tryd.ntmps14
          go_upto_region 1 with (fail)
          rw [HW.out, HS.out]
          refine gl_begin (Ext.refl W0) ?_
          refine gl_take (N := some 6) rfl (gy_row (by rfl) rfl (by rfl) (by with_reducible assumption) Tryd.underlying36 rfl (by first | exact vinfo _ | exact einfo _ | kernel_rfl)) (by simp only [Act.put, List.setIfInBounds_toArray, List.set_cons_zero, List.set_cons_succ]; rfl) ?_
          refine gl_take (N := some 7) rfl (gy_call (by rfl) rfl Tryd.func24 (by kernel_rfl) rfl #[_] (by rfl) (fun w _ => ERight_b HSM.out H1.out w)) (by simp only [Act.put, List.setIfInBounds_toArray, List.set_cons_zero, List.set_cons_succ]; rfl) ?_
          refine gl_take (N := some 8) rfl (Yields.gy (gy_pure (by rfl) (fun w_ => by go_simp; with_reducible rfl))) (by simp only [Act.put, List.setIfInBounds_toArray, List.set_cons_zero, List.set_cons_succ]; rfl) ?_
          refine gl_take (N := some 5) rfl (Yields.gy (gy_pure (by rfl) (fun w_ => by go_simp; with_reducible rfl))) (by simp only [Act.put, List.setIfInBounds_toArray, List.set_cons_zero, List.set_cons_succ]; rfl) ?_
          refine gl_done (fun w1 hw1 => ?_)
          have rv := hw1.range HV.out
          have r0 := hw1.range R0.out
          have p2 := hw1.range H2.out
          have HE1 := Lib.hid (HX.out.trans hw1)
          clear ra hw1
          go_upto_region 3 with (fail)
          refine gl_begin (Ext.refl _) ?_
          refine gl_take (N := some 10) rfl (gy_row (by rfl) rfl (by rfl) (by with_reducible assumption) Tryd.underlying26 rfl (by first | exact vinfo _ | exact einfo _ | kernel_rfl)) (by simp only [Act.put, List.setIfInBounds_toArray, List.set_cons_zero, List.set_cons_succ]; rfl) ?_
          refine gl_take (N := some 11) rfl (Yields.gy (gy_pure (by rfl) (fun w_ => by go_simp; with_reducible rfl))) (by simp only [Act.put, List.setIfInBounds_toArray, List.set_cons_zero, List.set_cons_succ]; rfl) ?_
          refine gl_take (N := some 12) rfl (gy_row (by rfl) rfl (by rfl) (by with_reducible assumption) Tryd.underlying30 rfl (by first | exact vinfo _ | exact einfo _ | kernel_rfl)) (by simp only [Act.put, List.setIfInBounds_toArray, List.set_cons_zero, List.set_cons_succ]; rfl) ?_
          refine gl_take (N := some 13) rfl (gy_call (by rfl) rfl Tryd.func23 (by kernel_rfl) rfl #[_, _] (by rfl) (fun w _ => Knows_calls HK.out w)) (by simp only [Act.put, List.setIfInBounds_toArray, List.set_cons_zero, List.set_cons_succ]; rfl) ?_
          refine gl_take (N := some 9) rfl (Yields.gy (gy_pure (by rfl) (fun w_ => by go_simp; with_reducible rfl))) (by simp only [Act.put, List.setIfInBounds_toArray, List.set_cons_zero, List.set_cons_succ]; rfl) ?_
          refine gl_done (fun w2 hw2 => ?_)
          have sv := hw2.range rv
          have s0 := hw2.range r0
          have s2 := hw2.range p2
          have HE2 := Lib.hid (HE1.out.trans hw2)
          clear rv r0 p2 hw2
          go_upto_region 5 with (fail)
          refine gl_begin (Ext.refl _) ?_
          refine gl_take (N := some 15) rfl (gy_row (by rfl) rfl (by rfl) (by with_reducible assumption) Tryd.underlying26 rfl (by first | exact vinfo _ | exact einfo _ | kernel_rfl)) (by simp only [Act.put, List.setIfInBounds_toArray, List.set_cons_zero, List.set_cons_succ]; rfl) ?_
          refine gl_take (N := some 16) rfl (Yields.gy (gy_pure (by rfl) (fun w_ => by go_simp; with_reducible rfl))) (by simp only [Act.put, List.setIfInBounds_toArray, List.set_cons_zero, List.set_cons_succ]; rfl) ?_
          refine gl_take (N := some 17) rfl (gy_row (by rfl) rfl (by rfl) (by with_reducible assumption) Tryd.underlying30 rfl (by first | exact vinfo _ | exact einfo _ | kernel_rfl)) (by simp only [Act.put, List.setIfInBounds_toArray, List.set_cons_zero, List.set_cons_succ]; rfl) ?_
          refine gl_take (N := some 18) rfl (gy_call (by rfl) rfl Tryd.func25 (by kernel_rfl) rfl #[_, _] (by rfl) (fun w _ => Next_calls HN.out w)) (by simp only [Act.put, List.setIfInBounds_toArray, List.set_cons_zero, List.set_cons_succ]; rfl) ?_
          refine gl_take (N := some 19) rfl (Yields.gy (gy_pure (by rfl) (fun w_ => by go_simp; with_reducible rfl))) (by simp only [Act.put, List.setIfInBounds_toArray, List.set_cons_zero, List.set_cons_succ]; rfl) ?_
          refine gl_take (N := some 20) rfl (Yields.gy (gy_pure (by rfl) (fun w_ => by go_simp; with_reducible rfl))) (by simp only [Act.put, List.setIfInBounds_toArray, List.set_cons_zero, List.set_cons_succ]; rfl) ?_
          refine gl_take (N := some 21) rfl (Yields.gy (gy_pure (by rfl) (fun w_ => by go_simp; with_reducible rfl))) (by simp only [Act.put, List.setIfInBounds_toArray, List.set_cons_zero, List.set_cons_succ]; rfl) ?_
          refine gl_take (N := some 22) rfl (gy_row (by rfl) rfl (by rfl) (by with_reducible assumption) Tryd.underlying26 rfl (by first | exact vinfo _ | exact einfo _ | kernel_rfl)) (by simp only [Act.put, List.setIfInBounds_toArray, List.set_cons_zero, List.set_cons_succ]; rfl) ?_
          refine gl_take (N := some 23) rfl (gy_row (by rfl) rfl (by rfl) (by with_reducible assumption) Tryd.underlying26 rfl (by first | exact vinfo _ | exact einfo _ | kernel_rfl)) (by simp only [Act.put, List.setIfInBounds_toArray, List.set_cons_zero, List.set_cons_succ]; rfl) ?_
          refine gl_take (N := some 24) rfl (gy_call (by rfl) rfl Tryd.func26 (by kernel_rfl) rfl #[_, _] (by rfl) (fun w _ => Below_calls HBL.out w)) (by simp only [Act.put, List.setIfInBounds_toArray, List.set_cons_zero, List.set_cons_succ]; rfl) ?_
          refine gl_take (N := some 25) rfl (Yields.gy (gy_pure (by rfl) (fun w_ => by go_simp; with_reducible rfl))) (by simp only [Act.put, List.setIfInBounds_toArray, List.set_cons_zero, List.set_cons_succ]; rfl) ?_
          refine gl_take (N := some 26) rfl (Yields.gy (gy_pure (by rfl) (fun w_ => by go_simp; with_reducible rfl))) (by simp only [Act.put, List.setIfInBounds_toArray, List.set_cons_zero, List.set_cons_succ]; rfl) ?_
          refine gl_take (N := some 14) rfl (Yields.gy (gy_pure (by rfl) (fun w_ => by go_simp; with_reducible rfl))) (by simp only [Act.put, List.setIfInBounds_toArray, List.set_cons_zero, List.set_cons_succ]; rfl) ?_
          refine gl_done (fun w3 hw3 => ?_)
          clear sv s0 s2
          go_wp2
          go_ret
          exact ⟨ret_int (by rw [HD.out false HBL.out]; rfl), HE2.out.trans hw3⟩
        | true =>
          have HBL := Lib.hid hbl
          clear hbl
          go_enter Tryd.func14, Tryd.ntmps14
          go_upto_region 1 with (fail)
          rw [HW.out, HS.out]
          refine gl_begin (Ext.refl W0) ?_
          refine gl_take (N := some 6) rfl (gy_row (by rfl) rfl (by rfl) (by with_reducible assumption) Tryd.underlying36 rfl (by first | exact vinfo _ | exact einfo _ | kernel_rfl)) (by simp only [Act.put, List.setIfInBounds_toArray, List.set_cons_zero, List.set_cons_succ]; rfl) ?_
          refine gl_take (N := some 7) rfl (gy_call (by rfl) rfl Tryd.func24 (by kernel_rfl) rfl #[_] (by rfl) (fun w _ => ERight_b HSM.out H1.out w)) (by simp only [Act.put, List.setIfInBounds_toArray, List.set_cons_zero, List.set_cons_succ]; rfl) ?_
          refine gl_take (N := some 8) rfl (Yields.gy (gy_pure (by rfl) (fun w_ => by go_simp; with_reducible rfl))) (by simp only [Act.put, List.setIfInBounds_toArray, List.set_cons_zero, List.set_cons_succ]; rfl) ?_
          refine gl_take (N := some 5) rfl (Yields.gy (gy_pure (by rfl) (fun w_ => by go_simp; with_reducible rfl))) (by simp only [Act.put, List.setIfInBounds_toArray, List.set_cons_zero, List.set_cons_succ]; rfl) ?_
          refine gl_done (fun w1 hw1 => ?_)
          have rv := hw1.range HV.out
          have r0 := hw1.range R0.out
          have p2 := hw1.range H2.out
          have HE1 := Lib.hid (HX.out.trans hw1)
          clear ra hw1
          go_upto_region 3 with (fail)
          refine gl_begin (Ext.refl _) ?_
          refine gl_take (N := some 10) rfl (gy_row (by rfl) rfl (by rfl) (by with_reducible assumption) Tryd.underlying26 rfl (by first | exact vinfo _ | exact einfo _ | kernel_rfl)) (by simp only [Act.put, List.setIfInBounds_toArray, List.set_cons_zero, List.set_cons_succ]; rfl) ?_
          refine gl_take (N := some 11) rfl (Yields.gy (gy_pure (by rfl) (fun w_ => by go_simp; with_reducible rfl))) (by simp only [Act.put, List.setIfInBounds_toArray, List.set_cons_zero, List.set_cons_succ]; rfl) ?_
          refine gl_take (N := some 12) rfl (gy_row (by rfl) rfl (by rfl) (by with_reducible assumption) Tryd.underlying30 rfl (by first | exact vinfo _ | exact einfo _ | kernel_rfl)) (by simp only [Act.put, List.setIfInBounds_toArray, List.set_cons_zero, List.set_cons_succ]; rfl) ?_
          refine gl_take (N := some 13) rfl (gy_call (by rfl) rfl Tryd.func23 (by kernel_rfl) rfl #[_, _] (by rfl) (fun w _ => Knows_calls HK.out w)) (by simp only [Act.put, List.setIfInBounds_toArray, List.set_cons_zero, List.set_cons_succ]; rfl) ?_
          refine gl_take (N := some 9) rfl (Yields.gy (gy_pure (by rfl) (fun w_ => by go_simp; with_reducible rfl))) (by simp only [Act.put, List.setIfInBounds_toArray, List.set_cons_zero, List.set_cons_succ]; rfl) ?_
          refine gl_done (fun w2 hw2 => ?_)
          have sv := hw2.range rv
          have s0 := hw2.range r0
          have s2 := hw2.range p2
          have HE2 := Lib.hid (HE1.out.trans hw2)
          clear rv r0 p2 hw2
          go_upto_region 5 with (fail)
          refine gl_begin (Ext.refl _) ?_
          refine gl_take (N := some 15) rfl (gy_row (by rfl) rfl (by rfl) (by with_reducible assumption) Tryd.underlying26 rfl (by first | exact vinfo _ | exact einfo _ | kernel_rfl)) (by simp only [Act.put, List.setIfInBounds_toArray, List.set_cons_zero, List.set_cons_succ]; rfl) ?_
          refine gl_take (N := some 16) rfl (Yields.gy (gy_pure (by rfl) (fun w_ => by go_simp; with_reducible rfl))) (by simp only [Act.put, List.setIfInBounds_toArray, List.set_cons_zero, List.set_cons_succ]; rfl) ?_
          refine gl_take (N := some 17) rfl (gy_row (by rfl) rfl (by rfl) (by with_reducible assumption) Tryd.underlying30 rfl (by first | exact vinfo _ | exact einfo _ | kernel_rfl)) (by simp only [Act.put, List.setIfInBounds_toArray, List.set_cons_zero, List.set_cons_succ]; rfl) ?_
          refine gl_take (N := some 18) rfl (gy_call (by rfl) rfl Tryd.func25 (by kernel_rfl) rfl #[_, _] (by rfl) (fun w _ => Next_calls HN.out w)) (by simp only [Act.put, List.setIfInBounds_toArray, List.set_cons_zero, List.set_cons_succ]; rfl) ?_
          refine gl_take (N := some 19) rfl (Yields.gy (gy_pure (by rfl) (fun w_ => by go_simp; with_reducible rfl))) (by simp only [Act.put, List.setIfInBounds_toArray, List.set_cons_zero, List.set_cons_succ]; rfl) ?_
          refine gl_take (N := some 20) rfl (Yields.gy (gy_pure (by rfl) (fun w_ => by go_simp; with_reducible rfl))) (by simp only [Act.put, List.setIfInBounds_toArray, List.set_cons_zero, List.set_cons_succ]; rfl) ?_
          refine gl_take (N := some 21) rfl (Yields.gy (gy_pure (by rfl) (fun w_ => by go_simp; with_reducible rfl))) (by simp only [Act.put, List.setIfInBounds_toArray, List.set_cons_zero, List.set_cons_succ]; rfl) ?_
          refine gl_take (N := some 22) rfl (gy_row (by rfl) rfl (by rfl) (by with_reducible assumption) Tryd.underlying26 rfl (by first | exact vinfo _ | exact einfo _ | kernel_rfl)) (by simp only [Act.put, List.setIfInBounds_toArray, List.set_cons_zero, List.set_cons_succ]; rfl) ?_
          refine gl_take (N := some 23) rfl (gy_row (by rfl) rfl (by rfl) (by with_reducible assumption) Tryd.underlying26 rfl (by first | exact vinfo _ | exact einfo _ | kernel_rfl)) (by simp only [Act.put, List.setIfInBounds_toArray, List.set_cons_zero, List.set_cons_succ]; rfl) ?_
          refine gl_take (N := some 24) rfl (gy_call (by rfl) rfl Tryd.func26 (by kernel_rfl) rfl #[_, _] (by rfl) (fun w _ => Below_calls HBL.out w)) (by simp only [Act.put, List.setIfInBounds_toArray, List.set_cons_zero, List.set_cons_succ]; rfl) ?_
          refine gl_take (N := some 25) rfl (Yields.gy (gy_pure (by rfl) (fun w_ => by go_simp; with_reducible rfl))) (by simp only [Act.put, List.setIfInBounds_toArray, List.set_cons_zero, List.set_cons_succ]; rfl) ?_
          refine gl_take (N := some 26) rfl (Yields.gy (gy_pure (by rfl) (fun w_ => by go_simp; with_reducible rfl))) (by simp only [Act.put, List.setIfInBounds_toArray, List.set_cons_zero, List.set_cons_succ]; rfl) ?_
          refine gl_take (N := some 14) rfl (Yields.gy (gy_pure (by rfl) (fun w_ => by go_simp; with_reducible rfl))) (by simp only [Act.put, List.setIfInBounds_toArray, List.set_cons_zero, List.set_cons_succ]; rfl) ?_
          refine gl_done (fun w3 hw3 => ?_)
          clear sv s0 s2
          go_wp2
          go_ret
          exact ⟨ret_int (by rw [HD.out true HBL.out]; rfl), HE2.out.trans hw3⟩
theorem lit_reads (W : World) (e : TypeId) (xs : List Int) (h : xs.length ≤ 9223372036854775807) : Kd.C (Kd.int .i64) (W.alloc (.cells (nums .i64 xs).toArray e)) (some ⟨W.heap.size, 0, none⟩) xs.length xs :=
  Kd.C_of_reads (d := (0 : Int)) (h1 := fun _ => rfl) (own_reads' (own_lit W 0 e .i64 xs (Nat.zero_le _) h))
def pastB (e f : Ev) : Int := orI [cmpI (sumV e.past) (sumV f.past), cmpI e.rep f.rep, cmpI e.cnt f.cnt]
theorem Cmp_c (a b : Int) (w : World) : Calls Tryd.prog 30 #[.int .i64 a, .int .i64 b] w fun r w' => r = .returned (.int .i64 (cmpI a b)) ∧ Ext w w' :=
  (cmp_Compare_int.calls a b (cmpI a b) w (cmpint_is a b)).mono fun r w' ⟨h, hd⟩ => ⟨h, hd.below⟩
theorem Or_c (A : Option Addr) (x y z : Int) (w : World) (hC : Kd.C (Kd.int .i64) w A 3 [x, y, z]) : Calls Tryd.prog 29 #[.slice A 3 3] w fun r w' => r = .returned (.int .i64 (orI [x, y, z])) ∧ Ext w w' :=
  (cmp_Or_int.calls 4 A 3 [x, y, z] (orI [x, y, z]) w hC (Nat.le_refl 3) (or_is [x, y, z] (by simp) 4 (by simp))).mono fun r w' ⟨h, hd⟩ => ⟨h, hd.below⟩
set_option maxHeartbeats 2000000 in
theorem byPast_calls (e f : Ev) (w : World) : Calls Tryd.prog 19 #[evval e, evval f] w fun r w' => r = .returned (.int .i64 (pastB e f)) ∧ Ext w w' := by
  obtain ⟨W0, b0, hW, hb0, hx, he, hf⟩ := boxes_ee w e f
  have e2 := he.past
  have f2 := hf.past
  have e0 := he.rep
  have f0 := hf.rep
  have e1 := he.cnt
  have f1 := hf.cnt
  rw [Nat.zero_add] at e2 f2 e1 f1
  have HX := Lib.hid hx
  have HW := Lib.hid hW
  have HS := Lib.hid hb0
  have HPB : Hid (pastB e f = orI [cmpI (sumV e.past) (sumV f.past), cmpI e.rep f.rep, cmpI e.cnt f.cnt]) := Lib.hid rfl
  clear hx hW hb0 he hf
  unfold evval
  go_enter Tryd.func19, Tryd.ntmps19
  go_upto_region 1 with (fail)
  rw [HW.out, HS.out]
  refine g_begin (by kernel_rfl) (Ext.refl W0) (List.toArray (false :: false :: false :: false :: false :: false :: false :: false :: false :: false :: false :: false :: false :: false :: false :: false :: false :: false :: false :: false :: false :: false :: false :: false :: [])) 24 rfl rfl ?_
  refine g_take 0 (List.toArray (true :: false :: false :: false :: false :: false :: false :: false :: false :: false :: false :: false :: false :: false :: false :: false :: false :: false :: false :: false :: false :: false :: false :: false :: [])) (N := some 5) rfl rfl (by kernel_rfl) (fun _ _ _ h => h) (GP.p (gy_pure (by rfl) (fun w_ => by go_simp; with_reducible rfl))) (by simp only [Act.put, List.setIfInBounds_toArray, List.set_cons_zero, List.set_cons_succ]; rfl) ?_
  refine g_take 1 (List.toArray (true :: true :: false :: false :: false :: false :: false :: false :: false :: false :: false :: false :: false :: false :: false :: false :: false :: false :: false :: false :: false :: false :: false :: false :: [])) (N := some 6) rfl rfl (by kernel_rfl) (fun _ _ _ h => h) (GP.rd (by rfl) (gy_row (by rfl) rfl (by rfl) (by with_reducible assumption) Tryd.underlying26 rfl (by first | exact vinfo _ | exact einfo _ | kernel_rfl))) (by simp only [Act.put, List.setIfInBounds_toArray, List.set_cons_zero, List.set_cons_succ]; rfl) ?_
  refine g_take 2 (List.toArray (true :: true :: true :: false :: false :: false :: false :: false :: false :: false :: false :: false :: false :: false :: false :: false :: false :: false :: false :: false :: false :: false :: false :: false :: [])) (N := some 7) rfl rfl (by kernel_rfl) (fun _ _ _ h => h) (GP.rd (by rfl) (gy_call (by rfl) rfl Tryd.func31 (by kernel_rfl) rfl #[_] (by rfl) (fun w _ => Sum_calls _ w))) (by simp only [Act.put, List.setIfInBounds_toArray, List.set_cons_zero, List.set_cons_succ]; rfl) ?_
  refine g_take 3 (List.toArray (true :: true :: true :: true :: false :: false :: false :: false :: false :: false :: false :: false :: false :: false :: false :: false :: false :: false :: false :: false :: false :: false :: false :: false :: [])) (N := some 8) rfl rfl (by kernel_rfl) (fun _ _ _ h => h) (GP.p (gy_pure (by rfl) (fun w_ => by go_simp; with_reducible rfl))) (by simp only [Act.put, List.setIfInBounds_toArray, List.set_cons_zero, List.set_cons_succ]; rfl) ?_
  refine g_take 4 (List.toArray (true :: true :: true :: true :: true :: false :: false :: false :: false :: false :: false :: false :: false :: false :: false :: false :: false :: false :: false :: false :: false :: false :: false :: false :: [])) (N := some 9) rfl rfl (by kernel_rfl) (fun _ _ _ h => h) (GP.rd (by rfl) (gy_row (by rfl) rfl (by rfl) (by with_reducible assumption) Tryd.underlying26 rfl (by first | exact vinfo _ | exact einfo _ | kernel_rfl))) (by simp only [Act.put, List.setIfInBounds_toArray, List.set_cons_zero, List.set_cons_succ]; rfl) ?_
  refine g_take 5 (List.toArray (true :: true :: true :: true :: true :: true :: false :: false :: false :: false :: false :: false :: false :: false :: false :: false :: false :: false :: false :: false :: false :: false :: false :: false :: [])) (N := some 10) rfl rfl (by kernel_rfl) (fun _ _ _ h => h) (GP.rd (by rfl) (gy_call (by rfl) rfl Tryd.func31 (by kernel_rfl) rfl #[_] (by rfl) (fun w _ => Sum_calls _ w))) (by simp only [Act.put, List.setIfInBounds_toArray, List.set_cons_zero, List.set_cons_succ]; rfl) ?_
  refine g_take 6 (List.toArray (true :: true :: true :: true :: true :: true :: true :: false :: false :: false :: false :: false :: false :: false :: false :: false :: false :: false :: false :: false :: false :: false :: false :: false :: [])) (N := some 11) rfl rfl (by kernel_rfl) (fun _ _ _ h => h) (GP.rd (by rfl) (gy_call (by rfl) rfl Tryd.func30 (by kernel_rfl) rfl #[_, _] (by rfl) (fun w _ => Cmp_c _ _ w))) (by simp only [Act.put, List.setIfInBounds_toArray, List.set_cons_zero, List.set_cons_succ]; rfl) ?_
  refine g_take 7 (List.toArray (true :: true :: true :: true :: true :: true :: true :: true :: false :: false :: false :: false :: false :: false :: false :: false :: false :: false :: false :: false :: false :: false :: false :: false :: [])) (N := some 12) rfl rfl (by kernel_rfl) (fun _ _ _ h => h) (GP.p (gy_pure (by rfl) (fun w_ => by go_simp; with_reducible rfl))) (by simp only [Act.put, List.setIfInBounds_toArray, List.set_cons_zero, List.set_cons_succ]; rfl) ?_
  refine g_take 8 (List.toArray (true :: true :: true :: true :: true :: true :: true :: true :: true :: false :: false :: false :: false :: false :: false :: false :: false :: false :: false :: false :: false :: false :: false :: false :: [])) (N := some 13) rfl rfl (by kernel_rfl) (fun _ _ _ h => h) (GP.p (gy_pure (by rfl) (fun w_ => by go_simp; with_reducible rfl))) (by simp only [Act.put, List.setIfInBounds_toArray, List.set_cons_zero, List.set_cons_succ]; rfl) ?_
  refine g_take 9 (List.toArray (true :: true :: true :: true :: true :: true :: true :: true :: true :: true :: false :: false :: false :: false :: false :: false :: false :: false :: false :: false :: false :: false :: false :: false :: [])) (N := some 14) rfl rfl (by kernel_rfl) (fun _ _ _ h => h) (GP.rd (by rfl) (gy_load1 (by rfl) rfl (by rfl) Tryd.isAgg3 (by with_reducible assumption))) (by simp only [Act.put, List.setIfInBounds_toArray, List.set_cons_zero, List.set_cons_succ]; rfl) ?_
  refine g_take 10 (List.toArray (true :: true :: true :: true :: true :: true :: true :: true :: true :: true :: true :: false :: false :: false :: false :: false :: false :: false :: false :: false :: false :: false :: false :: false :: [])) (N := some 15) rfl rfl (by kernel_rfl) (fun _ _ _ h => h) (GP.p (gy_pure (by rfl) (fun w_ => by go_simp; with_reducible rfl))) (by simp only [Act.put, List.setIfInBounds_toArray, List.set_cons_zero, List.set_cons_succ]; rfl) ?_
  refine g_take 11 (List.toArray (true :: true :: true :: true :: true :: true :: true :: true :: true :: true :: true :: true :: false :: false :: false :: false :: false :: false :: false :: false :: false :: false :: false :: false :: [])) (N := some 16) rfl rfl (by kernel_rfl) (fun _ _ _ h => h) (GP.p (gy_pure (by rfl) (fun w_ => by go_simp; with_reducible rfl))) (by simp only [Act.put, List.setIfInBounds_toArray, List.set_cons_zero, List.set_cons_succ]; rfl) ?_
  refine g_take 12 (List.toArray (true :: true :: true :: true :: true :: true :: true :: true :: true :: true :: true :: true :: true :: false :: false :: false :: false :: false :: false :: false :: false :: false :: false :: false :: [])) (N := some 17) rfl rfl (by kernel_rfl) (fun _ _ _ h => h) (GP.rd (by rfl) (gy_load1 (by rfl) rfl (by rfl) Tryd.isAgg3 (by with_reducible assumption))) (by simp only [Act.put, List.setIfInBounds_toArray, List.set_cons_zero, List.set_cons_succ]; rfl) ?_
  refine g_take 13 (List.toArray (true :: true :: true :: true :: true :: true :: true :: true :: true :: true :: true :: true :: true :: true :: false :: false :: false :: false :: false :: false :: false :: false :: false :: false :: [])) (N := some 18) rfl rfl (by kernel_rfl) (fun _ _ _ h => h) (GP.rd (by rfl) (gy_call (by rfl) rfl Tryd.func30 (by kernel_rfl) rfl #[_, _] (by rfl) (fun w _ => Cmp_c _ _ w))) (by simp only [Act.put, List.setIfInBounds_toArray, List.set_cons_zero, List.set_cons_succ]; rfl) ?_
  refine g_take 14 (List.toArray (true :: true :: true :: true :: true :: true :: true :: true :: true :: true :: true :: true :: true :: true :: true :: false :: false :: false :: false :: false :: false :: false :: false :: false :: [])) (N := some 19) rfl rfl (by kernel_rfl) (fun _ _ _ h => h) (GP.p (gy_pure (by rfl) (fun w_ => by go_simp; with_reducible rfl))) (by simp only [Act.put, List.setIfInBounds_toArray, List.set_cons_zero, List.set_cons_succ]; rfl) ?_
  refine g_take 15 (List.toArray (true :: true :: true :: true :: true :: true :: true :: true :: true :: true :: true :: true :: true :: true :: true :: true :: false :: false :: false :: false :: false :: false :: false :: false :: [])) (N := some 20) rfl rfl (by kernel_rfl) (fun _ _ _ h => h) (GP.p (gy_pure (by rfl) (fun w_ => by go_simp; with_reducible rfl))) (by simp only [Act.put, List.setIfInBounds_toArray, List.set_cons_zero, List.set_cons_succ]; rfl) ?_
  refine g_take 16 (List.toArray (true :: true :: true :: true :: true :: true :: true :: true :: true :: true :: true :: true :: true :: true :: true :: true :: true :: false :: false :: false :: false :: false :: false :: false :: [])) (N := some 21) rfl rfl (by kernel_rfl) (fun _ _ _ h => h) (GP.rd (by rfl) (gy_load1 (by rfl) rfl (by rfl) Tryd.isAgg3 (by with_reducible assumption))) (by simp only [Act.put, List.setIfInBounds_toArray, List.set_cons_zero, List.set_cons_succ]; rfl) ?_
  refine g_take 17 (List.toArray (true :: true :: true :: true :: true :: true :: true :: true :: true :: true :: true :: true :: true :: true :: true :: true :: true :: true :: false :: false :: false :: false :: false :: false :: [])) (N := some 22) rfl rfl (by kernel_rfl) (fun _ _ _ h => h) (GP.p (gy_pure (by rfl) (fun w_ => by go_simp; with_reducible rfl))) (by simp only [Act.put, List.setIfInBounds_toArray, List.set_cons_zero, List.set_cons_succ]; rfl) ?_
  refine g_take 18 (List.toArray (true :: true :: true :: true :: true :: true :: true :: true :: true :: true :: true :: true :: true :: true :: true :: true :: true :: true :: true :: false :: false :: false :: false :: false :: [])) (N := some 23) rfl rfl (by kernel_rfl) (fun _ _ _ h => h) (GP.p (gy_pure (by rfl) (fun w_ => by go_simp; with_reducible rfl))) (by simp only [Act.put, List.setIfInBounds_toArray, List.set_cons_zero, List.set_cons_succ]; rfl) ?_
  refine g_take 19 (List.toArray (true :: true :: true :: true :: true :: true :: true :: true :: true :: true :: true :: true :: true :: true :: true :: true :: true :: true :: true :: true :: false :: false :: false :: false :: [])) (N := some 24) rfl rfl (by kernel_rfl) (fun _ _ _ h => h) (GP.rd (by rfl) (gy_load1 (by rfl) rfl (by rfl) Tryd.isAgg3 (by with_reducible assumption))) (by simp only [Act.put, List.setIfInBounds_toArray, List.set_cons_zero, List.set_cons_succ]; rfl) ?_
  refine g_take 20 (List.toArray (true :: true :: true :: true :: true :: true :: true :: true :: true :: true :: true :: true :: true :: true :: true :: true :: true :: true :: true :: true :: true :: false :: false :: false :: [])) (N := some 25) rfl rfl (by kernel_rfl) (fun _ _ _ h => h) (GP.rd (by rfl) (gy_call (by rfl) rfl Tryd.func30 (by kernel_rfl) rfl #[_, _] (by rfl) (fun w _ => Cmp_c _ _ w))) (by simp only [Act.put, List.setIfInBounds_toArray, List.set_cons_zero, List.set_cons_succ]; rfl) ?_
  refine g_one 21 (List.toArray (true :: true :: true :: true :: true :: true :: true :: true :: true :: true :: true :: true :: true :: true :: true :: true :: true :: true :: true :: true :: true :: true :: false :: false :: [])) rfl (by kernel_rfl) (fun w2 hw2 => ?_)
  have HE2 := Lib.hid (HX.out.trans hw2)
  clear hw2 e0 e1 e2 f0 f1 f2
  rw [if_pos (by rfl)]
  refine wp_value (w1 := ?_) (v := ?_) ?_ ?_
  rotate_left 2
  · go_simp
    first | rfl | (constructor <;> rfl)
  refine ⟨(Ext.refl _).alloc _, ?_⟩
  have HC := Lib.hid (lit_reads w2 3 [cmpI (sumV e.past) (sumV f.past), cmpI e.rep f.rep, cmpI e.cnt f.cnt] (by simp))
  have HE3 := Lib.hid (HE2.out.alloc (.cells #[.int .i64 (cmpI (sumV e.past) (sumV f.past)), .int .i64 (cmpI e.rep f.rep), .int .i64 (cmpI e.cnt f.cnt)] 3))
  generalize cmpI (sumV e.past) (sumV f.past) = x at *
  generalize cmpI e.rep f.rep = y at *
  generalize cmpI e.cnt f.cnt = z at *
  refine Good.norm (by show Act.put _ (some 26) _ = _; simp only [Act.put, List.setIfInBounds_toArray, List.set_cons_zero, List.set_cons_succ]; rfl) ?_
  refine g_take 22 (List.toArray (true :: true :: true :: true :: true :: true :: true :: true :: true :: true :: true :: true :: true :: true :: true :: true :: true :: true :: true :: true :: true :: true :: true :: false :: [])) (N := some 27) rfl rfl (by kernel_rfl) (fun _ _ _ h => h) (GP.rd (by rfl) (gy_call (by rfl) rfl Tryd.func29 (by kernel_rfl) rfl #[_] (by rfl) (fun w hw => Or_c _ x y z w (Kd.C_below HC.out hw)))) (by simp only [Act.put, List.setIfInBounds_toArray, List.set_cons_zero, List.set_cons_succ]; rfl) ?_
  refine g_take 23 (List.toArray (true :: true :: true :: true :: true :: true :: true :: true :: true :: true :: true :: true :: true :: true :: true :: true :: true :: true :: true :: true :: true :: true :: true :: true :: [])) (N := some 4) rfl rfl (by kernel_rfl) (fun _ _ _ h => h) (GP.p (gy_pure (by rfl) (fun w_ => by go_simp; with_reducible rfl))) (by simp only [Act.put, List.setIfInBounds_toArray, List.set_cons_zero, List.set_cons_succ]; rfl) ?_
  refine g_done (by kernel_rfl) (fun w1 hw1 => ?_)
  go_wp2
  go_ret
  exact ⟨ret_int (by rw [HPB.out]), HE3.out.trans hw1⟩
end Go.Proofs.YthmnohecmmknpaaDoor.Vec
namespace Go.Proofs.YthmnohecmmknpaaDoor.Vec
open Go.RowKit Go.Proofs.YthmnohecmmknpaaDoorW.PrintWords Go.Proofs.YthmnohecmmknpaaDoorW.PrintLast Go.Proofs.YthmnohecmmknpaaDoor.Given Go.Proofs.YthmnohecmmknpaaDoor.PA Go.Proofs.YthmnohecmmknpaaDoor.Val
set_option linter.unusedVariables false
set_option linter.unusedSimpArgs false
set_option maxRecDepth 100000
def allG (v : Vc) (out : List Ev) : List Ev → List Ev × Vc × Int
  | [] => (out, v, 0)
  | e :: r => if oneE v e = 0 then allG (addV v e.rep e.cnt) (out ++ [e]) r else if oneE v e = 5 then allG v out r else (out, v, oneE v e)
theorem blk_lt {w : World} {g : Nat} {o : Obj} (h : w.heap[g]? = some o) : g < w.heap.size := (Array.getElem?_eq_some_iff.1 h).1
theorem R_keep {w w' : World} {base b t : Nat} {ok : Nat → Prop} {sv : Value} {xs : List Ev} {cs : Array Value} (h : Kd.R kEv 36 w base ok sv xs) (hb : w.heap[b]? = some (.cells cs t (0, 0))) (ht : t ≠ 36) (hm : ∀ k, k ≠ b → k < w.heap.size → w'.heap[k]? = w.heap[k]?) : Kd.R kEv 36 w' base ok sv xs := by
  refine Kd.R_mono (Kd.R_move (Kd.R_bound h) (fun k hk => ?_)) (fun _ hk => hk.1)
  obtain ⟨_, _, hlt, q, hq, cells, hc⟩ := hk
  refine hm k ?_ hlt
  rintro rfl
  rw [hb] at hc
  injection hc with hc
  injection hc with _ hc _
  have : q = 36 := by simpa [kEv, Kd.plain] using hq
  exact ht (hc.trans this)
theorem R_ext {w w' : World} {base : Nat} {ok : Nat → Prop} {sv : Value} {xs : List Ev} (h : Kd.R kEv 36 w base ok sv xs) (hx : Ext w w') : Kd.R kEv 36 w' base ok sv xs := Kd.R_below h hx
theorem results_tct {P : Program} {fn : Func} {p q r : Tmp} {ty : TypeId} (h : fn.results = #[.tmp q, .cell p ty, .tmp r]) (tmps : Array Value) (w : World) (g : Nat) (t : TypeId) (cs : Array Value) (fr : Nat × Nat) (d : TypeDesc) (x y : Value)
    (hq : tmps.getD q undef = x) (hr : tmps.getD r undef = y) (hp : tmps.getD p undef = .pointer (some ⟨g, 0, none⟩)) (hg : w.heap[g]? = some (.cells cs t fr))
    (hu : P.underlying ty = some d) (hd : (match d with | .struct _ | .array _ _ => true | _ => false) = true) (hi : (P.info? ty).map (·.size) = some cs.size) :
    (results fn tmps).run P w = .ok (.tuple #[x, .agg cs, y]) w := by
  have hp' : tmps[p]?.getD undef = .pointer (some ⟨g, 0, none⟩) := by simpa using hp
  have hq' : tmps[q]?.getD undef = x := by simpa using hq
  have hr' : tmps[r]?.getD undef = y := by simpa using hr
  simp [results, h, hp', hq', hr', asAddr, run_loadVar_row w g t ty cs fr d hg hu hd hi]
theorem infoEv : (Tryd.prog.info? 36).map (fun i => (i.zero, i.size, i.bytes)) = some (some (.agg (ecells evz).toArray), 27, 256) := by kernel_rfl
theorem ev_cells (e : Ev) : (evval e).cells = (ecells e).toArray := rfl
theorem flat_cells (l : List Ev) : ((l.map evval).flatMap fun v => v.cells.toList) = l.flatMap ecells := by
  rw [List.flatMap_map]
  rfl
theorem flat_len (l : List Ev) : (l.flatMap ecells).length = l.length * 27 := by
  induction l with
  | nil => rfl
  | cons e l ih => rw [List.flatMap_cons, List.length_append, ih, ecells_len, List.length_cons]; omega
theorem run_lit (l : List Ev) (h1 : 1 ≤ l.length) (h2 : l.length ≤ 1000) (parts : Array (Nat × Value)) (hp : parts.toList = ((l.map evval).zipIdx 0).map fun x => (x.2, x.1)) (w : World) :
    (Instr.buildSlice 22 l.length parts).run Tryd.prog w = .ok (.slice (some ⟨w.heap.size, 0, none⟩) l.length l.length) (w.alloc (.cells (l.flatMap ecells).toArray 36)) := by
  have hi := infoEv
  cases hie : Tryd.prog.info? 36 with
  | none => rw [hie] at hi; cases hi
  | some ie =>
    rw [hie] at hi
    simp only [Option.map_some, Option.some.injEq, Prod.mk.injEq] at hi
    obtain ⟨hz, hs, _⟩ := hi
    refine run_buildSlice w _ 36 l.length parts _ ie _ Tryd.underlying22 hie hz (by rw [hs]; omega) (by rw [hs]; omega) ?_
    rw [hp, hs, Great.fill_whole (by decide) (l.map evval) _ (fun v hv => ?_) (by simp), flat_cells]
    obtain ⟨e, _, rfl⟩ := List.mem_map.1 hv
    rw [ev_cells, List.size_toArray, ecells_len]
theorem wpl_append {ops : Array Oper} {Q : Exit → Act → World → Prop} {o1 o2 : Oper} {rest : List Oper} {a : Act} {w : World} {e : Ev} {base : Nat} {sv : Value} {xs : List Ev} {x y s : Operand} {N M : Tmp}
    (h1 : o1.op = .buildSlice 22 1 #[(0, x)]) (hN : o1.dst = some N) (hg1 : o1.guard = none) (hx : a.eval x = .agg (ecells e).toArray)
    (h2 : o2.op = .call { callee := .builtin .append, args := #[s, y], argTypes := #[22, 22] }) (hM : o2.dst = some M) (hg2 : o2.guard = none)
    (hs : (a.put (some N) (.slice (some ⟨w.heap.size, 0, none⟩) 1 1)).eval s = sv) (hy : (a.put (some N) (.slice (some ⟨w.heap.size, 0, none⟩) 1 1)).eval y = .slice (some ⟨w.heap.size, 0, none⟩) 1 1)
    (hbase : base ≤ w.heap.size) (hR : Kd.R kEv 36 w base (fun _ => True) sv xs) (hl : (xs.length + 1) * 256 ≤ 140737488355328)
    (h : ∀ v1 w1, Kd.R kEv 36 w1 base (fun _ => True) v1 (xs ++ [e]) → w.grownBy w1 sv.ownBlock → (∀ k, sv.ownBlock = some k → base ≤ k) → wpList Tryd.prog ops Q rest ((a.put (some N) (.slice (some ⟨w.heap.size, 0, none⟩) 1 1)).put (some M) v1) w1) : wpList Tryd.prog ops Q (o1 :: o2 :: rest) a w := by
  have hrun : (execOp a.eval o1).run Tryd.prog w = .ok (.value (.slice (some ⟨w.heap.size, 0, none⟩) 1 1)) (w.alloc (.cells (ecells e).toArray 36)) := by
    have h := run_lit [e] (by simp) (by simp) #[(0, evval e)] rfl w
    simp only [List.length_cons, List.length_nil, Nat.zero_add, List.flatMap_cons, List.flatMap_nil, List.append_nil] at h
    unfold execOp
    simp only [h1, List.map_toArray, List.map_cons, List.map_nil, hx, Sem.run_bind]
    rw [show (Value.agg (ecells e).toArray) = evval e from rfl, h]
    rfl
  refine wpList_plain hg1 fun K hK => wp_value hrun (hK _ _ ?_)
  rw [hN]
  refine Kd.R_append kEv (w0 := w) base hg2 s y 22 36 (.agg (ecells evz).toArray) 256 h2 Tryd.underlying22 infoEv (ecells_len evz) (by decide) (by decide) sv xs e (ecells e) (fun _ => True) (fun _ => False) hs hy rfl (fun _ hk => hk.elim) (fun _ _ => trivial) hR (Below.refl _ _) hbase hl ?_
  intro v1 w1 h1 h2 h3 h4
  rw [hM]
  refine h v1 w1 h1 h3 ?_
  intro k hk
  obtain ⟨inner, ho⟩ := Kd.R_own hR
  exact own_base ho k hk
theorem boxes_vz (w : World) (v : Vc) : ∃ W0 b0, ((w.alloc (.cells (vcells v).toArray 26)).alloc (.cells (vcells Vc.zero).toArray 26)) = W0 ∧ w.heap.size = b0 ∧ Ext w W0 ∧
    W0.heap[b0]? = some (.cells (vcells v).toArray 26 (0, 0)) ∧ W0.heap[b0 + 1]? = some (.cells (vcells Vc.zero).toArray 26 (0, 0)) := by
  refine ⟨_, _, rfl, rfl, ((Ext.refl w).alloc _).alloc _, blk_alloc (blk_new _ _) _, ?_⟩
  have := blk_new (w.alloc (.cells (vcells v).toArray 26)) (.cells (vcells Vc.zero).toArray 26)
  simpa using this
theorem drop_at {α : Type} {l : List α} {i : Nat} {x : α} (h : l[i]? = some x) : l.drop i = x :: l.drop (i + 1) := by
  obtain ⟨hlt, rfl⟩ := List.getElem?_eq_some_iff.1 h
  exact List.drop_eq_getElem_cons hlt
theorem allG_len : ∀ (l : List Ev) (v : Vc) (out : List Ev), (allG v out l).1.length ≤ out.length + l.length
  | [], v, out => Nat.le_refl _
  | e :: r, v, out => by
    unfold allG
    split
    · have := allG_len r (addV v e.rep e.cnt) (out ++ [e])
      simp only [List.length_append, List.length_cons, List.length_nil] at this ⊢
      omega
    · split
      · have := allG_len r v out
        simp only [List.length_cons]
        omega
      · simp
def AllPost (w : World) (res : List Ev × Vc × Int) (r : Ending) (w' : World) : Prop := ∃ sv, r = .returned (.tuple #[sv, vval res.2.1, .int .i64 res.2.2]) ∧ Kd.R kEv 36 w' w.heap.size (fun _ => True) sv res.1 ∧ Ext w w'
theorem R_lt {w : World} {base : Nat} {ok : Nat → Prop} {sv : Value} {xs : List Ev} (h : Kd.R kEv 36 w base ok sv xs) {k : Nat} (hk : sv.ownBlock = some k) : base ≤ k ∧ k < w.heap.size := by
  obtain ⟨inner, ho⟩ := Kd.R_own h
  exact ⟨own_base ho k hk, own_lt ho k hk⟩
set_option maxHeartbeats 4000000 in
theorem All_calls (v : Vc) {l : List Ev} {A : Option Addr} {c : Nat} (w : World) (hC : Kd.C kEv w A l.length l) (hl : l.length ≤ 1000) (hin : ∀ e ∈ l, EvSm e) :
    Calls Tryd.prog 11 #[vval v, .slice A l.length c] w (AllPost w (allG v [] l)) := by
  obtain ⟨W0, b0, hW, hb0, hx, h0, h1⟩ := boxes_vz w v
  rw [zcells_v] at hW
  have HC := Lib.hid hC
  have HL := Lib.hid hl
  have HIN := Lib.hid hin
  have HX := Lib.hid hx
  have HW := Lib.hid hW
  have HS := Lib.hid hb0
  have H0 := Lib.hid h0
  have H1 := Lib.hid h1
  have HB : Hid (w.heap.size = b0) := Lib.hid hb0
  obtain ⟨res, hres⟩ : ∃ r, allG v [] l = r := ⟨_, rfl⟩
  rw [hres]
  have HR := Lib.hid hres
  clear hC hl hin hx hW hb0 h0 h1 hres
  unfold vval
  go_enter Tryd.func11, Tryd.ntmps11
  go_upto_region 1 with (fail)
  rw [HW.out, HS.out]
  go_wp2
  go_loopg [7, 13] l.length (fun k v7 v13 wr => ∃ (i : Nat) (vi : Vc) (out : List Ev) (sv : Value), v13 = .int .i64 (i : Int) ∧ sv = v7 ∧ Hid (i ≤ l.length) ∧ Hid (l.length ≤ i + k) ∧ Hid (Kd.R kEv 36 wr w.heap.size (fun _ => True) sv out) ∧ Hid (out.length ≤ i) ∧ Hid (wr.heap[b0]? = some (.cells (vcells vi).toArray 26 (0, 0))) ∧
    Hid (wr.heap[b0 + 1]? = some (.cells (vcells Vc.zero).toArray 26 (0, 0))) ∧ Hid (Ext w wr) ∧ Hid (allG vi out (l.drop i) = res))
  case atStart => exact ⟨0, v, [], _, rfl, rfl, Lib.hid (by omega), Lib.hid (by omega), Lib.hid (Kd.R_nil _ _ _ _ _), Lib.hid (by simp), H0, H1, HX, HR⟩
  case round =>
    obtain ⟨i, vi, out, sv, rfl, rfl, HI, HK, HO, HOL, G0, G1, HE, HG⟩ := hrel
    by_cases hi : i < l.length
    · have HII := Lib.hid hi
      obtain ⟨e, hee⟩ := some_at hi
      obtain ⟨ad, rfl, hat⟩ := ev_at (C_ext HC.out HE.out) rfl hee
      have hi1 : (i : Int) < (l.length : Int) := by omega
      have hi0 : 0 ≤ (i : Int) := by omega
      have HSM := Lib.hid (HIN.out _ (List.mem_of_getElem? hee))
      have hg := HG.out
      rw [drop_at hee] at hg
      have hwi : IntKind.i64.wrap ((i : Int) + 1) = (i : Int) + 1 := IntWalk.i64_in _ (by have := HL.out; omega)
      clear hee hi HG
      go_upto_region 4 with (fail)
      refine gl_begin (Ext.refl _) ?_
      refine gl_take (N := some 15) rfl (Yields.gy (gy_pure (by rfl) (fun w_ => by go_simp; with_reducible rfl))) (by simp only [Act.put, List.setIfInBounds_toArray, List.set_cons_zero, List.set_cons_succ]; rfl) ?_
      refine gl_take (N := some 16) rfl (gy_rowA (by rfl) rfl (by rfl) (by with_reducible assumption) Tryd.isAgg36 Tryd.sizeOf36 (ecells_len e)) (by simp only [Act.put, List.setIfInBounds_toArray, List.set_cons_zero, List.set_cons_succ]; rfl) ?_
      refine (fun w2 hw2 => ?_)
      refine wpl_var (e := e) rfl rfl rfl rfl rfl rfl (by rfl) (by rfl) (fun w3 hv3 hx3 => wpl_nil ?_)
      simp only [Act.put, List.setIfInBounds_toArray, List.set_cons_zero, List.set_cons_succ]
      have HW3 : Hid (Ext wr w3) := Lib.hid (hw2.trans hx3)
      have HE3 : Hid (Ext w w3) := Lib.hid (HE.out.trans HW3.out)
      have HB3L : Hid (wr.heap.size ≤ w2.heap.size) := Lib.hid hw2.le
      have HBB := Lib.hid hv3
      have rv := blk_range hv3
      have hev : EvAt w3 w2.heap.size 0 e := ⟨rv⟩
      have HEV := Lib.hid hev
      have rb := blk_range (HW3.out.blk G0.out)
      generalize w2.heap.size = b3 at *
      clear hat hv3 hx3 hw2 hev
      go_upto_region 5 with (fail)
      refine gl_begin (Ext.refl _) ?_
      refine gl_take (N := some 17) rfl (gy_row (by rfl) rfl (by rfl) (by with_reducible assumption) Tryd.underlying26 rfl (by first | exact vinfo _ | exact einfo _ | kernel_rfl)) (by simp only [Act.put, List.setIfInBounds_toArray, List.set_cons_zero, List.set_cons_succ]; rfl) ?_
      refine gl_take (N := some 18) rfl (gy_row (by rfl) rfl (by rfl) (by with_reducible assumption) Tryd.underlying36 rfl (by first | exact vinfo _ | exact einfo _ | kernel_rfl)) (by simp only [Act.put, List.setIfInBounds_toArray, List.set_cons_zero, List.set_cons_succ]; rfl) ?_
      refine gl_take (N := some 19) rfl (gy_call (by rfl) rfl Tryd.func14 (by kernel_rfl) rfl #[_, _] (by rfl) (fun w _ => One_calls vi HSM.out w)) (by simp only [Act.put, List.setIfInBounds_toArray, List.set_cons_zero, List.set_cons_succ]; rfl) ?_
      refine gl_take (N := some 10) rfl (Yields.gy (gy_pure (by rfl) (fun w_ => by go_simp; with_reducible rfl))) (by simp only [Act.put, List.setIfInBounds_toArray, List.set_cons_zero, List.set_cons_succ]; rfl) ?_
      refine gl_done (fun w4 hw4 => ?_)
      have HW4 : Hid (Ext wr w4) := Lib.hid (HW3.out.trans hw4)
      have HE4 : Hid (Ext w w4) := Lib.hid (HE.out.trans HW4.out)
      have HEV4 := Lib.hid (HEV.out.ext hw4)
      have HB4 := Lib.hid (hw4.blk HBB.out)
      clear rv rb hw4 HEV
      have hd : allG vi out (e :: l.drop (i + 1)) = if oneE vi e = 0 then allG (addV vi e.rep e.cnt) (out ++ [e]) (l.drop (i + 1)) else if oneE vi e = 5 then allG vi out (l.drop (i + 1)) else (out, vi, oneE vi e) := rfl
      rw [hd] at hg
      clear hd
      obtain ⟨x, hxx⟩ : ∃ x, x = oneE vi e := ⟨_, rfl⟩
      rw [← hxx] at hg ⊢
      clear hxx
      by_cases hx0 : x = 0
      · subst hx0
        rw [if_pos rfl] at hg
        have HG2 := Lib.hid hg
        clear hg
        have rr := HEV4.out.all
        have hsz : w.heap.size ≤ w4.heap.size := HE4.out.le
        have HO4 := Lib.hid (R_ext HO.out HW4.out)
        go_upto_region 9 with (fail)
        refine gl_begin (Ext.refl _) ?_
        refine gl_take (N := some 26) rfl (Yields.gy (gy_pure (by rfl) (fun w_ => by go_simp; with_reducible rfl))) (by simp only [Act.put, List.setIfInBounds_toArray, List.set_cons_zero, List.set_cons_succ]; rfl) ?_
        refine gl_take (N := some 27) rfl (gy_row (by rfl) rfl (by rfl) (by with_reducible assumption) Tryd.underlying36 rfl (by first | exact vinfo _ | exact einfo _ | kernel_rfl)) (by simp only [Act.put, List.setIfInBounds_toArray, List.set_cons_zero, List.set_cons_succ]; rfl) ?_
        refine (fun w5 hw5 => ?_)
        refine wpl_append (e := e) (xs := out) rfl rfl rfl (by rfl) rfl rfl rfl (by rfl) (by rfl) (Nat.le_trans hsz hw5.le) (R_ext HO4.out hw5) (by have := HOL.out; have := HL.out; have := HII.out; omega) (fun v1 w6 hR6 hg6 hb6 => ?_)
        refine wpl_norm (a' := ?_) ?_ ?_
        rotate_left
        · show Act.put (Act.put _ (some 28) _) (some 29) _ = _
          simp only [Act.put, List.setIfInBounds_toArray, List.set_cons_zero, List.set_cons_succ]
          rfl
        refine GoodL.start ?_
        have hlt5 : ∀ k, k < w4.heap.size → k < w5.heap.size := fun k hk => Nat.lt_of_lt_of_le hk hw5.le
        have F0 : w6.heap[b0]? = some (.cells (vcells vi).toArray 26 (0, 0)) := (hg6.block b0 (blk_lt (hw5.blk (HW4.out.blk G0.out))) (Kd.R_ne (R_ext HO4.out hw5) (hw5.blk (HW4.out.blk G0.out)) (by decide))).trans (hw5.blk (HW4.out.blk G0.out))
        have F1 : w6.heap[b0 + 1]? = some (.cells (vcells Vc.zero).toArray 26 (0, 0)) := (hg6.block (b0 + 1) (blk_lt (hw5.blk (HW4.out.blk G1.out))) (Kd.R_ne (R_ext HO4.out hw5) (hw5.blk (HW4.out.blk G1.out)) (by decide))).trans (hw5.blk (HW4.out.blk G1.out))
        have F3 : w6.heap[b3]? = some (.cells (ecells e).toArray 36 (0, 0)) := (hg6.block b3 (blk_lt (hw5.blk HB4.out)) (fun he => by have h1 := (R_lt HO.out he.symm).2; have := HB3L.out; omega)).trans (hw5.blk HB4.out)
        have HE6 : Hid (Ext w w6) := Lib.hid (Below.grown (HE4.out.trans hw5) hg6 (Nat.le_trans hsz hw5.le) hb6)
        have H60 := Lib.hid F0
        have H61 := Lib.hid F1
        have H63 := Lib.hid F3
        have HR6 := Lib.hid hR6
        clear rr hw5 hg6 hb6 hR6 F0 F1 F3 hlt5 hsz
        refine gl_take (N := some 7) rfl (Yields.gy (gy_pure (by rfl) (fun w_ => by go_simp; with_reducible rfl))) (by simp only [Act.put, List.setIfInBounds_toArray, List.set_cons_zero, List.set_cons_succ]; rfl) ?_
        refine gl_done (fun w7 hw7 => ?_)
        have rb := blk_range (hw7.blk H60.out)
        have rd := (EvAt.mk (blk_range (hw7.blk H63.out))).dotr
        have K0 := Lib.hid (hw7.blk H60.out)
        have K1 := Lib.hid (hw7.blk H61.out)
        have HR7 := Lib.hid (R_ext HR6.out hw7)
        have HE7 := Lib.hid (HE6.out.trans hw7)
        clear hw7 H60 H61 H63 HR6 HE6
        go_upto_region 10 with (fail)
        refine gl_begin (Ext.refl _) ?_
        refine gl_take (N := some 30) rfl (gy_row (by rfl) rfl (by rfl) (by with_reducible assumption) Tryd.underlying26 rfl (by first | exact vinfo _ | exact einfo _ | kernel_rfl)) (by simp only [Act.put, List.setIfInBounds_toArray, List.set_cons_zero, List.set_cons_succ]; rfl) ?_
        refine gl_take (N := some 31) rfl (Yields.gy (gy_pure (by rfl) (fun w_ => by go_simp; with_reducible rfl))) (by simp only [Act.put, List.setIfInBounds_toArray, List.set_cons_zero, List.set_cons_succ]; rfl) ?_
        refine gl_take (N := some 32) rfl (gy_row (by rfl) rfl (by rfl) (by with_reducible assumption) Tryd.underlying30 rfl (by first | exact vinfo _ | exact einfo _ | kernel_rfl)) (by simp only [Act.put, List.setIfInBounds_toArray, List.set_cons_zero, List.set_cons_succ]; rfl) ?_
        refine gl_take (N := some 33) rfl (gy_call (by rfl) rfl Tryd.func20 (by kernel_rfl) rfl #[_, _] (by rfl) (fun w _ => Add_calls vi e.rep e.cnt w)) (by simp only [Act.put, List.setIfInBounds_toArray, List.set_cons_zero, List.set_cons_succ]; rfl) ?_
        refine gl_eff (by rfl) (fun w8 hw8 => ?_)
        refine wp_store_mid 26 _ _ rfl b0 0 (vcells (addV vi e.rep e.cnt)).toArray (by rfl) (by rfl) (blk_there (hw8.blk K0.out) 0 _ (by simp [vcells_len])) (by rw [List.size_toArray, vcells_len]; exact info26) (all_oneCell_toArray (vcells_one _)) (wpl_nil ?_)
        have hn : Hid ((w8.setCells b0 0 (vcells (addV vi e.rep e.cnt))).heap[b0]? = some (.cells (vcells (addV vi e.rep e.cnt)).toArray 26 (0, 0))) := Lib.hid (setCells_whole (hw8.blk K0.out) (by rw [vcells_len, vcells_len]))
        have hn1 : Hid ((w8.setCells b0 0 (vcells (addV vi e.rep e.cnt))).heap[b0 + 1]? = some (.cells (vcells Vc.zero).toArray 26 (0, 0))) := Lib.hid ((setCells_other b0 (b0 + 1) (by omega) _ _ _).trans (hw8.blk K1.out))
        have hE : Hid (Ext w (w8.setCells b0 0 (vcells (addV vi e.rep e.cnt)))) := Lib.hid (Ext.setCells (HE7.out.trans hw8) (by have := HB.out; omega) _ _)
        have hR : Hid (Kd.R kEv 36 (w8.setCells b0 0 (vcells (addV vi e.rep e.cnt))) w.heap.size (fun _ => True) v1 (out ++ [e])) := Lib.hid (R_keep (R_ext HR7.out hw8) (hw8.blk K0.out) (by decide) (fun k hk _ => setCells_other b0 k hk _ _ _))
        simp only [List.toList_toArray]
        generalize w8.setCells b0 0 (vcells (addV vi e.rep e.cnt)) = w9 at *
        clear hw8 rb rd K0 K1 HR7 HE7
        go_wp2
        go_roundg (l.length - (i + 1))
        case measure => have := HK.out; have := HII.out; omega
        case rel => exact ⟨i + 1, addV vi e.rep e.cnt, out ++ [e], v1, by simp, rfl, Lib.hid HII.out, Lib.hid (by omega), hR, Lib.hid (by have := HOL.out; simp; omega), hn, hn1, hE, HG2⟩
      · rw [if_neg hx0] at hg
        have x0 : (x == 0) = false := by simpa using hx0
        have x0' : (x = 0) = False := eq_false hx0
        have K0 := Lib.hid (HW4.out.blk G0.out)
        have K1 := Lib.hid (HW4.out.blk G1.out)
        have KR := Lib.hid (R_ext HO.out HW4.out)
        clear hx0
        by_cases hx5 : x = 5
        · subst hx5
          rw [if_pos rfl] at hg
          have HG2 := Lib.hid hg
          clear hg x0 x0'
          go_wp2
          go_roundg (l.length - (i + 1))
          case measure => have := HK.out; have := HII.out; omega
          case rel => exact ⟨i + 1, vi, out, sv, by simp, rfl, Lib.hid HII.out, Lib.hid (by omega), KR, Lib.hid (by have := HOL.out; omega), K0, K1, HE4, HG2⟩
        · rw [if_neg hx5] at hg
          have x5 : (x == 5) = false := by simpa using hx5
          have x5' : (x = 5) = False := eq_false hx5
          have HG2 := Lib.hid hg
          have rb := blk_range K0.out
          clear hg hx5
          go_upto_region 7 with (fail)
          refine g_begin (by kernel_rfl) (Ext.refl _) #[false, false, false, false, false, false] 6 rfl rfl ?_
          refine g_take 0 #[true, false, false, false, false, false] (N := some 21) rfl rfl (by kernel_rfl) (fun _ _ _ h => h) (GP.p (gy_pure (by rfl) (fun w_ => by go_simp; with_reducible rfl))) (by simp only [Act.put, List.setIfInBounds_toArray, List.set_cons_zero, List.set_cons_succ]; rfl) ?_
          refine g_take 1 #[true, true, false, false, false, false] (N := some 22) rfl rfl (by kernel_rfl) (fun _ _ _ h => h) (GP.rd (by rfl) (gy_row (by rfl) rfl (by rfl) (by with_reducible assumption) Tryd.underlying26 rfl (by first | exact vinfo _ | exact einfo _ | kernel_rfl))) (by simp only [Act.put, List.setIfInBounds_toArray, List.set_cons_zero, List.set_cons_succ]; rfl) ?_
          refine g_take 2 #[true, true, true, false, false, false] (N := some 23) rfl rfl (by kernel_rfl) (fun _ _ _ h => h) (GP.p (gy_pure (by rfl) (fun w_ => by go_simp; with_reducible rfl))) (by simp only [Act.put, List.setIfInBounds_toArray, List.set_cons_zero, List.set_cons_succ]; rfl) ?_
          refine g_take 3 #[true, true, true, true, false, false] (N := some 4) rfl rfl (by kernel_rfl) (fun _ _ _ h => h) (GP.p (gy_pure (by rfl) (fun w_ => by go_simp; with_reducible rfl))) (by simp only [Act.put, List.setIfInBounds_toArray, List.set_cons_zero, List.set_cons_succ]; rfl) ?_
          refine g_barrier 4 #[true, true, true, true, true, false] rfl (by kernel_rfl) (by kernel_rfl) (fun w5 hw5 => ⟨by rfl, ?_⟩)
          refine wp_store_mid 26 _ _ rfl (b0 + 1) 0 (vcells vi).toArray (by rfl) (by rfl) (blk_there (hw5.blk K1.out) 0 _ (by simp [vcells_len])) (by rw [List.size_toArray, vcells_len]; exact info26) (all_oneCell_toArray (vcells_one _)) ?_
          have hn1 : Hid ((w5.setCells (b0 + 1) 0 (vcells vi)).heap[b0 + 1]? = some (.cells (vcells vi).toArray 26 (0, 0))) := Lib.hid (setCells_whole (hw5.blk K1.out) (by rw [vcells_len, vcells_len]))
          have hE : Hid (Ext w (w5.setCells (b0 + 1) 0 (vcells vi))) := Lib.hid (Ext.setCells (HE4.out.trans hw5) (by have := HB.out; omega) _ _)
          have hR : Hid (Kd.R kEv 36 (w5.setCells (b0 + 1) 0 (vcells vi)) w.heap.size (fun _ => True) sv out) := Lib.hid (R_keep (R_ext KR.out hw5) (hw5.blk K1.out) (by decide) (fun k hk _ => setCells_other (b0 + 1) k hk _ _ _))
          simp only [List.toList_toArray]
          generalize w5.setCells (b0 + 1) 0 (vcells vi) = w6 at *
          clear hw5 rb
          refine Good.norm (by show Act.put _ none _ = _; simp only [Act.put]; rfl) ?_
          refine g_take 5 #[true, true, true, true, true, true] (N := some 6) rfl rfl (by kernel_rfl) (fun _ _ _ h => h) (GP.p (gy_pure (by rfl) (fun w_ => by go_simp; with_reducible rfl))) (by simp only [Act.put, List.setIfInBounds_toArray, List.set_cons_zero, List.set_cons_succ]; rfl) ?_
          refine g_done (by kernel_rfl) (fun w7 hw7 => ?_)
          have hn7 := Lib.hid (hw7.blk hn1.out)
          have hE7 := Lib.hid (hE.out.trans hw7)
          have hR7 := Lib.hid (R_ext hR.out hw7)
          clear hw7 hn1 hE hR
          go_wp2
          refine bodyPost_ret (results_tct rfl _ _ (b0 + 1) 26 _ (0, 0) _ sv (.int .i64 x) rfl rfl rfl hn7.out Tryd.underlying26 rfl (by rw [List.size_toArray, vcells_len]; exact info26)) rfl ?_
          rw [← HG2.out]
          exact ⟨sv, rfl, hR7.out, hE7.out⟩
    · have e : i = l.length := by have := HI.out; omega
      subst e
      have hg := HG.out
      rw [List.drop_length] at hg
      have hg2 : (out, vi, (0 : Int)) = res := hg
      have HG2 := Lib.hid hg2
      have rb := blk_range G0.out
      clear hg hg2 hi HG
      go_upto_region 13 with (fail)
      refine g_begin (by kernel_rfl) (Ext.refl _) #[false, false, false, false, false] 5 rfl rfl ?_
      refine g_take 0 #[true, false, false, false, false] (N := some 37) rfl rfl (by kernel_rfl) (fun _ _ _ h => h) (GP.p (gy_pure (by rfl) (fun w_ => by go_simp; with_reducible rfl))) (by simp only [Act.put, List.setIfInBounds_toArray, List.set_cons_zero, List.set_cons_succ]; rfl) ?_
      refine g_take 1 #[true, true, false, false, false] (N := some 38) rfl rfl (by kernel_rfl) (fun _ _ _ h => h) (GP.rd (by rfl) (gy_row (by rfl) rfl (by rfl) (by with_reducible assumption) Tryd.underlying26 rfl (by first | exact vinfo _ | exact einfo _ | kernel_rfl))) (by simp only [Act.put, List.setIfInBounds_toArray, List.set_cons_zero, List.set_cons_succ]; rfl) ?_
      refine g_take 2 #[true, true, true, false, false] (N := some 4) rfl rfl (by kernel_rfl) (fun _ _ _ h => h) (GP.p (gy_pure (by rfl) (fun w_ => by go_simp; with_reducible rfl))) (by simp only [Act.put, List.setIfInBounds_toArray, List.set_cons_zero, List.set_cons_succ]; rfl) ?_
      refine g_barrier 3 #[true, true, true, true, false] rfl (by kernel_rfl) (by kernel_rfl) (fun w5 hw5 => ⟨by rfl, ?_⟩)
      refine wp_store_mid 26 _ _ rfl (b0 + 1) 0 (vcells vi).toArray (by rfl) (by rfl) (blk_there (hw5.blk G1.out) 0 _ (by simp [vcells_len])) (by rw [List.size_toArray, vcells_len]; exact info26) (all_oneCell_toArray (vcells_one _)) ?_
      have hn1 : Hid ((w5.setCells (b0 + 1) 0 (vcells vi)).heap[b0 + 1]? = some (.cells (vcells vi).toArray 26 (0, 0))) := Lib.hid (setCells_whole (hw5.blk G1.out) (by rw [vcells_len, vcells_len]))
      have hE : Hid (Ext w (w5.setCells (b0 + 1) 0 (vcells vi))) := Lib.hid (Ext.setCells (HE.out.trans hw5) (by have := HB.out; omega) _ _)
      have hR : Hid (Kd.R kEv 36 (w5.setCells (b0 + 1) 0 (vcells vi)) w.heap.size (fun _ => True) sv out) := Lib.hid (R_keep (R_ext HO.out hw5) (hw5.blk G1.out) (by decide) (fun k hk _ => setCells_other (b0 + 1) k hk _ _ _))
      simp only [List.toList_toArray]
      generalize w5.setCells (b0 + 1) 0 (vcells vi) = w6 at *
      clear hw5 rb
      refine Good.norm (by show Act.put _ none _ = _; simp only [Act.put]; rfl) ?_
      refine g_take 4 #[true, true, true, true, true] (N := some 6) rfl rfl (by kernel_rfl) (fun _ _ _ h => h) (GP.p (gy_pure (by rfl) (fun w_ => by go_simp; with_reducible rfl))) (by simp only [Act.put, List.setIfInBounds_toArray, List.set_cons_zero, List.set_cons_succ]; rfl) ?_
      refine g_done (by kernel_rfl) (fun w7 hw7 => ?_)
      have hn7 := Lib.hid (hw7.blk hn1.out)
      have hE7 := Lib.hid (hE.out.trans hw7)
      have hR7 := Lib.hid (R_ext hR.out hw7)
      clear hw7 hn1 hE hR
      go_wp2
      refine bodyPost_ret (results_tct rfl _ _ (b0 + 1) 26 _ (0, 0) _ sv (.int .i64 0) rfl rfl rfl hn7.out Tryd.underlying26 rfl (by rw [List.size_toArray, vcells_len]; exact info26)) rfl ?_
      rw [← HG2.out]
      exact ⟨sv, rfl, hR7.out, hE7.out⟩
end Go.Proofs.YthmnohecmmknpaaDoor.Vec
