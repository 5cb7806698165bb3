/- Clone, SortStableFunc, Sort, walked. -/
import Derived.Test.YthmnohecmmknpaaDoorSrtG
import Derived.Laws.AppendOwnNone
import Derived.Test.YthmnohecmmknpaaDoorEvG
namespace Go.Proofs.YthmnohecmmknpaaDoor.Vec
open Go.RowKit Go.Proofs.YthmnohecmmknpaaDoorW.PrintWords Go.Proofs.YthmnohecmmknpaaDoorW.PrintLast Go.Proofs.YthmnohecmmknpaaDoor.Given Go.Proofs.YthmnohecmmknpaaDoor.PA Go.Proofs.YthmnohecmmknpaaDoor.Val
set_option linter.unusedVariables false
set_option linter.unusedSimpArgs false
set_option maxRecDepth 100000
theorem reps_ev : ∀ {l : List Ev} {cs : List Value}, Reps (fun (e : Ev) (c : List Value) => c = ecells e) 27 l cs → cs = l.flatMap ecells
  | [], cs, h => List.length_eq_zero_iff.1 (by rw [h.1]; rfl)
  | e :: l, cs, h => by
    have h0 := h.2 0 e rfl
    rw [Nat.zero_mul, List.drop_zero] at h0
    have h1 : Reps (fun (e : Ev) (c : List Value) => c = ecells e) 27 l (cs.drop 27) := by
      refine ⟨by rw [List.length_drop, h.1, List.length_cons]; omega, fun j p hj => ?_⟩
      have h2 := h.2 (j + 1) p hj
      rw [List.drop_drop, show 27 + j * 27 = (j + 1) * 27 by omega]
      exact h2
    rw [List.flatMap_cons, ← reps_ev h1, ← h0, List.take_append_drop]
theorem reps_of (l : List Ev) : Reps (fun (e : Ev) (c : List Value) => c = ecells e) 27 l (l.flatMap ecells) := by
  refine ⟨flat_len l, fun j p hj => ?_⟩
  have hlt := (List.getElem?_eq_some_iff.1 hj).1
  have hl : ((l.take j).flatMap ecells).length = j * 27 := by rw [flat_len, List.length_take, Nat.min_eq_left (by omega)]
  rw [flat_split hj, List.drop_left' hl, List.take_left' (ecells_len p)]
theorem own_of_R {w : World} {base : Nat} {ok : Nat → Prop} {sv : Value} {l : List Ev} (h : Kd.R kEv 36 w base ok sv l) : w.ownsRow base 36 27 sv l.length (l.flatMap ecells) := by
  obtain ⟨_, inner, ho, hr⟩ := h
  have e : inner = l.flatMap ecells := reps_ev hr
  rw [← e]
  exact ho
theorem R_of_own {w : World} {base : Nat} {sv : Value} {l : List Ev} (h : w.ownsRow base 36 27 sv l.length (l.flatMap ecells)) : Kd.R kEv 36 w base (fun _ => True) sv l :=
  ⟨fun _ _ => trivial, _, h, reps_of l⟩
theorem row_of_own {w : World} {base : Nat} {sv : Value} {l : List Ev} (h : w.ownsRow base 36 27 sv l.length (l.flatMap ecells)) : (sv = .slice none 0 0 ∧ l = []) ∨
    ∃ g cap rest, sv = .slice (some ⟨g, 0, none⟩) l.length cap ∧ base ≤ g ∧ g < w.heap.size ∧ Row w ⟨g, 0, none⟩ l rest ∧ l.length ≤ cap ∧ cap ≤ maxLen ∧ l.length * 27 + rest.length = cap * 27 := by
  rcases h.2 with ⟨h1, h2⟩ | ⟨g, cap, cur, h1, h2, h3, h4, h5, h6, h7⟩
  · exact .inl ⟨h1, List.length_eq_zero_iff.1 h2⟩
  · have hcl : cur.toList.length = cap * 27 := by rw [Array.length_toList]; exact h6
    refine .inr ⟨g, cap, cur.toList.drop (l.length * 27), h1, h2, blk_lt h3, ⟨g, rfl, ?_⟩, h4, h5, by rw [List.length_drop, hcl]; omega⟩
    rw [← h7, List.take_append_drop]
    exact h3
theorem own_of_row {w : World} {base g cap : Nat} {l : List Ev} {rest : List Value} (hR : Row w ⟨g, 0, none⟩ l rest) (hg : base ≤ g) (h1 : l.length ≤ cap) (h2 : cap ≤ maxLen) (h3 : l.length * 27 + rest.length = cap * 27) :
    w.ownsRow base 36 27 (.slice (some ⟨g, 0, none⟩) l.length cap) l.length (l.flatMap ecells) := by
  obtain ⟨g', e, hb⟩ := hR
  injection e with e
  subst e
  refine ⟨flat_len l, .inr ⟨g, cap, _, rfl, hg, hb, h1, h2, ?_, ?_⟩⟩
  · rw [List.size_toArray, List.length_append, flat_len]
    exact h3
  · show (l.flatMap ecells ++ rest).take (l.length * 27) = _
    rw [List.take_left' (flat_len l)]
theorem C_flat {w : World} {ad : Addr} {n : Nat} {l : List Ev} (h : Kd.C kEv w (some ad) n l) : ∀ j u, (l.flatMap ecells)[j]? = some u → w.cell? (ad.add j) = some u := by
  obtain ⟨inner, hr, hc⟩ := ReadsRow.inner_ h
  have e : inner = l.flatMap ecells := reps_ev hr
  rw [← e]
  exact hc
theorem flat_one (l : List Ev) : ∀ u ∈ l.flatMap ecells, u.oneCell' = true := by
  intro u hu
  obtain ⟨e, _, h⟩ := List.mem_flatMap.1 hu
  exact ecells_one e u h
theorem C_none {w : World} {n : Nat} {l : List Ev} (h : Kd.C kEv w none n l) : n = 0 ∧ l = [] := by
  rcases Nat.eq_zero_or_pos n with h0 | h0
  · exact ⟨h0, List.length_eq_zero_iff.1 (by rw [h.1, h0])⟩
  · obtain ⟨ad, e, _⟩ := h.2.2 h0
    cases e
def ClonePost (l : List Ev) (w : World) (r : Ending) (w' : World) : Prop := ∃ sv, r = .returned sv ∧ w'.ownsRow w.heap.size 36 27 sv l.length (l.flatMap ecells) ∧ Ext w w'
set_option maxHeartbeats 2000000 in
theorem Clone_calls {l : List Ev} {A : Option Addr} {c : Nat} (w : World) (hC : Kd.C kEv w A l.length l) (hl : l.length ≤ 1000) :
    Calls Tryd.prog 17 #[.slice A l.length c] w (ClonePost l w) := by
  have HC := Lib.hid hC
  have HL := Lib.hid hl
  have q22 : ∀ (w : World) (a : Option Addr) (n c n' c' : Nat), (binOp .eql 22 (.slice a n c) (.slice none n' c')).run Tryd.prog w = .ok (.bool a.isNone) w := fun w a n c n' c' => Lib.run_eql_slice_nil w _ _ a n c n' c' Tryd.underlying22
  clear hC hl
  cases A with
  | none =>
    obtain ⟨h0, rfl⟩ := C_none HC.out
    go_enter Tryd.func17, Tryd.ntmps17
    go_wp2_with fail
    go_ret
    exact ⟨_, rfl, own_nil _ _ _ _, Ext.refl _⟩
  | some ad =>
    have hi := infoEv
    cases hie : Tryd.prog.info? 36 with
    | none => rw [hie] at hi; cases hi
    | some ie =>
    rw [hie] at hi
    simp only [Option.map_some, Option.some.injEq, Prod.mk.injEq] at hi
    obtain ⟨hz, hs, hb⟩ := hi
    have HI := Lib.hid hie
    have HZ := Lib.hid hz
    have HS := Lib.hid hs
    have HB := Lib.hid hb
    clear hz hs hb hie
    have hcells := C_flat (Kd.C_alloc HC.out (.cells #[] 36))
    have HCE := Lib.hid hcells
    clear hcells
    go_enter Tryd.func17, Tryd.ntmps17
    go_wp2_with (at_builtin; refine wpList_append_own _ rfl _ _ 22 rfl w.heap.size 36 ie _ 27 256 Tryd.underlying22 HI.out HZ.out HS.out HB.out (ecells_len evz) (by decide) _ _ _ rfl (World.ownsRow_made w #[] 0 (Nat.le_refl _) (Nat.zero_le _) (by simp)) ad l.length c (l.flatMap ecells) rfl (flat_len l) HCE.out (flat_one l) (by have := HL.out; simp only [maxLen]; omega) (by have := HL.out; omega) (by simp) ?_)
    intro v' w1 hown hgrow hnil
    have HO : Hid (w1.ownsRow w.heap.size 36 27 v' l.length (l.flatMap ecells)) := Lib.hid (by simpa using hown)
    have HX : Hid (Ext w w1) := Lib.hid (Below.grown ((Ext.refl w).alloc _) hgrow (by simp) (fun k hk => by
      have : w.heap.size = k := by simpa [Value.ownBlock] using hk
      omega))
    clear hown hgrow hnil
    go_wp2
    go_ret
    exact ⟨v', rfl, HO.out, HX.out⟩
def SortPost (l : List Ev) (w : World) (r : Ending) (w' : World) : Prop := ∃ sv l', r = .returned sv ∧ l'.Perm l ∧ Srt l' ∧ w'.ownsRow w.heap.size 36 27 sv l'.length (l'.flatMap ecells) ∧ Ext w w'
set_option maxHeartbeats 1000000 in
theorem insertionSort_nil (c : Nat) (fv : Value) (w : World) : Calls Tryd.prog 40 #[.slice none 0 c, .int .i64 0, .int .i64 0, fv] w fun r w' => r = .returned (.tuple #[]) ∧ Ext w w' := by
  go_enter Tryd.func40, Tryd.ntmps40
  go_wp2
  go_loopg [8] 0 (fun k v8 wr => v8 = .int .i64 1 ∧ Hid (Ext w wr))
  case atStart => exact ⟨rfl, Lib.hid (Ext.refl _)⟩
  case round =>
    obtain ⟨rfl, HE⟩ := hrel
    go_wp2
    go_end0
    exact ⟨rfl, HE.out⟩
set_option maxHeartbeats 2000000 in
theorem stable_nil (c : Nat) (fv : Value) (w : World) : Calls Tryd.prog 28 #[.slice none 0 c, .int .i64 0, fv] w fun r w' => r = .returned (.tuple #[]) ∧ Ext w w' := by
  go_enter Tryd.func28, Tryd.ntmps28
  go_wp2_with fail
  go_loopg [7, 8] 0 (fun k v7 v8 wr => v7 = .int .i64 0 ∧ v8 = .int .i64 20 ∧ Hid (Ext w wr))
  case atStart => exact ⟨rfl, rfl, Lib.hid (Ext.refl _)⟩
  case round =>
    obtain ⟨rfl, rfl, HE⟩ := hrel
    go_upto_region 6 with (fail)
    refine gl_begin (Ext.refl _) ?_
    refine gl_take (N := some 23) rfl (Yields.gy (gy_pure (by rfl) (fun w_ => by go_simp; with_reducible rfl))) (by simp only [Act.put, List.setIfInBounds_toArray, List.set_cons_zero, List.set_cons_succ]; rfl) ?_
    refine gl_take (N := some 24) rfl (Yields.gy (gy_pure (by rfl) (fun w_ => by go_simp; with_reducible rfl))) (by simp only [Act.put, List.setIfInBounds_toArray, List.set_cons_zero, List.set_cons_succ]; rfl) ?_
    refine gl_take (N := some 25) rfl (Yields.gy (gy_pure (by rfl) (fun w_ => by go_simp; with_reducible rfl))) (by simp only [Act.put, List.setIfInBounds_toArray, List.set_cons_zero, List.set_cons_succ]; rfl) ?_
    refine gl_take (N := some 26) rfl (Yields.gy (gy_pure (by rfl) (fun w_ => by go_simp; with_reducible rfl))) (by simp only [Act.put, List.setIfInBounds_toArray, List.set_cons_zero, List.set_cons_succ]; rfl) ?_
    refine gl_take (N := some 27) rfl (gy_call (by rfl) rfl Tryd.func40 (by kernel_rfl) rfl #[_, _, _, _] (by rfl) (fun w _ => insertionSort_nil c _ w)) (by simp only [Act.put, List.setIfInBounds_toArray, List.set_cons_zero, List.set_cons_succ]; rfl) ?_
    refine gl_done (fun w1 hw1 => ?_)
    have HE2 : Hid (Ext w w1) := Lib.hid (HE.out.trans hw1)
    clear HE hw1
    go_wp2_with fail
    go_loopg [6] 0 (fun k v6 wr => v6 = .int .i64 20 ∧ Hid (Ext w wr))
    case atStart => exact ⟨rfl, HE2⟩
    case round =>
      obtain ⟨rfl, HE⟩ := hrel
      go_wp2
      go_end0
      exact ⟨rfl, HE.out⟩
theorem SortStable_calls (l : List Ev) (rest : List Value) (p : Addr) (n c : Nat) (w : World) (hR : Row w p l rest) (hn : l.length = n) (hl : n ≤ 1000) :
    Calls Tryd.prog 18 #[.slice (some p) n c, .func (.func 19) #[] #[]] w (StPost p l rest w) := by
  have HR := Lib.hid hR
  have HN := Lib.hid hn
  have HL := Lib.hid hl
  clear hR hn hl
  go_enter Tryd.func18, Tryd.ntmps18
  go_upto_region 0 with (fail)
  refine gl_begin (Ext.refl _) ?_
  refine gl_take (N := some 4) rfl (Yields.gy (gy_pure (by rfl) (fun w_ => by go_simp; with_reducible rfl))) (by simp only [Act.put, List.setIfInBounds_toArray, List.set_cons_zero, List.set_cons_succ]; rfl) ?_
  refine gl_take (N := some 5) rfl (Yields.gy (gy_pure (by rfl) (fun w_ => by go_simp; with_reducible rfl))) (by simp only [Act.put, List.setIfInBounds_toArray, List.set_cons_zero, List.set_cons_succ]; rfl) ?_
  refine gl_take (N := some 6) rfl (Yields.gy (gy_pure (by rfl) (fun w_ => by go_simp; with_reducible rfl))) (by simp only [Act.put, List.setIfInBounds_toArray, List.set_cons_zero, List.set_cons_succ]; rfl) ?_
  refine gl_take (N := some 7) rfl (Yields.gy (gy_pure (by rfl) (fun w_ => by go_simp; with_reducible rfl))) (by simp only [Act.put, List.setIfInBounds_toArray, List.set_cons_zero, List.set_cons_succ]; rfl) ?_
  refine gl_eff (by rfl) (fun w2 hw2 => ?_)
  refine wp_callF rfl Tryd.func28 (by kernel_rfl) rfl #[.slice (some p) n c, .int .i64 (n : Int), .func (.func 19) #[] #[]] (by rfl) ((stable_calls l rest p n c w2 (HR.out.ext hw2) HN.out HL.out).mono ?_)
  rintro r w3 ⟨l', hp, hs, rfl, hR3, hE3⟩
  refine ⟨_, rfl, wpl_nil ?_⟩
  have HP3 := Lib.hid hp
  have HS3 := Lib.hid hs
  have HR3 := Lib.hid hR3
  have HE3 : Hid (ExtB p.block w w3) := Lib.hid ((ExtB.of hw2).trans hE3)
  clear hR3 hE3 hw2 hp hs
  go_wp2
  go_end0
  exact ⟨l', HP3.out, HS3.out, rfl, HR3.out, HE3.out⟩
theorem SortStable_nil (c : Nat) (fv : Value) (w : World) : Calls Tryd.prog 18 #[.slice none 0 c, fv] w fun r w' => r = .returned (.tuple #[]) ∧ Ext w w' := by
  go_enter Tryd.func18, Tryd.ntmps18
  go_upto_region 0 with (fail)
  refine gl_begin (Ext.refl _) ?_
  refine gl_take (N := some 4) rfl (Yields.gy (gy_pure (by rfl) (fun w_ => by go_simp; with_reducible rfl))) (by simp only [Act.put, List.setIfInBounds_toArray, List.set_cons_zero, List.set_cons_succ]; rfl) ?_
  refine gl_take (N := some 5) rfl (Yields.gy (gy_pure (by rfl) (fun w_ => by go_simp; with_reducible rfl))) (by simp only [Act.put, List.setIfInBounds_toArray, List.set_cons_zero, List.set_cons_succ]; rfl) ?_
  refine gl_take (N := some 6) rfl (Yields.gy (gy_pure (by rfl) (fun w_ => by go_simp; with_reducible rfl))) (by simp only [Act.put, List.setIfInBounds_toArray, List.set_cons_zero, List.set_cons_succ]; rfl) ?_
  refine gl_take (N := some 7) rfl (Yields.gy (gy_pure (by rfl) (fun w_ => by go_simp; with_reducible rfl))) (by simp only [Act.put, List.setIfInBounds_toArray, List.set_cons_zero, List.set_cons_succ]; rfl) ?_
  refine gl_take (N := some 8) rfl (gy_call (by rfl) rfl Tryd.func28 (by kernel_rfl) rfl #[_, _, _] (by rfl) (fun w _ => stable_nil c _ w)) (by simp only [Act.put, List.setIfInBounds_toArray, List.set_cons_zero, List.set_cons_succ]; rfl) ?_
  refine gl_done (fun w1 hw1 => ?_)
  have HE := Lib.hid hw1
  clear hw1
  go_wp2
  go_end0
  exact ⟨rfl, HE.out⟩
set_option maxHeartbeats 2000000 in
theorem Sort_calls {l : List Ev} {A : Option Addr} {c : Nat} (w : World) (hC : Kd.C kEv w A l.length l) (hl : l.length ≤ 1000) :
    Calls Tryd.prog 10 #[.slice A l.length c] w (SortPost l w) := by
  have HC := Lib.hid hC
  have HL := Lib.hid hl
  clear hC hl
  go_enter Tryd.func10, Tryd.ntmps10
  go_upto_region 1 with (fail)
  refine gl_begin (Ext.refl _) ?_
  refine gl_take (N := some 4) rfl (Yields.gy (gy_pure (by rfl) (fun w_ => by go_simp; with_reducible rfl))) (by simp only [Act.put, List.setIfInBounds_toArray, List.set_cons_zero, List.set_cons_succ]; rfl) ?_
  refine gl_eff (by rfl) (fun w2 hw2 => ?_)
  refine wp_callF rfl Tryd.func17 (by kernel_rfl) rfl #[.slice A l.length c] (by rfl) ((Clone_calls w2 (C_ext HC.out hw2) HL.out).mono ?_)
  rintro r w3 ⟨sv, rfl, ho, hx3⟩
  refine ⟨_, rfl, ?_⟩
  have HX3 : Hid (Ext w w3) := Lib.hid (hw2.trans hx3)
  have HLE : Hid (w.heap.size ≤ w2.heap.size) := Lib.hid hw2.le
  have hrow := row_of_own ho
  clear hw2 hx3 ho
  refine wpl_norm (a' := ?_) ?_ ?_
  rotate_left
  · show Act.put _ (some 5) _ = _
    simp only [Act.put, List.setIfInBounds_toArray, List.set_cons_zero, List.set_cons_succ]
    rfl
  refine GoodL.start ?_
  refine gl_take (N := some 3) rfl (Yields.gy (gy_pure (by rfl) (fun w_ => by go_simp; with_reducible rfl))) (by simp only [Act.put, List.setIfInBounds_toArray, List.set_cons_zero, List.set_cons_succ]; rfl) ?_
  refine gl_done (fun w4 hw4 => ?_)
  have HX4 : Hid (Ext w w4) := Lib.hid (HX3.out.trans hw4)
  rcases hrow with ⟨rfl, rfl⟩ | ⟨g, cap, rest, rfl, hg, hg2, hR, h1, h2, h3⟩
  · clear hw4
    go_upto_region 2 with (fail)
    refine gl_begin (Ext.refl _) ?_
    refine gl_take (N := some 6) rfl (Yields.gy (gy_pure (by rfl) (fun w_ => by go_simp; with_reducible rfl))) (by simp only [Act.put, List.setIfInBounds_toArray, List.set_cons_zero, List.set_cons_succ]; rfl) ?_
    refine gl_take (N := some 7) rfl (gy_call (by rfl) rfl Tryd.func18 (by kernel_rfl) rfl #[_, _] (by rfl) (fun w _ => SortStable_nil 0 _ w)) (by simp only [Act.put, List.setIfInBounds_toArray, List.set_cons_zero, List.set_cons_succ]; rfl) ?_
    refine gl_done (fun w5 hw5 => ?_)
    have HX5 : Hid (Ext w w5) := Lib.hid (HX4.out.trans hw5)
    clear hw5
    go_wp2
    go_ret
    exact ⟨_, [], rfl, List.Perm.refl _, srt_nil, own_nil _ _ _ _, HX5.out⟩
  · have HR4 := Lib.hid (hR.ext hw4)
    have HG : Hid (w.heap.size ≤ g) := Lib.hid (Nat.le_trans HLE.out hg)
    have H1 := Lib.hid h1
    have H2 := Lib.hid h2
    have H3 := Lib.hid h3
    obtain ⟨n, hn⟩ : ∃ n, l.length = n := ⟨_, rfl⟩
    rw [hn]
    have HN := Lib.hid hn
    obtain ⟨p, hp⟩ : ∃ p : Addr, (⟨g, 0, none⟩ : Addr) = p := ⟨_, rfl⟩
    rw [hp]
    have HP := Lib.hid hp
    clear hw4 hR hg hg2 h1 h2 h3 hn hp
    go_upto_region 2 with (fail)
    refine gl_begin (Ext.refl _) ?_
    refine gl_take (N := some 6) rfl (Yields.gy (gy_pure (by rfl) (fun w_ => by go_simp; with_reducible rfl))) (by simp only [Act.put, List.setIfInBounds_toArray, List.set_cons_zero, List.set_cons_succ]; rfl) ?_
    refine gl_eff (by rfl) (fun w5 hw5 => ?_)
    refine wp_callF rfl Tryd.func18 (by kernel_rfl) rfl #[.slice (some p) n cap, .func (.func 19) #[] #[]] (by rfl) ((SortStable_calls l rest p n cap w5 ((HP.out ▸ HR4.out).ext hw5) HN.out (HN.out ▸ HL.out)).mono ?_)
    rintro r w6 ⟨l', hp, hs, rfl, hR6, hE6⟩
    refine ⟨_, rfl, wpl_nil ?_⟩
    have HP6 := Lib.hid hp
    have HS6 := Lib.hid hs
    have HR6 := Lib.hid hR6
    have HX6 : Hid (Ext w w6) := Lib.hid (hE6.ext (HX4.out.trans hw5) (by rw [← HP.out]; exact HG.out))
    clear hp hs hR6 hE6 hw5
    go_wp2
    go_ret
    have hl' : l'.length = n := by rw [HP6.out.length_eq, HN.out]
    refine ⟨_, l', rfl, HP6.out, HS6.out, ?_, HX6.out⟩
    have h6 := HR6.out
    rw [← HP.out] at h6
    have := own_of_row h6 HG.out (by rw [hl', ← HN.out]; exact H1.out) H2.out (by rw [hl', ← HN.out]; exact H3.out)
    rw [← HP.out, ← hl']
    exact this
end Go.Proofs.YthmnohecmmknpaaDoor.Vec
namespace Go.Proofs.YthmnohecmmknpaaDoor.Vec
open Go.RowKit Go.Proofs.YthmnohecmmknpaaDoorW.PrintWords Go.Proofs.YthmnohecmmknpaaDoorW.PrintLast Go.Proofs.YthmnohecmmknpaaDoor.Given Go.Proofs.YthmnohecmmknpaaDoor.PA Go.Proofs.YthmnohecmmknpaaDoor.Val
set_option linter.unusedVariables false
set_option linter.unusedSimpArgs false
set_option maxRecDepth 100000
def knB (v : Vc) (e : Ev) : Bool := knowsB v e.rep e.cnt
def VecAt (w : World) (b : Nat) (v : Vc) : Prop := w.heap[b]? = some (.cells (vcells v).toArray 26 (0, 0))
theorem VecAt.ext {w w' : World} {b : Nat} {v : Vc} (h : VecAt w b v) (hx : Ext w w') : VecAt w' b v := hx.blk h
set_option maxHeartbeats 1000000 in
theorem Lacks1_calls {v : Vc} {e : Ev} {r : Bool} (hr : knB v e = r) {b : Nat} (w : World) (hv : VecAt w b v) : Calls Tryd.prog 22 #[evval e, .pointer (some ⟨b, 0, none⟩)] w fun z w' => z = .returned (.bool r) ∧ Ext w w' := by
  obtain ⟨W0, b0, hW, hb0, hx, he⟩ := box_e w e
  have rd := he.dotr
  have rv := blk_range (hx.blk hv)
  have HX := Lib.hid hx
  have HW := Lib.hid hW
  have HS := Lib.hid hb0
  have HR := Lib.hid hr
  clear hx hW hb0 he hr hv
  unfold evval
  go_enter Tryd.func22, Tryd.ntmps22
  go_upto_region 1 with (fail)
  rw [HW.out, HS.out]
  refine gl_begin (Ext.refl W0) ?_
  refine gl_take (N := some 4) rfl (gy_row (by rfl) rfl (by rfl) (by with_reducible assumption) Tryd.underlying26 rfl (by first | exact vinfo _ | exact einfo _ | kernel_rfl)) (by simp only [Act.put, List.setIfInBounds_toArray, List.set_cons_zero, List.set_cons_succ]; rfl) ?_
  refine gl_take (N := some 5) rfl (Yields.gy (gy_pure (by rfl) (fun w_ => by go_simp; with_reducible rfl))) (by simp only [Act.put, List.setIfInBounds_toArray, List.set_cons_zero, List.set_cons_succ]; rfl) ?_
  refine gl_take (N := some 6) rfl (gy_row (by rfl) rfl (by rfl) (by with_reducible assumption) Tryd.underlying30 rfl (by first | exact vinfo _ | exact einfo _ | kernel_rfl)) (by simp only [Act.put, List.setIfInBounds_toArray, List.set_cons_zero, List.set_cons_succ]; rfl) ?_
  refine gl_take (N := some 7) rfl (gy_call (by rfl) rfl Tryd.func23 (by kernel_rfl) rfl #[_, _] (by rfl) (fun w _ => Knows_calls HR.out w)) (by simp only [Act.put, List.setIfInBounds_toArray, List.set_cons_zero, List.set_cons_succ]; rfl) ?_
  refine gl_take (N := some 3) rfl (Yields.gy (gy_pure (by rfl) (fun w_ => by go_simp; with_reducible rfl))) (by simp only [Act.put, List.setIfInBounds_toArray, List.set_cons_zero, List.set_cons_succ]; rfl) ?_
  refine gl_done (fun w1 hw1 => ?_)
  go_wp2
  go_ret
  exact ⟨rfl, HX.out.trans hw1⟩
set_option maxHeartbeats 2000000 in
theorem IndexFunc_calls {l : List Ev} {A : Option Addr} {c b : Nat} {v : Vc} (w : World) (hC : Kd.C kEv w A l.length l) (hl : l.length ≤ 1000) (hv : VecAt w b v) :
    Calls Tryd.prog 33 #[.slice A l.length c, .func (.func 22) #[] #[.pointer (some ⟨b, 0, none⟩)]] w fun z w' => ((z = .returned (.int .i64 (-1)) ∧ ∀ e ∈ l, knB v e = false) ∨ ∃ (i : Nat) (x : Ev), z = .returned (.int .i64 (i : Int)) ∧ l[i]? = some x ∧ knB v x = true ∧ ∀ e ∈ l.take i, knB v e = false) ∧ Ext w w' := by
  have HC := Lib.hid hC
  have HL := Lib.hid hl
  have HV := Lib.hid hv
  clear hC hl hv
  go_enter Tryd.func33, Tryd.ntmps33
  go_wp2_with fail
  go_loopg [8] l.length (fun k v8 wr => ∃ i : Nat, v8 = .int .i64 (i : Int) ∧ Hid (i ≤ l.length) ∧ Hid (l.length ≤ i + k) ∧ Hid (∀ e ∈ l.take i, knB v e = false) ∧ Hid (Ext w wr))
  case atStart => exact ⟨0, rfl, Lib.hid (by omega), Lib.hid (by omega), Lib.hid (by simp), Lib.hid (Ext.refl _)⟩
  case round =>
    obtain ⟨i, rfl, HI, HK, HT, HE⟩ := hrel
    by_cases hi : i < l.length
    · have HII := Lib.hid hi
      obtain ⟨e, hee⟩ := some_at hi
      obtain ⟨ad, rfl, hat⟩ := ev_at (C_ext HC.out HE.out) rfl hee
      have hi1 : (i : Int) < (l.length : Int) := by omega
      have hi0 : 0 ≤ (i : Int) := by omega
      have hwi : IntKind.i64.wrap ((i : Int) + 1) = (i : Int) + 1 := IntWalk.i64_in _ (by have := HL.out; omega)
      have HEE := Lib.hid hee
      clear hee hi
      cases hk : knB v e with
      | true =>
        have HKB := Lib.hid hk
        clear hk
        go_upto_region 4 with (fail)
        refine gl_begin (Ext.refl _) ?_
        refine gl_take (N := some 11) rfl (Yields.gy (gy_pure (by rfl) (fun w_ => by go_simp; with_reducible rfl))) (by simp only [Act.put, List.setIfInBounds_toArray, List.set_cons_zero, List.set_cons_succ]; rfl) ?_
        refine gl_take (N := some 12) rfl (Yields.gy (gy_pure (by rfl) (fun w_ => by go_simp; with_reducible rfl))) (by simp only [Act.put, List.setIfInBounds_toArray, List.set_cons_zero, List.set_cons_succ]; rfl) ?_
        refine gl_take (N := some 13) rfl (Yields.gy (gy_pure (by rfl) (fun w_ => by go_simp; with_reducible rfl))) (by simp only [Act.put, List.setIfInBounds_toArray, List.set_cons_zero, List.set_cons_succ]; rfl) ?_
        refine gl_take (N := some 14) rfl (Yields.gy (gy_pure (by rfl) (fun w_ => by go_simp; with_reducible rfl))) (by simp only [Act.put, List.setIfInBounds_toArray, List.set_cons_zero, List.set_cons_succ]; rfl) ?_
        refine gl_take (N := some 15) rfl (gy_rowA (by rfl) rfl (by rfl) (by with_reducible assumption) Tryd.isAgg36 Tryd.sizeOf36 (ecells_len e)) (by simp only [Act.put, List.setIfInBounds_toArray, List.set_cons_zero, List.set_cons_succ]; rfl) ?_
        refine gl_take (N := some 16) rfl (gy_callv (by rfl) rfl (by rfl) Tryd.func22 (by kernel_rfl) rfl #[_, _] (by rfl) (fun w2 hw2 => Lacks1_calls HKB.out w2 (HV.out.ext (HE.out.trans hw2)))) (by simp only [Act.put, List.setIfInBounds_toArray, List.set_cons_zero, List.set_cons_succ]; rfl) ?_
        refine gl_done (fun w1 hw1 => ?_)
        have HE2 := Lib.hid (HE.out.trans hw1)
        clear hw1 hat
        go_wp2
        go_ret
        exact ⟨.inr ⟨i, e, rfl, HEE.out, HKB.out, HT.out⟩, HE2.out⟩
      | false =>
        have HKB := Lib.hid hk
        clear hk
        go_upto_region 4 with (fail)
        refine gl_begin (Ext.refl _) ?_
        refine gl_take (N := some 11) rfl (Yields.gy (gy_pure (by rfl) (fun w_ => by go_simp; with_reducible rfl))) (by simp only [Act.put, List.setIfInBounds_toArray, List.set_cons_zero, List.set_cons_succ]; rfl) ?_
        refine gl_take (N := some 12) rfl (Yields.gy (gy_pure (by rfl) (fun w_ => by go_simp; with_reducible rfl))) (by simp only [Act.put, List.setIfInBounds_toArray, List.set_cons_zero, List.set_cons_succ]; rfl) ?_
        refine gl_take (N := some 13) rfl (Yields.gy (gy_pure (by rfl) (fun w_ => by go_simp; with_reducible rfl))) (by simp only [Act.put, List.setIfInBounds_toArray, List.set_cons_zero, List.set_cons_succ]; rfl) ?_
        refine gl_take (N := some 14) rfl (Yields.gy (gy_pure (by rfl) (fun w_ => by go_simp; with_reducible rfl))) (by simp only [Act.put, List.setIfInBounds_toArray, List.set_cons_zero, List.set_cons_succ]; rfl) ?_
        refine gl_take (N := some 15) rfl (gy_rowA (by rfl) rfl (by rfl) (by with_reducible assumption) Tryd.isAgg36 Tryd.sizeOf36 (ecells_len e)) (by simp only [Act.put, List.setIfInBounds_toArray, List.set_cons_zero, List.set_cons_succ]; rfl) ?_
        refine gl_take (N := some 16) rfl (gy_callv (by rfl) rfl (by rfl) Tryd.func22 (by kernel_rfl) rfl #[_, _] (by rfl) (fun w2 hw2 => Lacks1_calls HKB.out w2 (HV.out.ext (HE.out.trans hw2)))) (by simp only [Act.put, List.setIfInBounds_toArray, List.set_cons_zero, List.set_cons_succ]; rfl) ?_
        refine gl_done (fun w1 hw1 => ?_)
        have HE2 := Lib.hid (HE.out.trans hw1)
        clear hw1 hat
        go_wp2
        go_roundg (l.length - (i + 1))
        case measure => have := HK.out; have := HII.out; omega
        case rel => exact ⟨i + 1, by simp, Lib.hid HII.out, Lib.hid (by omega), Lib.hid (by
            rw [take_snoc' HEE.out]
            intro x hx
            rcases List.mem_append.1 hx with hx | hx
            · exact HT.out x hx
            · rw [List.mem_singleton.1 hx]
              exact HKB.out), HE2⟩
    · have e : i = l.length := by have := HI.out; omega
      have HT2 : Hid (∀ e ∈ l, knB v e = false) := Lib.hid (by have h := HT.out; rwa [e, List.take_length] at h)
      clear HT
      subst e
      clear hi
      have hi1 : ¬ (l.length : Int) < (l.length : Int) := by omega
      go_wp2
      go_ret
      exact ⟨.inl ⟨rfl, HT2.out⟩, HE.out⟩
end Go.Proofs.YthmnohecmmknpaaDoor.Vec
namespace Go.Proofs.YthmnohecmmknpaaDoor.Vec
open Go.RowKit Go.Proofs.YthmnohecmmknpaaDoorW.PrintWords Go.Proofs.YthmnohecmmknpaaDoorW.PrintLast Go.Proofs.YthmnohecmmknpaaDoor.Given Go.Proofs.YthmnohecmmknpaaDoor.PA Go.Proofs.YthmnohecmmknpaaDoor.Val
set_option linter.unusedVariables false
set_option linter.unusedSimpArgs false
set_option maxRecDepth 100000
theorem Row.C {w : World} {p : Addr} {l : List Ev} {rest : List Value} (h : Row w p l rest) (hl : l.length ≤ 1000) : Kd.C kEv w (some p) l.length l :=
  ⟨rfl, by omega, fun _ => ⟨p, rfl, fun j x hx => ⟨ecells x, ecells_len x, rfl, fun i u hu => by
    have := h.at hx i u hu
    rwa [Addr.add_add] at this⟩⟩⟩
theorem ExtB.vec {w w' : World} {g b : Nat} {v : Vc} (h : VecAt w b v) (hx : ExtB g w w') (hb : b ≠ g) : VecAt w' b v := (hx.block b hb (blk_lt h)).trans h
theorem zero_cells (n : Nat) : ∃ vs, (Builtin.zeroCells (ecells evz).toArray n).toList = vs ∧ vs.length = n * 27 ∧ ∀ v ∈ vs, v.oneCell' = true := by
  refine ⟨_, rfl, by simp [Builtin.zeroCells, ecells_len], fun v hv => ?_⟩
  simp only [Builtin.zeroCells, Array.toList_map, List.mem_map] at hv
  obtain ⟨i, hi, rfl⟩ := hv
  have h27 : (ecells evz).toArray.size = 27 := by rw [List.size_toArray, ecells_len]
  have hlt : i % (ecells evz).toArray.size < (ecells evz).toArray.size := Nat.mod_lt _ (by rw [h27]; decide)
  rw [getElem!_pos (ecells evz).toArray _ hlt]
  exact ecells_one evz _ (by simp)
theorem run_clear_ev {w : World} {p : Addr} {l : List Ev} {rest : List Value} (h : Row w p l rest) (i m c : Nat) (hm : 0 < m) (hi : i + m ≤ l.length) :
    ∃ w', (∀ ty, (Builtin.clear_ #[22] ty #[.slice (some (p.add (i * 27))) m c]).run Tryd.prog w = .ok (.tuple #[]) w') ∧ ExtB p.block w w' := by
  obtain ⟨g, rfl, hb⟩ := h
  obtain ⟨vs, hvs, hvl, hv1⟩ := zero_cells m
  have hf : (l.flatMap ecells ++ rest).length = l.length * 27 + rest.length := by rw [List.length_append, flat_len]
  have ht := blk_there hb (i * 27) vs.length (by rw [List.size_toArray, hf, hvl]; omega)
  have hst := run_storeCells_cells (P := Tryd.prog) g (i * 27) vs 0 w (fun j hj => by rw [Nat.add_zero]; exact (ht j hj).1) (fun j hj => by rw [Nat.add_zero]; exact (ht j hj).2) hv1
  simp only [Nat.add_zero] at hst
  refine ⟨w.setCells g (i * 27) vs, fun ty => ?_, ?_⟩
  · obtain ⟨m, rfl⟩ : ∃ k, m = k + 1 := ⟨m - 1, by omega⟩
    have hz : ∀ w, (zeroValue 36).run Tryd.prog w = .ok (.agg (ecells evz).toArray) w := Tryd.zeroValue36
    have hzc : (Value.agg (ecells evz).toArray).cells = (ecells evz).toArray := rfl
    simp [Builtin.clear_, run_underlying Tryd.underlying22, hz, hzc, hvs, Addr.add_mid, hst]
  · obtain ⟨h1, h2, h3, h4⟩ := setCells_os g vs (i * 27) w
    exact ⟨h1, h2, h3, Nat.le_of_eq h4.symm, fun k hk _ => setCells_other g k hk _ _ _⟩
def nk (v : Vc) (e : Ev) : Bool := !knB v e
def DelPost (v : Vc) (l : List Ev) (p : Addr) (w : World) (z : Ending) (w' : World) : Prop := ∃ A c, z = .returned (.slice A (l.filter (nk v)).length c) ∧ ExtB p.block w w'
set_option maxHeartbeats 4000000 in
theorem DeleteFunc_calls {l : List Ev} {rest : List Value} {p : Addr} {n c b : Nat} {v : Vc} (w : World) (hR : Row w p l rest) (hn : l.length = n) (hl : n ≤ 1000) (hc : n ≤ c) (hv : VecAt w b v) (hb : b ≠ p.block) :
    Calls Tryd.prog 21 #[.slice (some p) n c, .func (.func 22) #[] #[.pointer (some ⟨b, 0, none⟩)]] w (DelPost v l p w) := by
  have HR := Lib.hid hR
  have HN := Lib.hid hn
  have HL := Lib.hid hl
  have HC := Lib.hid hc
  have HV := Lib.hid hv
  have HB := Lib.hid hb
  clear hR hn hl hc hv hb
  go_enter Tryd.func21, Tryd.ntmps21
  go_upto_region 1 with (fail)
  refine gl_begin (Ext.refl _) ?_
  refine gl_take (N := some 8) rfl (Yields.gy (gy_pure (by rfl) (fun w_ => by go_simp; with_reducible rfl))) (by simp only [Act.put, List.setIfInBounds_toArray, List.set_cons_zero, List.set_cons_succ]; rfl) ?_
  refine gl_take (N := some 9) rfl (Yields.gy (gy_pure (by rfl) (fun w_ => by go_simp; with_reducible rfl))) (by simp only [Act.put, List.setIfInBounds_toArray, List.set_cons_zero, List.set_cons_succ]; rfl) ?_
  refine gl_eff (by rfl) (fun w2 hw2 => ?_)
  refine wp_callF rfl Tryd.func33 (by kernel_rfl) rfl #[.slice (some p) n c, .func (.func 22) #[] #[.pointer (some ⟨b, 0, none⟩)]] (by rfl) (Calls.mono (HN.out ▸ IndexFunc_calls w2 ((HR.out.ext hw2).C (by rw [HN.out]; exact HL.out)) (by rw [HN.out]; exact HL.out) (HV.out.ext hw2)) ?_)
  rintro r w3 ⟨hres, hx3⟩
  have HX3 : Hid (Ext w w3) := Lib.hid (hw2.trans hx3)
  clear hw2 hx3
  rcases hres with ⟨rfl, hall⟩ | ⟨i0, x0, rfl, hx0, hk0, ht0⟩
  · refine ⟨_, rfl, ?_⟩
    have HA := Lib.hid hall
    clear hall
    refine wpl_norm (a' := ?_) ?_ ?_
    rotate_left
    · show Act.put _ (some 10) _ = _
      simp only [Act.put, List.setIfInBounds_toArray, List.set_cons_zero, List.set_cons_succ]
      rfl
    refine GoodL.start ?_
    refine gl_take (N := some 5) rfl (Yields.gy (gy_pure (by rfl) (fun w_ => by go_simp; with_reducible rfl))) (by simp only [Act.put, List.setIfInBounds_toArray, List.set_cons_zero, List.set_cons_succ]; rfl) ?_
    refine gl_done (fun w4 hw4 => ?_)
    have HX4 : Hid (Ext w w4) := Lib.hid (HX3.out.trans hw4)
    clear hw4
    have hm1 : ((-1 : Int) == -1) = true := rfl
    go_wp2
    go_ret
    refine ⟨some p, c, ?_, ExtB.of HX4.out⟩
    rw [List.filter_eq_self.2 (fun e he => by simp [nk, HA.out e he]), HN.out]
    rfl
  · refine ⟨_, rfl, ?_⟩
    have H0 := Lib.hid hx0
    have HK0 := Lib.hid hk0
    have HT0 := Lib.hid ht0
    have HIN : Hid (i0 < n) := Lib.hid (by rw [← HN.out]; exact (List.getElem?_eq_some_iff.1 hx0).1)
    clear hx0 hk0 ht0
    have hwi : IntKind.i64.wrap ((i0 : Int) + 1) = ((i0 + 1 : Nat) : Int) := wrap_n _ _ (by omega) (by have := HIN.out; have := HL.out; omega)
    have hne : ((i0 : Int) == -1) = false := by rw [beq_eq_false_iff_ne]; omega
    refine wpl_norm (a' := ?_) ?_ ?_
    rotate_left
    · show Act.put _ (some 10) _ = _
      simp only [Act.put, List.setIfInBounds_toArray, List.set_cons_zero, List.set_cons_succ]
      rfl
    refine GoodL.start ?_
    refine gl_take (N := some 5) rfl (Yields.gy (gy_pure (by rfl) (fun w_ => by go_simp; with_reducible rfl))) (by simp only [Act.put, List.setIfInBounds_toArray, List.set_cons_zero, List.set_cons_succ]; rfl) ?_
    refine gl_done (fun w4 hw4 => ?_)
    have HX4 : Hid (Ext w w4) := Lib.hid (HX3.out.trans hw4)
    clear hw4
    go_wp2_with fail
    go_loopg [5, 6] n (fun k v5 v6 wr => ∃ (i j : Nat) (l' : List Ev), v5 = .int .i64 (i : Int) ∧ v6 = .int .i64 (j : Int) ∧ Hid (i < j) ∧ Hid (j ≤ n) ∧ Hid (n ≤ j + k) ∧ Hid (((l.take j).filter (nk v)).length = i) ∧ Hid (l'.length = n) ∧ Hid (l'.drop j = l.drop j) ∧ Hid (Row wr p l' rest) ∧ Hid (ExtB p.block w wr))
    case atStart => exact ⟨i0, i0 + 1, l, rfl, rfl, Lib.hid (by omega), Lib.hid HIN.out, Lib.hid (by omega), Lib.hid (by
        rw [take_snoc' H0.out, List.filter_append, List.filter_eq_self.2 (fun e he => by simp [nk, HT0.out e he])]
        simp [nk, HK0.out]
        rw [HN.out]
        have := HIN.out
        omega), HN, Lib.hid rfl, Lib.hid (HR.out.ext HX4.out), Lib.hid (ExtB.of HX4.out)⟩
    case round =>
      obtain ⟨i, j, l', rfl, rfl, HIJ, HJN, HK, HF, HN2, HD, HRR, HE⟩ := hrel
      by_cases hj : j < n
      · obtain ⟨x, hx⟩ := some_at (l := l') (i := j) (by rw [HN2.out]; exact hj)
        have hlx : l[j]? = some x := by
          have h1 := congrArg List.head? HD.out
          rw [List.head?_drop, List.head?_drop, hx] at h1
          exact h1.symm
        have HDJ : Hid (l'.drop (j + 1) = l.drop (j + 1)) := Lib.hid (by
          have h1 := congrArg List.tail HD.out
          rwa [List.tail_drop, List.tail_drop] at h1)
        have HLX := Lib.hid hlx
        have HJJ := Lib.hid hj
        have hj1 : (j : Int) < (n : Int) := by omega
        have hj0 : 0 ≤ (j : Int) := by omega
        have hi1 : (i : Int) < (n : Int) := by have := HIJ.out; omega
        have hi0 : 0 ≤ (i : Int) := by omega
        have hwj : IntKind.i64.wrap ((j : Int) + 1) = ((j + 1 : Nat) : Int) := wrap_n _ _ (by omega) (by have := HL.out; omega)
        have hwi2 : IntKind.i64.wrap ((i : Int) + 1) = ((i + 1 : Nat) : Int) := wrap_n _ _ (by omega) (by have := HL.out; omega)
        have hat : AtR wr (p.add (j * 27)) (ecells x) := HRR.out.at hx
        clear hx hlx hj
        go_upto_region 7 with (fail)
        refine gl_begin (Ext.refl _) ?_
        refine gl_take (N := some 22) rfl (Yields.gy (gy_pure (by rfl) (fun w_ => by go_simp; with_reducible rfl))) (by simp only [Act.put, List.setIfInBounds_toArray, List.set_cons_zero, List.set_cons_succ]; rfl) ?_
        refine gl_take (N := some 23) rfl (Yields.gy (gy_pure (by rfl) (fun w_ => by go_simp; with_reducible rfl))) (by simp only [Act.put, List.setIfInBounds_toArray, List.set_cons_zero, List.set_cons_succ]; rfl) ?_
        refine gl_take (N := some 24) rfl (Yields.gy (gy_pure (by rfl) (fun w_ => by go_simp; with_reducible rfl))) (by simp only [Act.put, List.setIfInBounds_toArray, List.set_cons_zero, List.set_cons_succ]; rfl) ?_
        refine gl_take (N := some 25) rfl (gy_rowA (by rfl) rfl (by rfl) hat Tryd.isAgg36 Tryd.sizeOf36 (ecells_len x)) (by simp only [Act.put, List.setIfInBounds_toArray, List.set_cons_zero, List.set_cons_succ]; rfl) ?_
        refine (fun w5 hw5 => ?_)
        refine wpl_var (e := x) rfl rfl rfl rfl rfl rfl (by rfl) (by rfl) (fun w6 hv6 hx6 => wpl_nil ?_)
        simp only [Act.put, List.setIfInBounds_toArray, List.set_cons_zero, List.set_cons_succ]
        have HR6 := Lib.hid (HRR.out.ext (hw5.trans hx6))
        have HE6 : Hid (ExtB p.block w w6) := Lib.hid (HE.out.trans (ExtB.of (hw5.trans hx6)))
        have HV6 := Lib.hid (ExtB.vec HV.out HE6.out HB.out)
        have HBV := Lib.hid hv6
        have rv := blk_range hv6
        generalize w5.heap.size = b3 at *
        clear hat hv6 hw5 hx6
        have HTF : Hid (((l.take (j + 1)).filter (nk v)).length = i + if knB v x then 0 else 1) := Lib.hid (by
          rw [take_snoc' HLX.out, List.filter_append, List.length_append, HF.out]
          cases hk : knB v x <;> simp [nk, hk])
        cases hk : knB v x with
        | true =>
          have HKB := Lib.hid hk
          clear hk
          go_upto_region 8 with (fail)
          refine gl_begin (Ext.refl _) ?_
          refine gl_take (N := some 26) rfl (Yields.gy (gy_pure (by rfl) (fun w_ => by go_simp; with_reducible rfl))) (by simp only [Act.put, List.setIfInBounds_toArray, List.set_cons_zero, List.set_cons_succ]; rfl) ?_
          refine gl_take (N := some 27) rfl (gy_row (by rfl) rfl (by rfl) (by with_reducible assumption) Tryd.underlying36 rfl (by first | exact vinfo _ | exact einfo _ | kernel_rfl)) (by simp only [Act.put, List.setIfInBounds_toArray, List.set_cons_zero, List.set_cons_succ]; rfl) ?_
          refine gl_take (N := some 28) rfl (gy_callv (by rfl) rfl (by rfl) Tryd.func22 (by kernel_rfl) rfl #[_, _] (by rfl) (fun w2 hw2 => Lacks1_calls HKB.out w2 (HV6.out.ext hw2))) (by simp only [Act.put, List.setIfInBounds_toArray, List.set_cons_zero, List.set_cons_succ]; rfl) ?_
          refine gl_take (N := some 29) rfl (Yields.gy (gy_pure (by rfl) (fun w_ => by go_simp; with_reducible rfl))) (by simp only [Act.put, List.setIfInBounds_toArray, List.set_cons_zero, List.set_cons_succ]; rfl) ?_
          refine gl_done (fun w7 hw7 => ?_)
          have HR7 := Lib.hid (HR6.out.ext hw7)
          have HE7 : Hid (ExtB p.block w w7) := Lib.hid (HE6.out.trans (ExtB.of hw7))
          clear hw7 rv HBV
          go_wp2
          go_roundg (n - (j + 1))
          case measure => have := HK.out; have := HJJ.out; omega
          case rel => exact ⟨i, j + 1, l', rfl, rfl, Lib.hid (by have := HIJ.out; omega), Lib.hid HJJ.out, Lib.hid (by omega), Lib.hid (by rw [HTF.out, HKB.out]; rfl), HN2, HDJ, HR7, HE7⟩
        | false =>
          have HKB := Lib.hid hk
          clear hk
          go_upto_region 8 with (fail)
          refine gl_begin (Ext.refl _) ?_
          refine gl_take (N := some 26) rfl (Yields.gy (gy_pure (by rfl) (fun w_ => by go_simp; with_reducible rfl))) (by simp only [Act.put, List.setIfInBounds_toArray, List.set_cons_zero, List.set_cons_succ]; rfl) ?_
          refine gl_take (N := some 27) rfl (gy_row (by rfl) rfl (by rfl) (by with_reducible assumption) Tryd.underlying36 rfl (by first | exact vinfo _ | exact einfo _ | kernel_rfl)) (by simp only [Act.put, List.setIfInBounds_toArray, List.set_cons_zero, List.set_cons_succ]; rfl) ?_
          refine gl_take (N := some 28) rfl (gy_callv (by rfl) rfl (by rfl) Tryd.func22 (by kernel_rfl) rfl #[_, _] (by rfl) (fun w2 hw2 => Lacks1_calls HKB.out w2 (HV6.out.ext hw2))) (by simp only [Act.put, List.setIfInBounds_toArray, List.set_cons_zero, List.set_cons_succ]; rfl) ?_
          refine gl_take (N := some 29) rfl (Yields.gy (gy_pure (by rfl) (fun w_ => by go_simp; with_reducible rfl))) (by simp only [Act.put, List.setIfInBounds_toArray, List.set_cons_zero, List.set_cons_succ]; rfl) ?_
          refine gl_done (fun w7 hw7 => ?_)
          have HR7 := Lib.hid (HR6.out.ext hw7)
          have HE7 : Hid (ExtB p.block w w7) := Lib.hid (HE6.out.trans (ExtB.of hw7))
          have rv := blk_range (hw7.blk HBV.out)
          clear hw7 HBV
          go_upto_region 9 with (fail)
          refine gl_begin (Ext.refl _) ?_
          refine gl_take (N := some 30) rfl (Yields.gy (gy_pure (by rfl) (fun w_ => by go_simp; with_reducible rfl))) (by simp only [Act.put, List.setIfInBounds_toArray, List.set_cons_zero, List.set_cons_succ]; rfl) ?_
          refine gl_take (N := some 31) rfl (Yields.gy (gy_pure (by rfl) (fun w_ => by go_simp; with_reducible rfl))) (by simp only [Act.put, List.setIfInBounds_toArray, List.set_cons_zero, List.set_cons_succ]; rfl) ?_
          refine gl_take (N := some 32) rfl (gy_row (by rfl) rfl (by rfl) (by with_reducible assumption) Tryd.underlying36 rfl (by first | exact vinfo _ | exact einfo _ | kernel_rfl)) (by simp only [Act.put, List.setIfInBounds_toArray, List.set_cons_zero, List.set_cons_succ]; rfl) ?_
          refine gl_take (N := some 33) rfl (Yields.gy (gy_pure (by rfl) (fun w_ => by go_simp; with_reducible rfl))) (by simp only [Act.put, List.setIfInBounds_toArray, List.set_cons_zero, List.set_cons_succ]; rfl) ?_
          refine gl_eff (by rfl) (fun w8 hw8 => ?_)
          refine wp_storeR (i := i) (e := x) rfl (by rfl) (by rfl) (HR7.out.ext hw8) (by rw [HN2.out]; have := HIJ.out; have := HJJ.out; omega) (fun w9 hR9 hE9 => wpl_nil ?_)
          have HR9 := Lib.hid hR9
          have HE9 : Hid (ExtB p.block w w9) := Lib.hid ((HE7.out.trans (ExtB.of hw8)).trans hE9)
          clear hR9 hE9 hw8 rv
          simp only [Act.put]
          go_wp2
          go_roundg (n - (j + 1))
          case measure => have := HK.out; have := HJJ.out; omega
          case rel => exact ⟨i + 1, j + 1, l'.set i x, rfl, rfl, Lib.hid (by have := HIJ.out; omega), Lib.hid HJJ.out, Lib.hid (by omega), Lib.hid (by rw [HTF.out, HKB.out]; rfl), Lib.hid (by rw [List.length_set]; exact HN2.out), Lib.hid (by rw [List.drop_set_of_lt (by have := HIJ.out; omega)]; exact HDJ.out), HR9, HE9⟩
      · have hje : j = n := by have := HJN.out; omega
        subst hje
        have hjj : ¬ (j : Int) < (j : Int) := by omega
        have HFF : Hid ((l.filter (nk v)).length = i) := Lib.hid (by have h := HF.out; rwa [List.take_of_length_le (Nat.le_of_eq HN.out)] at h)
        obtain ⟨w5, hcl, hE5⟩ := run_clear_ev HRR.out i (j - i) (c - i) (by have := HIJ.out; omega) (by rw [HN2.out]; have := HIJ.out; omega)
        have HE5 : Hid (ExtB p.block w w5) := Lib.hid (HE.out.trans hE5)
        clear hE5 hj
        have hij : i ≤ j := by have := HIJ.out; omega
        have hic : i ≤ c := by have := HIJ.out; have := HC.out; omega
        have hjc : j ≤ c := HC.out
        have hci : ¬ c = i := by have := HIJ.out; omega
        go_wp2
        go_ret
        refine ⟨some p, c, ?_, HE5.out⟩
        rw [HFF.out]
        rfl
theorem vec_box (w : World) (v : Vc) : ∃ W0 b0, w.alloc (.cells (vcells v).toArray 26) = W0 ∧ w.heap.size = b0 ∧ Ext w W0 ∧ VecAt W0 b0 v := ⟨_, _, rfl, rfl, (Ext.refl w).alloc _, blk_new _ _⟩
def LackPost (v : Vc) (l : List Ev) (w : World) (z : Ending) (w' : World) : Prop := ∃ A c, z = .returned (.slice A (l.filter (nk v)).length c) ∧ Ext w w'
theorem IndexFunc_nil (c : Nat) (fv : Value) (w : World) : Calls Tryd.prog 33 #[.slice none 0 c, fv] w fun z w' => z = .returned (.int .i64 (-1)) ∧ Ext w w' := by
  go_enter Tryd.func33, Tryd.ntmps33
  go_wp2_with fail
  go_loopg [8] 0 (fun k v8 wr => v8 = .int .i64 0 ∧ Hid (Ext w wr))
  case atStart => exact ⟨rfl, Lib.hid (Ext.refl _)⟩
  case round =>
    obtain ⟨rfl, HE⟩ := hrel
    go_wp2
    go_ret
    exact ⟨rfl, HE.out⟩
theorem DeleteFunc_nil (c : Nat) (fv : Value) (w : World) : Calls Tryd.prog 21 #[.slice none 0 c, fv] w fun z w' => z = .returned (.slice none 0 c) ∧ Ext w w' := by
  have hm1 : ((-1 : Int) == -1) = true := rfl
  go_enter Tryd.func21, Tryd.ntmps21
  go_upto_region 1 with (fail)
  refine gl_begin (Ext.refl _) ?_
  refine gl_take (N := some 8) rfl (Yields.gy (gy_pure (by rfl) (fun w_ => by go_simp; with_reducible rfl))) (by simp only [Act.put, List.setIfInBounds_toArray, List.set_cons_zero, List.set_cons_succ]; rfl) ?_
  refine gl_take (N := some 9) rfl (Yields.gy (gy_pure (by rfl) (fun w_ => by go_simp; with_reducible rfl))) (by simp only [Act.put, List.setIfInBounds_toArray, List.set_cons_zero, List.set_cons_succ]; rfl) ?_
  refine gl_take (N := some 10) rfl (gy_call (by rfl) rfl Tryd.func33 (by kernel_rfl) rfl #[_, _] (by rfl) (fun w _ => IndexFunc_nil c _ w)) (by simp only [Act.put, List.setIfInBounds_toArray, List.set_cons_zero, List.set_cons_succ]; rfl) ?_
  refine gl_take (N := some 5) rfl (Yields.gy (gy_pure (by rfl) (fun w_ => by go_simp; with_reducible rfl))) (by simp only [Act.put, List.setIfInBounds_toArray, List.set_cons_zero, List.set_cons_succ]; rfl) ?_
  refine gl_done (fun w1 hw1 => ?_)
  have HX := Lib.hid hw1
  clear hw1
  go_wp2
  go_ret
  exact ⟨rfl, HX.out⟩
set_option maxHeartbeats 2000000 in
theorem Lacks_calls {l : List Ev} {A : Option Addr} {c : Nat} (v : Vc) (w : World) (hC : Kd.C kEv w A l.length l) (hl : l.length ≤ 1000) :
    Calls Tryd.prog 13 #[vval v, .slice A l.length c] w (LackPost v l w) := by
  obtain ⟨W0, b0, hW, hb0, hx, hv⟩ := vec_box w v
  have HC := Lib.hid (C_ext hC hx)
  have HL := Lib.hid hl
  have HX := Lib.hid hx
  have HW := Lib.hid hW
  have HS := Lib.hid hb0
  have HV := Lib.hid hv
  have HBL : Hid (b0 < W0.heap.size) := Lib.hid (blk_lt hv)
  clear hC hl hx hW hb0 hv
  unfold vval
  go_enter Tryd.func13, Tryd.ntmps13
  go_upto_region 1 with (fail)
  rw [HW.out, HS.out]
  refine gl_begin (Ext.refl _) ?_
  refine gl_take (N := some 5) rfl (Yields.gy (gy_pure (by rfl) (fun w_ => by go_simp; with_reducible rfl))) (by simp only [Act.put, List.setIfInBounds_toArray, List.set_cons_zero, List.set_cons_succ]; rfl) ?_
  refine gl_eff (by rfl) (fun w2 hw2 => ?_)
  refine wp_callF rfl Tryd.func17 (by kernel_rfl) rfl #[.slice A l.length c] (by rfl) ((Clone_calls w2 (C_ext HC.out hw2) HL.out).mono ?_)
  rintro r w3 ⟨sv, rfl, ho, hx3⟩
  refine ⟨_, rfl, ?_⟩
  have HX3 : Hid (Ext W0 w3) := Lib.hid (hw2.trans hx3)
  have HLE : Hid (W0.heap.size ≤ w2.heap.size) := Lib.hid hw2.le
  have hrow := row_of_own ho
  clear hw2 hx3 ho
  refine wpl_norm (a' := ?_) ?_ ?_
  rotate_left
  · show Act.put _ (some 6) _ = _
    simp only [Act.put, List.setIfInBounds_toArray, List.set_cons_zero, List.set_cons_succ]
    rfl
  refine GoodL.start ?_
  rcases hrow with ⟨rfl, rfl⟩ | ⟨g, cap, rest, rfl, hg, hg2, hR, h1, h2, h3⟩
  · skip
    refine gl_take (N := some 7) rfl (Yields.gy (gy_pure (by rfl) (fun w_ => by go_simp; with_reducible rfl))) (by simp only [Act.put, List.setIfInBounds_toArray, List.set_cons_zero, List.set_cons_succ]; rfl) ?_
    refine gl_take (N := some 8) rfl (gy_call (by rfl) rfl Tryd.func21 (by kernel_rfl) rfl #[_, _] (by rfl) (fun w _ => DeleteFunc_nil 0 _ w)) (by simp only [Act.put, List.setIfInBounds_toArray, List.set_cons_zero, List.set_cons_succ]; rfl) ?_
    refine gl_take (N := some 4) rfl (Yields.gy (gy_pure (by rfl) (fun w_ => by go_simp; with_reducible rfl))) (by simp only [Act.put, List.setIfInBounds_toArray, List.set_cons_zero, List.set_cons_succ]; rfl) ?_
    refine gl_done (fun w4 hw4 => ?_)
    have HX4 : Hid (Ext w w4) := Lib.hid (HX.out.trans (HX3.out.trans hw4))
    clear hw4
    go_wp2
    go_ret
    exact ⟨none, 0, rfl, HX4.out⟩
  · have HR3 := Lib.hid hR
    have HG : Hid (W0.heap.size ≤ g) := Lib.hid (Nat.le_trans HLE.out hg)
    have H1 := Lib.hid h1
    obtain ⟨n, hn⟩ : ∃ n, l.length = n := ⟨_, rfl⟩
    rw [hn]
    have HN := Lib.hid hn
    obtain ⟨p, hp⟩ : ∃ p : Addr, (⟨g, 0, none⟩ : Addr) = p := ⟨_, rfl⟩
    rw [hp]
    have HP := Lib.hid hp
    clear hR hg hg2 h1 h2 h3 hn hp
    refine gl_take (N := some 7) rfl (Yields.gy (gy_pure (by rfl) (fun w_ => by go_simp; with_reducible rfl))) (by simp only [Act.put, List.setIfInBounds_toArray, List.set_cons_zero, List.set_cons_succ]; rfl) ?_
    refine gl_eff (by rfl) (fun w4 hw4 => ?_)
    refine wp_callF rfl Tryd.func21 (by kernel_rfl) rfl #[.slice (some p) n cap, .func (.func 22) #[] #[.pointer (some ⟨b0, 0, none⟩)]] (by rfl) ((DeleteFunc_calls (v := v) w4 ((HP.out ▸ HR3.out).ext hw4) HN.out (HN.out ▸ HL.out) (HN.out ▸ H1.out) ((HV.out.ext HX3.out).ext hw4) (by rw [← HP.out]; have := HG.out; have := HBL.out; show b0 ≠ g; omega)).mono ?_)
    rintro r w5 ⟨A5, c5, rfl, hE5⟩
    refine ⟨_, rfl, ?_⟩
    have HX5 : Hid (Ext w w5) := Lib.hid (HX.out.trans (hE5.ext (HX3.out.trans hw4) (by rw [← HP.out]; exact HG.out)))
    clear hE5 hw4
    refine wpl_norm (a' := ?_) ?_ ?_
    rotate_left
    · show Act.put _ (some 8) _ = _
      simp only [Act.put, List.setIfInBounds_toArray, List.set_cons_zero, List.set_cons_succ]
      rfl
    refine GoodL.start ?_
    refine gl_take (N := some 4) rfl (Yields.gy (gy_pure (by rfl) (fun w_ => by go_simp; with_reducible rfl))) (by simp only [Act.put, List.setIfInBounds_toArray, List.set_cons_zero, List.set_cons_succ]; rfl) ?_
    refine gl_done (fun w6 hw6 => ?_)
    have HX6 : Hid (Ext w w6) := Lib.hid (HX5.out.trans hw6)
    clear hw6
    go_wp2
    go_ret
    exact ⟨A5, c5, rfl, HX6.out⟩
end Go.Proofs.YthmnohecmmknpaaDoor.Vec
namespace Go.Proofs.YthmnohecmmknpaaDoor.Vec
open Go.RowKit Go.Proofs.YthmnohecmmknpaaDoorW.PrintWords Go.Proofs.YthmnohecmmknpaaDoorW.PrintLast Go.Proofs.YthmnohecmmknpaaDoor.Given Go.Proofs.YthmnohecmmknpaaDoor.PA Go.Proofs.YthmnohecmmknpaaDoor.Val
set_option linter.unusedVariables false
set_option linter.unusedSimpArgs false
set_option maxRecDepth 100000
def knownB (v : Vc) (e : Ev) (j : Nat) : Bool := decide (∀ i ∈ List.range j, e.past.at i ≤ v.at i)
def takeB (v : Vc) (e : Ev) : Bool := okB e && (decide (v.at e.rep.toNat = e.cnt - 1) && knownB v e 16)
end Go.Proofs.YthmnohecmmknpaaDoor.Vec
namespace Go.Proofs.YthmnohecmmknpaaDoor.Vec
open Go.RowKit Go.Proofs.YthmnohecmmknpaaDoorW.PrintWords Go.Proofs.YthmnohecmmknpaaDoorW.PrintLast Go.Proofs.YthmnohecmmknpaaDoor.Given Go.Proofs.YthmnohecmmknpaaDoor.PA Go.Proofs.YthmnohecmmknpaaDoor.Val
set_option linter.unusedVariables false
set_option linter.unusedSimpArgs false
set_option maxRecDepth 100000
def pairB (e f : Ev) : Bool := decide (e.past.at f.rep.toNat < f.cnt) || decide (∀ i ∈ List.range 16, f.past.at i ≤ e.past.at i)
def closedB (l : List Ev) : Bool := l.all fun e => l.all fun f => pairB e f
end Go.Proofs.YthmnohecmmknpaaDoor.Vec
namespace Go.Proofs.YthmnohecmmknpaaDoor.Vec
open Go.RowKit Go.Proofs.YthmnohecmmknpaaDoorW.PrintWords Go.Proofs.YthmnohecmmknpaaDoorW.PrintLast Go.Proofs.YthmnohecmmknpaaDoor.Given Go.Proofs.YthmnohecmmknpaaDoor.PA Go.Proofs.YthmnohecmmknpaaDoor.Val
set_option linter.unusedVariables false
set_option linter.unusedSimpArgs false
set_option maxRecDepth 100000
def rowB (l : List Ev) : Bool := decide ((allG Vc.zero [] l).2.2 = 0) && decide ((allG Vc.zero [] l).1.length = l.length)
set_option maxHeartbeats 2000000 in
theorem Row_calls {l : List Ev} {A : Option Addr} {c : Nat} {b : Bool} (w : World) (hC : Kd.C kEv w A l.length l) (hl : l.length ≤ 1000) (hin : ∀ e ∈ l, EvSm e) (hb : rowB l = b) :
    Calls Tryd.prog 12 #[.slice A l.length c] w fun r w' => r = .returned (.bool b) ∧ Ext w w' := by
  have HC := Lib.hid hC
  have HL := Lib.hid hl
  have HIN := Lib.hid hin
  have HB : Hid (∀ r, allG Vc.zero [] l = r → (decide (r.2.2 = 0) && decide (r.1.length = l.length)) = b) := Lib.hid (fun r hr => by rw [← hb, ← hr]; rfl)
  clear hC hl hin hb
  go_enter Tryd.func12, Tryd.ntmps12
  go_upto_region 1 with (fail)
  refine gl_begin (Ext.refl _) ?_
  refine gl_take (N := some 7) rfl (Yields.gy (gy_pure (by rfl) (fun w_ => by go_simp; with_reducible rfl))) (by simp only [Act.put, List.setIfInBounds_toArray, List.set_cons_zero, List.set_cons_succ]; rfl) ?_
  refine gl_take (N := some 8) rfl (Yields.gy (gy_pure (by rfl) (fun w_ => by go_simp; with_reducible rfl))) (by simp only [Act.put, List.setIfInBounds_toArray, List.set_cons_zero, List.set_cons_succ]; rfl) ?_
  refine gl_eff (by rfl) (fun w2 hw2 => ?_)
  refine wp_callF rfl Tryd.func11 (by kernel_rfl) rfl #[vval Vc.zero, .slice A l.length c] (by rfl) ((All_calls Vc.zero w2 (C_ext HC.out hw2) HL.out HIN.out).mono ?_)
  rintro r w3 ⟨sv, rfl, hR, hx⟩
  refine ⟨_, rfl, ?_⟩
  obtain ⟨A', c', rfl⟩ := Kd.R_slice hR
  have HE3 := Lib.hid (hw2.trans hx)
  have HBB := HB.out _ rfl
  generalize (allG Vc.zero [] l).1.length = n1 at *
  generalize (allG Vc.zero [] l).2.2 = x1 at *
  generalize (allG Vc.zero [] l).2.1 = v1 at *
  clear hR hx hw2 HB
  have HB := Lib.hid HBB
  clear HBB
  refine wpl_norm (a' := ?_) ?_ ?_
  rotate_left
  · show Act.put _ (some 9) _ = _
    simp only [Act.put, List.setIfInBounds_toArray, List.set_cons_zero, List.set_cons_succ]
    rfl
  refine GoodL.start ?_
  refine gl_take (N := some 6) rfl (Yields.gy (gy_pure (by rfl) (fun w_ => by go_simp; with_reducible rfl))) (by simp only [Act.put, List.setIfInBounds_toArray, List.set_cons_zero, List.set_cons_succ]; rfl) ?_
  refine gl_take (N := some 10) rfl (Yields.gy (gy_pure (by rfl) (fun w_ => by go_simp; with_reducible rfl))) (by simp only [Act.put, List.setIfInBounds_toArray, List.set_cons_zero, List.set_cons_succ]; rfl) ?_
  refine gl_take (N := some 11) rfl (Yields.gy (gy_pure (by rfl) (fun w_ => by go_simp; with_reducible rfl))) (by simp only [Act.put, List.setIfInBounds_toArray, List.set_cons_zero, List.set_cons_succ]; rfl) ?_
  refine gl_take (N := some 12) rfl (Yields.gy (gy_pure (by rfl) (fun w_ => by go_simp; with_reducible rfl))) (by simp only [Act.put, List.setIfInBounds_toArray, List.set_cons_zero, List.set_cons_succ]; rfl) ?_
  refine gl_eff (by rfl) (fun w4 hw4 => ?_)
  refine wp_alloc0 rfl Tryd.zeroValue26 Tryd.sizeOf26 ?_
  refine wpl_norm (a' := ?_) ?_ ?_
  rotate_left
  · show Act.put _ (some 4) _ = _
    simp only [Act.put, List.setIfInBounds_toArray, List.set_cons_zero, List.set_cons_succ]
    rfl
  refine wpList_plain rfl fun K hK => wp_value rfl (hK _ _ ?_)
  refine wpl_norm (a' := ?_) ?_ ?_
  rotate_left
  · show Act.put _ (some 3) _ = _
    simp only [Act.put, List.setIfInBounds_toArray, List.set_cons_zero, List.set_cons_succ]
    rfl
  refine wpList_store_mid rfl 26 _ _ rfl w4.heap.size 0 (vcells v1).toArray (by rfl) (by rfl) (blk_there (blk_new _ _) 0 _ (by rw [List.size_toArray, vcells_len]; decide)) (by rw [List.size_toArray, vcells_len]; exact info26) (all_oneCell_toArray (vcells_one _)) ?_
  have hX : ∀ o, Ext w ((w4.alloc o).setCells w4.heap.size 0 (vcells v1).toArray.toList) := fun o => Ext.setCells ((HE3.out.trans hw4).alloc o) (HE3.out.trans hw4).le _ _
  refine (?_ : ∀ w5, Ext w w5 → wpList _ _ _ _ _ w5) _ (hX _)
  intro w5 hE5
  have HE5 := Lib.hid hE5
  clear hw4 hX hE5
  refine wpList_plain rfl fun K hK => wp_value rfl (hK _ _ ?_)
  refine wpl_nil ?_
  simp only [Act.put, List.setIfInBounds_toArray, List.set_cons_zero, List.set_cons_succ]
  by_cases h0 : x1 = 0
  · subst h0
    have HB2 : Hid (decide (n1 = l.length) = b) := Lib.hid (by rw [← HB.out]; simp)
    go_upto_region 2 with (fail)
    refine gl_begin (Ext.refl _) ?_
    refine gl_take (N := some 13) rfl (Yields.gy (gy_pure (by rfl) (fun w_ => by go_simp; with_reducible rfl))) (by simp only [Act.put, List.setIfInBounds_toArray, List.set_cons_zero, List.set_cons_succ]; rfl) ?_
    refine gl_take (N := some 14) rfl (Yields.gy (gy_pure (by rfl) (fun w_ => by go_simp; with_reducible rfl))) (by simp only [Act.put, List.setIfInBounds_toArray, List.set_cons_zero, List.set_cons_succ]; rfl) ?_
    refine gl_take (N := some 15) rfl (Yields.gy (gy_pure (by rfl) (fun w_ => by go_simp; with_reducible rfl))) (by simp only [Act.put, List.setIfInBounds_toArray, List.set_cons_zero, List.set_cons_succ]; rfl) ?_
    refine gl_take (N := some 16) rfl (Yields.gy (gy_pure (by rfl) (fun w_ => by go_simp; with_reducible rfl))) (by simp only [Act.put, List.setIfInBounds_toArray, List.set_cons_zero, List.set_cons_succ]; rfl) ?_
    refine gl_take (N := some 17) rfl (Yields.gy (gy_pure (by rfl) (fun w_ => by go_simp; with_reducible rfl))) (by simp only [Act.put, List.setIfInBounds_toArray, List.set_cons_zero, List.set_cons_succ]; rfl) ?_
    refine gl_take (N := some 18) rfl (Yields.gy (gy_pure (by rfl) (fun w_ => by go_simp; with_reducible rfl))) (by simp only [Act.put, List.setIfInBounds_toArray, List.set_cons_zero, List.set_cons_succ]; rfl) ?_
    refine gl_take (N := some 19) rfl (Yields.gy (gy_pure (by rfl) (fun w_ => by go_simp; with_reducible rfl))) (by simp only [Act.put, List.setIfInBounds_toArray, List.set_cons_zero, List.set_cons_succ]; rfl) ?_
    refine gl_take (N := some 20) rfl (Yields.gy (gy_pure (by rfl) (fun w_ => by go_simp; with_reducible rfl))) (by simp only [Act.put, List.setIfInBounds_toArray, List.set_cons_zero, List.set_cons_succ]; rfl) ?_
    refine gl_take (N := some 21) rfl (Yields.gy (gy_pure (by rfl) (fun w_ => by go_simp; with_reducible rfl))) (by simp only [Act.put, List.setIfInBounds_toArray, List.set_cons_zero, List.set_cons_succ]; rfl) ?_
    refine gl_take (N := some 2) rfl (Yields.gy (gy_pure (by rfl) (fun w_ => by go_simp; with_reducible rfl))) (by simp only [Act.put, List.setIfInBounds_toArray, List.set_cons_zero, List.set_cons_succ]; rfl) ?_
    refine gl_done (fun w6 hw6 => ?_)
    go_wp2
    go_ret
    refine ⟨ret_bool ?_, HE5.out.trans hw6⟩
    rw [← HB2.out, Bool.eq_iff_iff, beq_iff_eq, decide_eq_true_eq]
    omega
  · have hx : (x1 == 0) = false := by simpa using h0
    have HX0 : Hid (b = false) := Lib.hid (by rw [← HB.out]; simp [h0])
    clear HB h0
    go_upto_region 2 with (fail)
    refine gl_begin (Ext.refl _) ?_
    refine gl_take (N := some 13) rfl (Yields.gy (gy_pure (by rfl) (fun w_ => by go_simp; with_reducible rfl))) (by simp only [Act.put, List.setIfInBounds_toArray, List.set_cons_zero, List.set_cons_succ]; rfl) ?_
    refine gl_take (N := some 14) rfl (Yields.gy (gy_pure (v := .bool false) (by rfl) (fun w_ => by go_simp; try rw [hx]))) (by simp only [Act.put, List.setIfInBounds_toArray, List.set_cons_zero, List.set_cons_succ]; rfl) ?_
    refine gl_take (N := some 15) rfl (Yields.gy (gy_pure (by rfl) (fun w_ => by go_simp; with_reducible rfl))) (by simp only [Act.put, List.setIfInBounds_toArray, List.set_cons_zero, List.set_cons_succ]; rfl) ?_
    refine gl_take (N := some 16) rfl (Yields.gy (gy_off (by rfl))) (by simp only [Act.put, List.setIfInBounds_toArray, List.set_cons_zero, List.set_cons_succ]; rfl) ?_
    refine gl_take (N := some 17) rfl (Yields.gy (gy_off (by rfl))) (by simp only [Act.put, List.setIfInBounds_toArray, List.set_cons_zero, List.set_cons_succ]; rfl) ?_
    refine gl_take (N := some 18) rfl (Yields.gy (gy_off (by rfl))) (by simp only [Act.put, List.setIfInBounds_toArray, List.set_cons_zero, List.set_cons_succ]; rfl) ?_
    refine gl_take (N := some 19) rfl (Yields.gy (gy_off (by rfl))) (by simp only [Act.put, List.setIfInBounds_toArray, List.set_cons_zero, List.set_cons_succ]; rfl) ?_
    refine gl_take (N := some 20) rfl (Yields.gy (gy_off (by rfl))) (by simp only [Act.put, List.setIfInBounds_toArray, List.set_cons_zero, List.set_cons_succ]; rfl) ?_
    refine gl_take (N := some 21) rfl (Yields.gy (gy_pure (by rfl) (fun w_ => by go_simp; with_reducible rfl))) (by simp only [Act.put, List.setIfInBounds_toArray, List.set_cons_zero, List.set_cons_succ]; rfl) ?_
    refine gl_take (N := some 2) rfl (Yields.gy (gy_pure (by rfl) (fun w_ => by go_simp; with_reducible rfl))) (by simp only [Act.put, List.setIfInBounds_toArray, List.set_cons_zero, List.set_cons_succ]; rfl) ?_
    refine gl_done (fun w6 hw6 => ?_)
    go_wp2
    go_ret
    exact ⟨ret_bool HX0.out.symm, HE5.out.trans hw6⟩
end Go.Proofs.YthmnohecmmknpaaDoor.Vec
namespace Go.Proofs.YthmnohecmmknpaaDoor.Vec
open Go.RowKit Go.Proofs.YthmnohecmmknpaaDoorW.PrintWords Go.Proofs.YthmnohecmmknpaaDoorW.PrintLast Go.Proofs.YthmnohecmmknpaaDoor.Given Go.Proofs.YthmnohecmmknpaaDoor.PA Go.Proofs.YthmnohecmmknpaaDoor.Val
set_option linter.unusedVariables false
set_option linter.unusedSimpArgs false
set_option maxRecDepth 100000
def v1 : Vc := Vc.zero.set 0 1
def v2 : Vc := Vc.zero.set 0 2
def one : Ev := ⟨0, 1, Vc.zero, 1, 1, ⟨#[97]⟩, ⟨#[]⟩, ⟨#[]⟩, ⟨#[]⟩, 0, 0, ⟨#[]⟩⟩
def two : Ev := ⟨0, 2, v1, 1, 1, ⟨#[97]⟩, ⟨#[]⟩, ⟨#[]⟩, ⟨#[]⟩, 0, 0, ⟨#[]⟩⟩
theorem ok_one : okB one = true := by decide +kernel
theorem one_two : oneE Vc.zero two = 8 := by decide +kernel
theorem one_one : oneE v1 one = 5 := by decide +kernel
theorem one_evz : oneE Vc.zero evz = 1 := by decide +kernel
theorem all_three : allG Vc.zero [] [one, one, two] = ([one, two], v2, 0) := by decide +kernel
theorem row_two : rowB [one, two] = true := by decide +kernel
theorem row_one : rowB [two] = false := by decide +kernel
theorem lack_one : ([one, two].filter (nk v1)).length = 1 := by decide +kernel
theorem past_12 : pastB one two < 0 := by decide +kernel
theorem wp_lit {o : Oper} {a : Act} {w : World} {K : Act → World → Prop} {Q : Exit → Act → World → Prop} (l : List Ev) {n : Nat} {os : Array (Nat × Operand)} (ho : o.op = .buildSlice 22 n os) (hn : l.length = n)
    (hp : os.toList.map (fun p => (p.1, a.eval p.2)) = ((l.map evval).zipIdx 0).map fun x => (x.2, x.1)) (h1 : 1 ≤ n) (h2 : n ≤ 1000)
    (h : ∀ w', Row w' ⟨w.heap.size, 0, none⟩ l [] → Ext w w' → K (a.put o.dst (.slice (some ⟨w.heap.size, 0, none⟩) n n)) w') : o.wp Tryd.prog a w K Q := by
  subst hn
  refine wp_value (w1 := w.alloc (.cells (l.flatMap ecells).toArray 36)) ?_ (h _ ⟨_, rfl, ?_⟩ ((Ext.refl w).alloc _))
  · unfold execOp
    simp only [ho, Sem.run_bind]
    have hr := run_lit l h1 h2 (os.map fun p => (p.1, a.eval p.2)) (by rw [Array.toList_map]; exact hp) w
    erw [hr]
    rfl
  · rw [List.append_nil]
    exact blk_new _ _
theorem sm_one : EvSm one := by constructor <;> decide +kernel
theorem sm_two : EvSm two := by constructor <;> decide +kernel
theorem sm_evz : EvSm evz := by constructor <;> decide +kernel
theorem perm_two {l : List Ev} (hp : l.Perm [two, one]) (hs : Srt l) : l = [one, two] := by
  have hl := hp.length_eq
  match l, hl with
  | [x, y], _ =>
    have hx : x = two ∨ x = one := by
      have h : x ∈ [two, one] := hp.mem_iff.1 (by simp)
      simpa using h
    rcases hx with rfl | rfl
    · have h := (List.perm_cons two).1 hp
      have h2 := List.perm_singleton.1 h
      rw [List.cons.injEq] at h2
      obtain ⟨rfl, _⟩ := h2
      have h3 := (List.pairwise_cons.1 hs).1 one (by simp)
      exact absurd past_12 h3
    · have h := (List.perm_cons one).1 (hp.trans (List.Perm.swap one two []))
      have h2 := List.perm_singleton.1 h
      rw [List.cons.injEq] at h2
      rw [h2.1]
theorem oneA (w : World) : Calls Tryd.prog 14 #[vval Vc.zero, evval two] w fun r w' => r = .returned (.int .i64 8) ∧ Ext w w' := by
  have h := One_calls Vc.zero sm_two w
  rwa [one_two] at h
theorem oneB (w : World) : Calls Tryd.prog 14 #[vval v1, evval one] w fun r w' => r = .returned (.int .i64 5) ∧ Ext w w' := by
  have h := One_calls v1 sm_one w
  rwa [one_one] at h
theorem oneC (w : World) : Calls Tryd.prog 14 #[vval Vc.zero, evval evz] w fun r w' => r = .returned (.int .i64 1) ∧ Ext w w' := by
  have h := One_calls Vc.zero sm_evz w
  rwa [one_evz] at h
theorem box_n (w : World) : ∃ W1 b1, w.alloc (.cells (elemc one).toArray 32) = W1 ∧ w.heap.size = b1 ∧ Ext w W1 ∧ W1.heap[b1]? = some (.cells (elemc one).toArray 32 (0, 0)) :=
  ⟨_, _, rfl, rfl, (Ext.refl w).alloc _, blk_new _ _⟩
theorem elemc_one : (elemc one).toArray = #[.int .i64 1, .string ⟨#[97]⟩, .string ⟨#[]⟩, .string ⟨#[]⟩, .string ⟨#[]⟩] := rfl
set_option maxHeartbeats 16000000 in
theorem fixed_calls (w : World) : Calls Tryd.prog 6 #[] w fun r w' => r = .returned (.bool true) ∧ Ext w w' := by
  obtain ⟨W1, b1, hW, hb, hx, h1⟩ := box_n w
  rw [elemc_one] at hW
  have HX := Lib.hid hx
  have HW := Lib.hid hW
  have HS := Lib.hid hb
  have H1 := Lib.hid h1
  clear hx hW hb h1
  go_enter Tryd.func6, Tryd.ntmps6
  go_upto_region 2 with (fail)
  rw [HW.out, HS.out]
  have rn : W1.rangeAt b1 0 [.int .i64 1, .string ⟨#[97]⟩, .string ⟨#[]⟩, .string ⟨#[]⟩, .string ⟨#[]⟩] := blk_range H1.out
  refine gl_begin (Ext.refl _) ?_
  refine gl_take (N := some 9) rfl (Yields.gy (gy_pure (by rfl) (fun w_ => by go_simp; with_reducible rfl))) (by simp only [Act.put, List.setIfInBounds_toArray, List.set_cons_zero, List.set_cons_succ]; rfl) ?_
  refine gl_take (N := some 10) rfl (gy_row (by rfl) rfl (by rfl) (by with_reducible assumption) Tryd.underlying32 rfl (by first | exact vinfo _ | exact einfo _ | kernel_rfl)) (by simp only [Act.put, List.setIfInBounds_toArray, List.set_cons_zero, List.set_cons_succ]; rfl) ?_
  refine gl_take (N := some 11) rfl (Yields.gy (gy_pure (by rfl) (fun w_ => by go_simp; with_reducible rfl))) (by simp only [Act.put, List.setIfInBounds_toArray, List.set_cons_zero, List.set_cons_succ]; rfl) ?_
  refine (fun w2 hw2 => ?_)
  refine wpl_var (e := one) rfl rfl rfl rfl rfl rfl (by rfl) (by rfl) (fun w3 hv3 hx3 => wpl_nil ?_)
  have HX3 : Hid (Ext w w3) := Lib.hid (HX.out.trans (hw2.trans hx3))
  have HN3 := Lib.hid ((hw2.trans hx3).blk H1.out)
  have HO3 := Lib.hid hv3
  generalize w2.heap.size = b2 at *
  clear hw2 hx3 hv3 rn
  simp only [Act.put, List.setIfInBounds_toArray, List.set_cons_zero, List.set_cons_succ]
  have rn : w3.rangeAt b1 0 [.int .i64 1, .string ⟨#[97]⟩, .string ⟨#[]⟩, .string ⟨#[]⟩, .string ⟨#[]⟩] := blk_range HN3.out
  go_upto_region 3 with (fail)
  refine gl_begin (Ext.refl _) ?_
  refine gl_take (N := some 12) rfl (Yields.gy (gy_pure (by rfl) (fun w_ => by go_simp; with_reducible rfl))) (by simp only [Act.put, List.setIfInBounds_toArray, List.set_cons_zero, List.set_cons_succ]; rfl) ?_
  refine gl_take (N := some 13) rfl (Yields.gy (gy_pure (by rfl) (fun w_ => by go_simp; with_reducible rfl))) (by simp only [Act.put, List.setIfInBounds_toArray, List.set_cons_zero, List.set_cons_succ]; rfl) ?_
  refine gl_take (N := some 14) rfl (gy_row (by rfl) rfl (by rfl) (by with_reducible assumption) Tryd.underlying32 rfl (by first | exact vinfo _ | exact einfo _ | kernel_rfl)) (by simp only [Act.put, List.setIfInBounds_toArray, List.set_cons_zero, List.set_cons_succ]; rfl) ?_
  refine gl_take (N := some 15) rfl (Yields.gy (gy_pure (by rfl) (fun w_ => by go_simp; with_reducible rfl))) (by simp only [Act.put, List.setIfInBounds_toArray, List.set_cons_zero, List.set_cons_succ]; rfl) ?_
  refine (fun w4 hw4 => ?_)
  refine wpl_var (e := two) rfl rfl rfl rfl rfl rfl (by rfl) (by rfl) (fun w5 hv5 hx5 => wpl_nil ?_)
  have HX5 : Hid (Ext w w5) := Lib.hid (HX3.out.trans (hw4.trans hx5))
  have HO5 := Lib.hid ((hw4.trans hx5).blk HO3.out)
  have HT5 := Lib.hid hv5
  generalize w4.heap.size = b3 at *
  clear hw4 hx5 hv5 rn HN3 HO3
  simp only [Act.put, List.setIfInBounds_toArray, List.set_cons_zero, List.set_cons_succ]
  have ro := blk_range HO5.out
  have rt := blk_range HT5.out
  go_upto_region 4 with (fail)
  refine gl_begin (Ext.refl _) ?_
  refine gl_take (N := some 17) rfl (Yields.gy (gy_pure (by rfl) (fun w_ => by go_simp; with_reducible rfl))) (by simp only [Act.put, List.setIfInBounds_toArray, List.set_cons_zero, List.set_cons_succ]; rfl) ?_
  refine gl_take (N := some 18) rfl (gy_row (by rfl) rfl (by rfl) (by with_reducible assumption) Tryd.underlying36 rfl (by first | exact vinfo _ | exact einfo _ | kernel_rfl)) (by simp only [Act.put, List.setIfInBounds_toArray, List.set_cons_zero, List.set_cons_succ]; rfl) ?_
  refine gl_take (N := some 19) rfl (gy_row (by rfl) rfl (by rfl) (by with_reducible assumption) Tryd.underlying36 rfl (by first | exact vinfo _ | exact einfo _ | kernel_rfl)) (by simp only [Act.put, List.setIfInBounds_toArray, List.set_cons_zero, List.set_cons_succ]; rfl) ?_
  refine gl_take (N := some 20) rfl (gy_row (by rfl) rfl (by rfl) (by with_reducible assumption) Tryd.underlying36 rfl (by first | exact vinfo _ | exact einfo _ | kernel_rfl)) (by simp only [Act.put, List.setIfInBounds_toArray, List.set_cons_zero, List.set_cons_succ]; rfl) ?_
  refine gl_eff (by rfl) (fun w6 hw6 => ?_)
  refine wp_lit [one, one, two] rfl rfl (by rfl) (by decide) (by decide) (fun w7 hR7 hx7 => ?_)
  have HX7 : Hid (Ext w5 w7) := Lib.hid (hw6.trans hx7)
  have HR7 := Lib.hid hR7
  generalize w6.heap.size = g7 at *
  clear hw6 hx7 hR7 ro rt
  refine wpl_norm (a' := ?_) ?_ ?_
  rotate_left
  · show Act.put _ (some 21) _ = _
    simp only [Act.put, List.setIfInBounds_toArray, List.set_cons_zero, List.set_cons_succ]
    rfl
  refine wpList_plain rfl fun K hK => ?_
  refine wp_callF rfl Tryd.func11 (by kernel_rfl) rfl #[vval Vc.zero, .slice (some ⟨g7, 0, none⟩) 3 3] (by rfl) ((All_calls (l := [one, one, two]) Vc.zero w7 (HR7.out.C (by decide)) (by decide) (by simp [sm_one, sm_two])).mono ?_)
  rw [all_three]
  rintro r w8 ⟨sv, rfl, hR, hx⟩
  refine ⟨_, rfl, hK _ _ ?_⟩
  obtain ⟨A8, c8, hsv⟩ := Kd.R_slice hR
  have hsv' : sv = .slice A8 2 c8 := hsv
  subst hsv'
  have HX8 : Hid (Ext w5 w8) := Lib.hid (HX7.out.trans hx)
  have HL8 : Hid (Kd.C kEv w8 A8 2 [one, two]) := Lib.hid (by
    obtain ⟨A9, c9, h9, _, hc⟩ := Kd.R_reads hR
    have e : A8 = A9 := by injection h9
    rw [e]
    exact hc)
  clear hR hx hsv hK
  refine wpl_norm (a' := ?_) ?_ ?_
  rotate_left
  · show Act.put _ (some 22) _ = _
    simp only [Act.put, List.setIfInBounds_toArray, List.set_cons_zero, List.set_cons_succ]
    rfl
  refine GoodL.start ?_
  refine gl_take (N := some 16) rfl (Yields.gy (gy_pure (by rfl) (fun w_ => by go_simp; with_reducible rfl))) (by simp only [Act.put, List.setIfInBounds_toArray, List.set_cons_zero, List.set_cons_succ]; rfl) ?_
  refine gl_take (N := some 23) rfl (Yields.gy (gy_pure (by rfl) (fun w_ => by go_simp; with_reducible rfl))) (by simp only [Act.put, List.setIfInBounds_toArray, List.set_cons_zero, List.set_cons_succ]; rfl) ?_
  refine gl_take (N := some 24) rfl (Yields.gy (gy_pure (by rfl) (fun w_ => by go_simp; with_reducible rfl))) (by simp only [Act.put, List.setIfInBounds_toArray, List.set_cons_zero, List.set_cons_succ]; rfl) ?_
  refine gl_take (N := some 25) rfl (Yields.gy (gy_pure (by rfl) (fun w_ => by go_simp; with_reducible rfl))) (by simp only [Act.put, List.setIfInBounds_toArray, List.set_cons_zero, List.set_cons_succ]; rfl) ?_
  refine gl_eff (by rfl) (fun w9 hw9 => ?_)
  refine wp_alloc0 rfl Tryd.zeroValue26 Tryd.sizeOf26 ?_
  refine wpl_norm (a' := ?_) ?_ ?_
  rotate_left
  · show Act.put _ (some 5) _ = _
    simp only [Act.put, List.setIfInBounds_toArray, List.set_cons_zero, List.set_cons_succ]
    rfl
  refine wpList_plain rfl fun K hK => wp_value (v := .slice A8 2 c8) rfl (hK _ _ ?_)
  refine wpl_norm (a' := ?_) ?_ ?_
  rotate_left
  · show Act.put _ (some 4) _ = _
    simp only [Act.put, List.setIfInBounds_toArray, List.set_cons_zero, List.set_cons_succ]
    rfl
  refine wpList_store_mid rfl 26 _ _ rfl w9.heap.size 0 (vcells v2).toArray (by rfl) (by rfl) (blk_there (blk_new _ _) 0 _ (by rw [List.size_toArray, vcells_len]; decide)) (by rw [List.size_toArray, vcells_len]; exact info26) (all_oneCell_toArray (vcells_one _)) ?_
  have hX : ∀ o, Ext w5 ((w9.alloc o).setCells w9.heap.size 0 (vcells v2).toArray.toList) := fun o => Ext.setCells ((HX8.out.trans hw9).alloc o) (HX8.out.trans hw9).le _ _
  have hX8 : ∀ o, Ext w8 ((w9.alloc o).setCells w9.heap.size 0 (vcells v2).toArray.toList) := fun o => Ext.setCells (hw9.alloc o) hw9.le _ _
  refine (?_ : ∀ w10, Ext w5 w10 → Ext w8 w10 → VecAt w10 w9.heap.size v2 → wpList _ _ _ _ _ w10) _ (hX _) (hX8 _) (setCells_whole (cs := vcells Vc.zero) (blk_new _ _) (by rw [List.toList_toArray, vcells_len, vcells_len]))
  intro w10 hx5 hx8 hv
  have HX10 := Lib.hid hx5
  have HL10 := Lib.hid (C_ext HL8.out hx8)
  have HV10 := Lib.hid hv
  generalize w9.heap.size = b4 at *
  clear hX hX8 hx5 hx8 hv hw9 HL8 hK
  refine wpList_plain rfl fun K hK => wp_value (v := .int .i64 0) rfl (hK _ _ ?_)
  refine wpl_nil ?_
  simp only [Act.put, List.setIfInBounds_toArray, List.set_cons_zero, List.set_cons_succ]
  have ro := blk_range (HX10.out.blk HO5.out)
  have rt := blk_range (HX10.out.blk HT5.out)
  clear hK
  go_upto_region 5 with (fail)
  refine gl_begin (Ext.refl _) ?_
  refine gl_take (N := some 26) rfl (gy_row (by rfl) rfl (by rfl) (by with_reducible assumption) Tryd.underlying36 rfl (by first | exact vinfo _ | exact einfo _ | kernel_rfl)) (by simp only [Act.put, List.setIfInBounds_toArray, List.set_cons_zero, List.set_cons_succ]; rfl) ?_
  refine gl_take (N := some 27) rfl (gy_row (by rfl) rfl (by rfl) (by with_reducible assumption) Tryd.underlying36 rfl (by first | exact vinfo _ | exact einfo _ | kernel_rfl)) (by simp only [Act.put, List.setIfInBounds_toArray, List.set_cons_zero, List.set_cons_succ]; rfl) ?_
  refine gl_eff (by rfl) (fun w11 hw11 => ?_)
  refine wp_lit [two, one] rfl rfl (by rfl) (by decide) (by decide) (fun w12 hR12 hx12 => ?_)
  have HX12 : Hid (Ext w10 w12) := Lib.hid (hw11.trans hx12)
  have HR12 := Lib.hid hR12
  generalize w11.heap.size = g11 at *
  clear hw11 hx12 hR12 ro rt
  refine wpl_norm (a' := ?_) ?_ ?_
  rotate_left
  · show Act.put _ (some 28) _ = _
    simp only [Act.put, List.setIfInBounds_toArray, List.set_cons_zero, List.set_cons_succ]
    rfl
  refine wpList_plain rfl fun K hK => ?_
  refine wp_callF rfl Tryd.func10 (by kernel_rfl) rfl #[.slice (some ⟨g11, 0, none⟩) 2 2] (by rfl) ((Sort_calls (l := [two, one]) w12 (HR12.out.C (by decide)) (by decide)).mono ?_)
  rintro r w13 ⟨sv, l', rfl, hp, hs, ho, hx⟩
  refine ⟨_, rfl, hK _ _ ?_⟩
  obtain rfl := perm_two hp hs
  have hR := R_of_own ho
  obtain ⟨ad, c13, hsv⟩ := Kd.R_slice1 hR (by decide)
  have hsv' : sv = .slice (some ad) 2 c13 := hsv
  subst hsv'
  have HX13 : Hid (Ext w10 w13) := Lib.hid (HX12.out.trans hx)
  have HC13 : Hid (Kd.C kEv w13 (some ad) 2 [one, two]) := Lib.hid (by
    obtain ⟨A9, c9, h9, _, hc⟩ := Kd.R_reads hR
    have e : some ad = A9 := by injection h9
    rw [e]
    exact hc)
  clear hR hx hsv hK hp hs ho
  refine wpl_norm (a' := ?_) ?_ ?_
  rotate_left
  · show Act.put _ (some 29) _ = _
    simp only [Act.put, List.setIfInBounds_toArray, List.set_cons_zero, List.set_cons_succ]
    rfl
  refine GoodL.start ?_
  refine gl_take (N := some 7) rfl (Yields.gy (gy_pure (by rfl) (fun w_ => by go_simp; with_reducible rfl))) (by simp only [Act.put, List.setIfInBounds_toArray, List.set_cons_zero, List.set_cons_succ]; rfl) ?_
  refine gl_done (fun w14 hw14 => ?_)
  have HX14 : Hid (Ext w10 w14) := Lib.hid (HX13.out.trans hw14)
  have HL14 := Lib.hid (C_ext HL10.out HX14.out)
  have HV14 := Lib.hid (HV10.out.ext HX14.out)
  have HO14 := Lib.hid (HX14.out.blk (HX10.out.blk HO5.out))
  have HT14 := Lib.hid (HX14.out.blk (HX10.out.blk HT5.out))
  obtain ⟨ad', had, hat⟩ := ev_at (C_ext HC13.out hw14) rfl (i := 0) (x := one) rfl
  obtain rfl : ad = ad' := by injection had
  have hat' : AtR w14 ad (ecells one) := by
    intro j u hu
    have h := hat j u hu
    rwa [Addr.add_add, Nat.zero_mul, Nat.zero_add] at h
  have ro := blk_range HO14.out
  have rt := blk_range HT14.out
  have rv := blk_range HV14.out
  clear had hw14
  go_upto_region 6 with (fail)
  refine g_begin (by kernel_rfl) (Ext.refl _) (List.toArray (false :: false :: false :: false :: false :: false :: false :: false :: false :: false :: false :: false :: false :: false :: false :: false :: false :: false :: false :: false :: false :: false :: false :: false :: false :: false :: false :: false :: false :: false :: false :: false :: false :: false :: false :: false :: false :: false :: false :: false :: false :: false :: false :: false :: false :: false :: false :: false :: false :: false :: false :: false :: false :: false :: false :: false :: false :: [])) 57 rfl rfl ?_
  refine g_take 0 (List.toArray (true :: false :: false :: false :: false :: false :: false :: false :: false :: false :: false :: false :: false :: false :: false :: false :: false :: false :: false :: false :: false :: false :: false :: false :: false :: false :: false :: false :: false :: false :: false :: false :: false :: false :: false :: false :: false :: false :: false :: false :: false :: false :: false :: false :: false :: false :: false :: false :: false :: false :: false :: false :: false :: false :: false :: false :: false :: [])) (N := some 30) rfl rfl (by kernel_rfl) (fun _ _ _ h => h) (GP.p (gy_pure (by rfl) (fun w_ => by go_simp; with_reducible rfl))) (by simp only [Act.put, List.setIfInBounds_toArray, List.set_cons_zero, List.set_cons_succ]; rfl) ?_
  refine g_take 1 (List.toArray (true :: true :: false :: false :: false :: false :: false :: false :: false :: false :: false :: false :: false :: false :: false :: false :: false :: false :: false :: false :: false :: false :: false :: false :: false :: false :: false :: false :: false :: false :: false :: false :: false :: false :: false :: false :: false :: false :: false :: false :: false :: false :: false :: false :: false :: false :: false :: false :: false :: false :: false :: false :: false :: false :: false :: false :: false :: [])) (N := some 31) rfl rfl (by kernel_rfl) (fun _ _ _ h => h) (GP.rd (by rfl) (gy_row (by rfl) rfl (by rfl) (by with_reducible assumption) Tryd.underlying36 rfl (by first | exact vinfo _ | exact einfo _ | kernel_rfl))) (by simp only [Act.put, List.setIfInBounds_toArray, List.set_cons_zero, List.set_cons_succ]; rfl) ?_
  refine g_take 2 (List.toArray (true :: true :: true :: false :: false :: false :: false :: false :: false :: false :: false :: false :: false :: false :: false :: false :: false :: false :: false :: false :: false :: false :: false :: false :: false :: false :: false :: false :: false :: false :: false :: false :: false :: false :: false :: false :: false :: false :: false :: false :: false :: false :: false :: false :: false :: false :: false :: false :: false :: false :: false :: false :: false :: false :: false :: false :: false :: [])) (N := some 32) rfl rfl (by kernel_rfl) (fun _ _ _ h => h) (GP.rd (by rfl) (gy_call (by rfl) rfl Tryd.func14 (by kernel_rfl) rfl #[_, _] (by rfl) (fun w _ => oneA w))) (by simp only [Act.put, List.setIfInBounds_toArray, List.set_cons_zero, List.set_cons_succ]; rfl) ?_
  refine g_take 3 (List.toArray (true :: true :: true :: true :: false :: false :: false :: false :: false :: false :: false :: false :: false :: false :: false :: false :: false :: false :: false :: false :: false :: false :: false :: false :: false :: false :: false :: false :: false :: false :: false :: false :: false :: false :: false :: false :: false :: false :: false :: false :: false :: false :: false :: false :: false :: false :: false :: false :: false :: false :: false :: false :: false :: false :: false :: false :: false :: [])) (N := some 33) rfl rfl (by kernel_rfl) (fun _ _ _ h => h) (GP.p (gy_pure (by rfl) (fun w_ => by go_simp; with_reducible rfl))) (by simp only [Act.put, List.setIfInBounds_toArray, List.set_cons_zero, List.set_cons_succ]; rfl) ?_
  refine g_take 4 (List.toArray (true :: true :: true :: true :: true :: false :: false :: false :: false :: false :: false :: false :: false :: false :: false :: false :: false :: false :: false :: false :: false :: false :: false :: false :: false :: false :: false :: false :: false :: false :: false :: false :: false :: false :: false :: false :: false :: false :: false :: false :: false :: false :: false :: false :: false :: false :: false :: false :: false :: false :: false :: false :: false :: false :: false :: false :: false :: [])) (N := some 34) rfl rfl (by kernel_rfl) (fun _ _ _ h => h) (GP.p (gy_pure (by rfl) (fun w_ => by go_simp; with_reducible rfl))) (by simp only [Act.put, List.setIfInBounds_toArray, List.set_cons_zero, List.set_cons_succ]; rfl) ?_
  refine g_take 5 (List.toArray (true :: true :: true :: true :: true :: true :: false :: false :: false :: false :: false :: false :: false :: false :: false :: false :: false :: false :: false :: false :: false :: false :: false :: false :: false :: false :: false :: false :: false :: false :: false :: false :: false :: false :: false :: false :: false :: false :: false :: false :: false :: false :: false :: false :: false :: false :: false :: false :: false :: false :: false :: false :: false :: false :: false :: false :: false :: [])) (N := some 35) rfl rfl (by kernel_rfl) (fun _ _ _ h => h) (GP.p (gy_pure (by rfl) (fun w_ => by go_simp; with_reducible rfl))) (by simp only [Act.put, List.setIfInBounds_toArray, List.set_cons_zero, List.set_cons_succ]; rfl) ?_
  refine g_take 6 (List.toArray (true :: true :: true :: true :: true :: true :: true :: false :: false :: false :: false :: false :: false :: false :: false :: false :: false :: false :: false :: false :: false :: false :: false :: false :: false :: false :: false :: false :: false :: false :: false :: false :: false :: false :: false :: false :: false :: false :: false :: false :: false :: false :: false :: false :: false :: false :: false :: false :: false :: false :: false :: false :: false :: false :: false :: false :: false :: [])) (N := some 36) rfl rfl (by kernel_rfl) (fun _ _ _ h => h) (GP.rd (by rfl) (gy_row (by rfl) rfl (by rfl) (by with_reducible assumption) Tryd.underlying36 rfl (by first | exact vinfo _ | exact einfo _ | kernel_rfl))) (by simp only [Act.put, List.setIfInBounds_toArray, List.set_cons_zero, List.set_cons_succ]; rfl) ?_
  refine g_take 7 (List.toArray (true :: true :: true :: true :: true :: true :: true :: true :: false :: false :: false :: false :: false :: false :: false :: false :: false :: false :: false :: false :: false :: false :: false :: false :: false :: false :: false :: false :: false :: false :: false :: false :: false :: false :: false :: false :: false :: false :: false :: false :: false :: false :: false :: false :: false :: false :: false :: false :: false :: false :: false :: false :: false :: false :: false :: false :: false :: [])) (N := some 37) rfl rfl (by kernel_rfl) (fun _ _ _ h => h) (GP.rd (by rfl) (gy_call (by rfl) rfl Tryd.func14 (by kernel_rfl) rfl #[_, _] (by rfl) (fun w _ => oneB w))) (by simp only [Act.put, List.setIfInBounds_toArray, List.set_cons_zero, List.set_cons_succ]; rfl) ?_
  refine g_take 8 (List.toArray (true :: true :: true :: true :: true :: true :: true :: true :: true :: false :: false :: false :: false :: false :: false :: false :: false :: false :: false :: false :: false :: false :: false :: false :: false :: false :: false :: false :: false :: false :: false :: false :: false :: false :: false :: false :: false :: false :: false :: false :: false :: false :: false :: false :: false :: false :: false :: false :: false :: false :: false :: false :: false :: false :: false :: false :: false :: [])) (N := some 38) rfl rfl (by kernel_rfl) (fun _ _ _ h => h) (GP.p (gy_pure (by rfl) (fun w_ => by go_simp; with_reducible rfl))) (by simp only [Act.put, List.setIfInBounds_toArray, List.set_cons_zero, List.set_cons_succ]; rfl) ?_
  refine g_take 9 (List.toArray (true :: true :: true :: true :: true :: true :: true :: true :: true :: true :: false :: false :: false :: false :: false :: false :: false :: false :: false :: false :: false :: false :: false :: false :: false :: false :: false :: false :: false :: false :: false :: false :: false :: false :: false :: false :: false :: false :: false :: false :: false :: false :: false :: false :: false :: false :: false :: false :: false :: false :: false :: false :: false :: false :: false :: false :: false :: [])) (N := some 39) rfl rfl (by kernel_rfl) (fun _ _ _ h => h) (GP.p (gy_pure (by rfl) (fun w_ => by go_simp; with_reducible rfl))) (by simp only [Act.put, List.setIfInBounds_toArray, List.set_cons_zero, List.set_cons_succ]; rfl) ?_
  refine g_take 10 (List.toArray (true :: true :: true :: true :: true :: true :: true :: true :: true :: true :: true :: false :: false :: false :: false :: false :: false :: false :: false :: false :: false :: false :: false :: false :: false :: false :: false :: false :: false :: false :: false :: false :: false :: false :: false :: false :: false :: false :: false :: false :: false :: false :: false :: false :: false :: false :: false :: false :: false :: false :: false :: false :: false :: false :: false :: false :: false :: [])) (N := some 40) rfl rfl (by kernel_rfl) (fun _ _ _ h => h) (GP.p (gy_pure (by rfl) (fun w_ => by go_simp; with_reducible rfl))) (by simp only [Act.put, List.setIfInBounds_toArray, List.set_cons_zero, List.set_cons_succ]; rfl) ?_
  refine g_take 11 (List.toArray (true :: true :: true :: true :: true :: true :: true :: true :: true :: true :: true :: true :: false :: false :: false :: false :: false :: false :: false :: false :: false :: false :: false :: false :: false :: false :: false :: false :: false :: false :: false :: false :: false :: false :: false :: false :: false :: false :: false :: false :: false :: false :: false :: false :: false :: false :: false :: false :: false :: false :: false :: false :: false :: false :: false :: false :: false :: [])) (N := some 41) rfl rfl (by kernel_rfl) (fun _ _ _ h => h) (GP.p (gy_pure (by rfl) (fun w_ => by go_simp; with_reducible rfl))) (by simp only [Act.put, List.setIfInBounds_toArray, List.set_cons_zero, List.set_cons_succ]; rfl) ?_
  refine g_take 12 (List.toArray (true :: true :: true :: true :: true :: true :: true :: true :: true :: true :: true :: true :: true :: false :: false :: false :: false :: false :: false :: false :: false :: false :: false :: false :: false :: false :: false :: false :: false :: false :: false :: false :: false :: false :: false :: false :: false :: false :: false :: false :: false :: false :: false :: false :: false :: false :: false :: false :: false :: false :: false :: false :: false :: false :: false :: false :: false :: [])) (N := some 42) rfl rfl (by kernel_rfl) (fun _ _ _ h => h) (GP.p (gy_pure (by rfl) (fun w_ => by go_simp; with_reducible rfl))) (by simp only [Act.put, List.setIfInBounds_toArray, List.set_cons_zero, List.set_cons_succ]; rfl) ?_
  refine g_take 13 (List.toArray (true :: true :: true :: true :: true :: true :: true :: true :: true :: true :: true :: true :: true :: true :: false :: false :: false :: false :: false :: false :: false :: false :: false :: false :: false :: false :: false :: false :: false :: false :: false :: false :: false :: false :: false :: false :: false :: false :: false :: false :: false :: false :: false :: false :: false :: false :: false :: false :: false :: false :: false :: false :: false :: false :: false :: false :: false :: [])) (N := some 43) rfl rfl (by kernel_rfl) (fun _ _ _ h => h) (GP.rd (by rfl) (gy_call (by rfl) rfl Tryd.func14 (by kernel_rfl) rfl #[_, _] (by rfl) (fun w _ => oneC w))) (by simp only [Act.put, List.setIfInBounds_toArray, List.set_cons_zero, List.set_cons_succ]; rfl) ?_
  refine g_take 14 (List.toArray (true :: true :: true :: true :: true :: true :: true :: true :: true :: true :: true :: true :: true :: true :: true :: false :: false :: false :: false :: false :: false :: false :: false :: false :: false :: false :: false :: false :: false :: false :: false :: false :: false :: false :: false :: false :: false :: false :: false :: false :: false :: false :: false :: false :: false :: false :: false :: false :: false :: false :: false :: false :: false :: false :: false :: false :: false :: [])) (N := some 44) rfl rfl (by kernel_rfl) (fun _ _ _ h => h) (GP.p (gy_pure (by rfl) (fun w_ => by go_simp; with_reducible rfl))) (by simp only [Act.put, List.setIfInBounds_toArray, List.set_cons_zero, List.set_cons_succ]; rfl) ?_
  refine g_take 15 (List.toArray (true :: true :: true :: true :: true :: true :: true :: true :: true :: true :: true :: true :: true :: true :: true :: true :: false :: false :: false :: false :: false :: false :: false :: false :: false :: false :: false :: false :: false :: false :: false :: false :: false :: false :: false :: false :: false :: false :: false :: false :: false :: false :: false :: false :: false :: false :: false :: false :: false :: false :: false :: false :: false :: false :: false :: false :: false :: [])) (N := some 45) rfl rfl (by kernel_rfl) (fun _ _ _ h => h) (GP.p (gy_pure (by rfl) (fun w_ => by go_simp; with_reducible rfl))) (by simp only [Act.put, List.setIfInBounds_toArray, List.set_cons_zero, List.set_cons_succ]; rfl) ?_
  refine g_take 16 (List.toArray (true :: true :: true :: true :: true :: true :: true :: true :: true :: true :: true :: true :: true :: true :: true :: true :: true :: false :: false :: false :: false :: false :: false :: false :: false :: false :: false :: false :: false :: false :: false :: false :: false :: false :: false :: false :: false :: false :: false :: false :: false :: false :: false :: false :: false :: false :: false :: false :: false :: false :: false :: false :: false :: false :: false :: false :: false :: [])) (N := some 46) rfl rfl (by kernel_rfl) (fun _ _ _ h => h) (GP.p (gy_pure (by rfl) (fun w_ => by go_simp; with_reducible rfl))) (by simp only [Act.put, List.setIfInBounds_toArray, List.set_cons_zero, List.set_cons_succ]; rfl) ?_
  refine g_take 17 (List.toArray (true :: true :: true :: true :: true :: true :: true :: true :: true :: true :: true :: true :: true :: true :: true :: true :: true :: true :: false :: false :: false :: false :: false :: false :: false :: false :: false :: false :: false :: false :: false :: false :: false :: false :: false :: false :: false :: false :: false :: false :: false :: false :: false :: false :: false :: false :: false :: false :: false :: false :: false :: false :: false :: false :: false :: false :: false :: [])) (N := some 47) rfl rfl (by kernel_rfl) (fun _ _ _ h => h) (GP.p (gy_pure (by rfl) (fun w_ => by go_simp; with_reducible rfl))) (by simp only [Act.put, List.setIfInBounds_toArray, List.set_cons_zero, List.set_cons_succ]; rfl) ?_
  refine g_take 18 (List.toArray (true :: true :: true :: true :: true :: true :: true :: true :: true :: true :: true :: true :: true :: true :: true :: true :: true :: true :: true :: false :: false :: false :: false :: false :: false :: false :: false :: false :: false :: false :: false :: false :: false :: false :: false :: false :: false :: false :: false :: false :: false :: false :: false :: false :: false :: false :: false :: false :: false :: false :: false :: false :: false :: false :: false :: false :: false :: [])) (N := some 48) rfl rfl (by kernel_rfl) (fun _ _ _ h => h) (GP.p (gy_pure (by rfl) (fun w_ => by go_simp; with_reducible rfl))) (by simp only [Act.put, List.setIfInBounds_toArray, List.set_cons_zero, List.set_cons_succ]; rfl) ?_
  refine g_take 19 (List.toArray (true :: true :: true :: true :: true :: true :: true :: true :: true :: true :: true :: true :: true :: true :: true :: true :: true :: true :: true :: true :: false :: false :: false :: false :: false :: false :: false :: false :: false :: false :: false :: false :: false :: false :: false :: false :: false :: false :: false :: false :: false :: false :: false :: false :: false :: false :: false :: false :: false :: false :: false :: false :: false :: false :: false :: false :: false :: [])) (N := some 49) rfl rfl (by kernel_rfl) (fun _ _ _ h => h) (GP.p (gy_pure (by rfl) (fun w_ => by go_simp; with_reducible rfl))) (by simp only [Act.put, List.setIfInBounds_toArray, List.set_cons_zero, List.set_cons_succ]; rfl) ?_
  refine g_take 20 (List.toArray (true :: true :: true :: true :: true :: true :: true :: true :: true :: true :: true :: true :: true :: true :: true :: true :: true :: true :: true :: true :: true :: false :: false :: false :: false :: false :: false :: false :: false :: false :: false :: false :: false :: false :: false :: false :: false :: false :: false :: false :: false :: false :: false :: false :: false :: false :: false :: false :: false :: false :: false :: false :: false :: false :: false :: false :: false :: [])) (N := some 50) rfl rfl (by kernel_rfl) (fun _ _ _ h => h) (GP.p (gy_pure (by rfl) (fun w_ => by go_simp; with_reducible rfl))) (by simp only [Act.put, List.setIfInBounds_toArray, List.set_cons_zero, List.set_cons_succ]; rfl) ?_
  refine g_take 21 (List.toArray (true :: true :: true :: true :: true :: true :: true :: true :: true :: true :: true :: true :: true :: true :: true :: true :: true :: true :: true :: true :: true :: true :: false :: false :: false :: false :: false :: false :: false :: false :: false :: false :: false :: false :: false :: false :: false :: false :: false :: false :: false :: false :: false :: false :: false :: false :: false :: false :: false :: false :: false :: false :: false :: false :: false :: false :: false :: [])) (N := some 51) rfl rfl (by kernel_rfl) (fun _ _ _ h => h) (GP.p (gy_pure (by rfl) (fun w_ => by go_simp; with_reducible rfl))) (by simp only [Act.put, List.setIfInBounds_toArray, List.set_cons_zero, List.set_cons_succ]; rfl) ?_
  refine g_take 22 (List.toArray (true :: true :: true :: true :: true :: true :: true :: true :: true :: true :: true :: true :: true :: true :: true :: true :: true :: true :: true :: true :: true :: true :: true :: false :: false :: false :: false :: false :: false :: false :: false :: false :: false :: false :: false :: false :: false :: false :: false :: false :: false :: false :: false :: false :: false :: false :: false :: false :: false :: false :: false :: false :: false :: false :: false :: false :: false :: [])) (N := some 52) rfl rfl (by kernel_rfl) (fun _ _ _ h => h) (GP.rd (by rfl) (gy_row (by rfl) rfl (by rfl) (by with_reducible assumption) Tryd.underlying26 rfl (by first | exact vinfo _ | exact einfo _ | kernel_rfl))) (by simp only [Act.put, List.setIfInBounds_toArray, List.set_cons_zero, List.set_cons_succ]; rfl) ?_
  refine g_take 23 (List.toArray (true :: true :: true :: true :: true :: true :: true :: true :: true :: true :: true :: true :: true :: true :: true :: true :: true :: true :: true :: true :: true :: true :: true :: true :: false :: false :: false :: false :: false :: false :: false :: false :: false :: false :: false :: false :: false :: false :: false :: false :: false :: false :: false :: false :: false :: false :: false :: false :: false :: false :: false :: false :: false :: false :: false :: false :: false :: [])) (N := some 53) rfl rfl (by kernel_rfl) (fun _ _ _ h => h) (GP.p (gy_pure (by rfl) (fun w_ => by go_simp; with_reducible rfl))) (by simp only [Act.put, List.setIfInBounds_toArray, List.set_cons_zero, List.set_cons_succ]; rfl) ?_
  refine g_take 24 (List.toArray (true :: true :: true :: true :: true :: true :: true :: true :: true :: true :: true :: true :: true :: true :: true :: true :: true :: true :: true :: true :: true :: true :: true :: true :: true :: false :: false :: false :: false :: false :: false :: false :: false :: false :: false :: false :: false :: false :: false :: false :: false :: false :: false :: false :: false :: false :: false :: false :: false :: false :: false :: false :: false :: false :: false :: false :: false :: [])) (N := some 54) rfl rfl (by kernel_rfl) (fun _ _ _ h => h) (GP.p (gy_eqv (u := v2) (v := v2) (by rfl) rfl (by rfl) (by rfl))) (by simp only [Act.put, List.setIfInBounds_toArray, List.set_cons_zero, List.set_cons_succ]; rfl) ?_
  refine g_take 25 (List.toArray (true :: true :: true :: true :: true :: true :: true :: true :: true :: true :: true :: true :: true :: true :: true :: true :: true :: true :: true :: true :: true :: true :: true :: true :: true :: true :: false :: false :: false :: false :: false :: false :: false :: false :: false :: false :: false :: false :: false :: false :: false :: false :: false :: false :: false :: false :: false :: false :: false :: false :: false :: false :: false :: false :: false :: false :: false :: [])) (N := some 55) rfl rfl (by kernel_rfl) (fun _ _ _ h => h) (GP.p (gy_pure (by rfl) (fun w_ => by go_simp; with_reducible rfl))) (by simp only [Act.put, List.setIfInBounds_toArray, List.set_cons_zero, List.set_cons_succ]; rfl) ?_
  refine g_take 26 (List.toArray (true :: true :: true :: true :: true :: true :: true :: true :: true :: true :: true :: true :: true :: true :: true :: true :: true :: true :: true :: true :: true :: true :: true :: true :: true :: true :: true :: false :: false :: false :: false :: false :: false :: false :: false :: false :: false :: false :: false :: false :: false :: false :: false :: false :: false :: false :: false :: false :: false :: false :: false :: false :: false :: false :: false :: false :: false :: [])) (N := some 56) rfl rfl (by kernel_rfl) (fun _ _ _ h => h) (GP.p (gy_pure (by rfl) (fun w_ => by go_simp; with_reducible rfl))) (by simp only [Act.put, List.setIfInBounds_toArray, List.set_cons_zero, List.set_cons_succ]; rfl) ?_
  refine g_take 27 (List.toArray (true :: true :: true :: true :: true :: true :: true :: true :: true :: true :: true :: true :: true :: true :: true :: true :: true :: true :: true :: true :: true :: true :: true :: true :: true :: true :: true :: true :: false :: false :: false :: false :: false :: false :: false :: false :: false :: false :: false :: false :: false :: false :: false :: false :: false :: false :: false :: false :: false :: false :: false :: false :: false :: false :: false :: false :: false :: [])) (N := some 57) rfl rfl (by kernel_rfl) (fun _ _ _ h => h) (GP.p (gy_pure (by rfl) (fun w_ => by go_simp; with_reducible rfl))) (by simp only [Act.put, List.setIfInBounds_toArray, List.set_cons_zero, List.set_cons_succ]; rfl) ?_
  refine g_take 28 (List.toArray (true :: true :: true :: true :: true :: true :: true :: true :: true :: true :: true :: true :: true :: true :: true :: true :: true :: true :: true :: true :: true :: true :: true :: true :: true :: true :: true :: true :: true :: false :: false :: false :: false :: false :: false :: false :: false :: false :: false :: false :: false :: false :: false :: false :: false :: false :: false :: false :: false :: false :: false :: false :: false :: false :: false :: false :: false :: [])) (N := some 58) rfl rfl (by kernel_rfl) (fun _ _ _ h => h) (GP.p (gy_pure (by rfl) (fun w_ => by go_simp; with_reducible rfl))) (by simp only [Act.put, List.setIfInBounds_toArray, List.set_cons_zero, List.set_cons_succ]; rfl) ?_
  refine g_take 29 (List.toArray (true :: true :: true :: true :: true :: true :: true :: true :: true :: true :: true :: true :: true :: true :: true :: true :: true :: true :: true :: true :: true :: true :: true :: true :: true :: true :: true :: true :: true :: true :: false :: false :: false :: false :: false :: false :: false :: false :: false :: false :: false :: false :: false :: false :: false :: false :: false :: false :: false :: false :: false :: false :: false :: false :: false :: false :: false :: [])) (N := some 59) rfl rfl (by kernel_rfl) (fun _ _ _ h => h) (GP.p (gy_pure (by rfl) (fun w_ => by go_simp; with_reducible rfl))) (by simp only [Act.put, List.setIfInBounds_toArray, List.set_cons_zero, List.set_cons_succ]; rfl) ?_
  refine g_take 30 (List.toArray (true :: true :: true :: true :: true :: true :: true :: true :: true :: true :: true :: true :: true :: true :: true :: true :: true :: true :: true :: true :: true :: true :: true :: true :: true :: true :: true :: true :: true :: true :: true :: false :: false :: false :: false :: false :: false :: false :: false :: false :: false :: false :: false :: false :: false :: false :: false :: false :: false :: false :: false :: false :: false :: false :: false :: false :: false :: [])) (N := some 60) rfl rfl (by kernel_rfl) (fun _ _ _ h => h) (GP.p (gy_pure (by rfl) (fun w_ => by go_simp; with_reducible rfl))) (by simp only [Act.put, List.setIfInBounds_toArray, List.set_cons_zero, List.set_cons_succ]; rfl) ?_
  refine g_take 31 (List.toArray (true :: true :: true :: true :: true :: true :: true :: true :: true :: true :: true :: true :: true :: true :: true :: true :: true :: true :: true :: true :: true :: true :: true :: true :: true :: true :: true :: true :: true :: true :: true :: true :: false :: false :: false :: false :: false :: false :: false :: false :: false :: false :: false :: false :: false :: false :: false :: false :: false :: false :: false :: false :: false :: false :: false :: false :: false :: [])) (N := some 61) rfl rfl (by kernel_rfl) (fun _ _ _ h => h) (GP.p (gy_pure (by rfl) (fun w_ => by go_simp; with_reducible rfl))) (by simp only [Act.put, List.setIfInBounds_toArray, List.set_cons_zero, List.set_cons_succ]; rfl) ?_
  refine g_take 32 (List.toArray (true :: true :: true :: true :: true :: true :: true :: true :: true :: true :: true :: true :: true :: true :: true :: true :: true :: true :: true :: true :: true :: true :: true :: true :: true :: true :: true :: true :: true :: true :: true :: true :: true :: false :: false :: false :: false :: false :: false :: false :: false :: false :: false :: false :: false :: false :: false :: false :: false :: false :: false :: false :: false :: false :: false :: false :: false :: [])) (N := some 62) rfl rfl (by kernel_rfl) (fun _ _ _ h => h) (GP.p (gy_pure (by rfl) (fun w_ => by go_simp; with_reducible rfl))) (by simp only [Act.put, List.setIfInBounds_toArray, List.set_cons_zero, List.set_cons_succ]; rfl) ?_
  refine g_take 33 (List.toArray (true :: true :: true :: true :: true :: true :: true :: true :: true :: true :: true :: true :: true :: true :: true :: true :: true :: true :: true :: true :: true :: true :: true :: true :: true :: true :: true :: true :: true :: true :: true :: true :: true :: true :: false :: false :: false :: false :: false :: false :: false :: false :: false :: false :: false :: false :: false :: false :: false :: false :: false :: false :: false :: false :: false :: false :: false :: [])) (N := some 63) rfl rfl (by kernel_rfl) (fun _ _ _ h => h) (GP.rd (by rfl) (gy_rowA (by rfl) rfl (by rfl) (by first | exact hat' | exact hat) Tryd.isAgg36 Tryd.sizeOf36 (ecells_len one))) (by simp only [Act.put, List.setIfInBounds_toArray, List.set_cons_zero, List.set_cons_succ]; rfl) ?_
  refine g_take 34 (List.toArray (true :: true :: true :: true :: true :: true :: true :: true :: true :: true :: true :: true :: true :: true :: true :: true :: true :: true :: true :: true :: true :: true :: true :: true :: true :: true :: true :: true :: true :: true :: true :: true :: true :: true :: true :: false :: false :: false :: false :: false :: false :: false :: false :: false :: false :: false :: false :: false :: false :: false :: false :: false :: false :: false :: false :: false :: false :: [])) (N := some 64) rfl rfl (by kernel_rfl) (fun _ _ _ h => h) (GP.rd (by rfl) (gy_row (by rfl) rfl (by rfl) (by with_reducible assumption) Tryd.underlying36 rfl (by first | exact vinfo _ | exact einfo _ | kernel_rfl))) (by simp only [Act.put, List.setIfInBounds_toArray, List.set_cons_zero, List.set_cons_succ]; rfl) ?_
  refine g_take 35 (List.toArray (true :: true :: true :: true :: true :: true :: true :: true :: true :: true :: true :: true :: true :: true :: true :: true :: true :: true :: true :: true :: true :: true :: true :: true :: true :: true :: true :: true :: true :: true :: true :: true :: true :: true :: true :: true :: false :: false :: false :: false :: false :: false :: false :: false :: false :: false :: false :: false :: false :: false :: false :: false :: false :: false :: false :: false :: false :: [])) (N := some 65) rfl rfl (by kernel_rfl) (fun _ _ _ h => h) (GP.p (gy_eqev (u := one) (v := one) (by rfl) rfl (by rfl) (by rfl))) (by simp only [Act.put, List.setIfInBounds_toArray, List.set_cons_zero, List.set_cons_succ]; rfl) ?_
  refine g_take 36 (List.toArray (true :: true :: true :: true :: true :: true :: true :: true :: true :: true :: true :: true :: true :: true :: true :: true :: true :: true :: true :: true :: true :: true :: true :: true :: true :: true :: true :: true :: true :: true :: true :: true :: true :: true :: true :: true :: true :: false :: false :: false :: false :: false :: false :: false :: false :: false :: false :: false :: false :: false :: false :: false :: false :: false :: false :: false :: false :: [])) (N := some 66) rfl rfl (by kernel_rfl) (fun _ _ _ h => h) (GP.p (gy_pure (by rfl) (fun w_ => by go_simp; with_reducible rfl))) (by simp only [Act.put, List.setIfInBounds_toArray, List.set_cons_zero, List.set_cons_succ]; rfl) ?_
  refine g_take 37 (List.toArray (true :: true :: true :: true :: true :: true :: true :: true :: true :: true :: true :: true :: true :: true :: true :: true :: true :: true :: true :: true :: true :: true :: true :: true :: true :: true :: true :: true :: true :: true :: true :: true :: true :: true :: true :: true :: true :: true :: false :: false :: false :: false :: false :: false :: false :: false :: false :: false :: false :: false :: false :: false :: false :: false :: false :: false :: false :: [])) (N := some 67) rfl rfl (by kernel_rfl) (fun _ _ _ h => h) (GP.p (gy_pure (by rfl) (fun w_ => by go_simp; with_reducible rfl))) (by simp only [Act.put, List.setIfInBounds_toArray, List.set_cons_zero, List.set_cons_succ]; rfl) ?_
  refine g_take 38 (List.toArray (true :: true :: true :: true :: true :: true :: true :: true :: true :: true :: true :: true :: true :: true :: true :: true :: true :: true :: true :: true :: true :: true :: true :: true :: true :: true :: true :: true :: true :: true :: true :: true :: true :: true :: true :: true :: true :: true :: true :: false :: false :: false :: false :: false :: false :: false :: false :: false :: false :: false :: false :: false :: false :: false :: false :: false :: false :: [])) (N := some 68) rfl rfl (by kernel_rfl) (fun _ _ _ h => h) (GP.rd (by rfl) (gy_row (by rfl) rfl (by rfl) (by with_reducible assumption) Tryd.underlying36 rfl (by first | exact vinfo _ | exact einfo _ | kernel_rfl))) (by simp only [Act.put, List.setIfInBounds_toArray, List.set_cons_zero, List.set_cons_succ]; rfl) ?_
  refine g_take 39 (List.toArray (true :: true :: true :: true :: true :: true :: true :: true :: true :: true :: true :: true :: true :: true :: true :: true :: true :: true :: true :: true :: true :: true :: true :: true :: true :: true :: true :: true :: true :: true :: true :: true :: true :: true :: true :: true :: true :: true :: true :: true :: false :: false :: false :: false :: false :: false :: false :: false :: false :: false :: false :: false :: false :: false :: false :: false :: false :: [])) (N := some 69) rfl rfl (by kernel_rfl) (fun _ _ _ h => h) (GP.rd (by rfl) (gy_row (by rfl) rfl (by rfl) (by with_reducible assumption) Tryd.underlying36 rfl (by first | exact vinfo _ | exact einfo _ | kernel_rfl))) (by simp only [Act.put, List.setIfInBounds_toArray, List.set_cons_zero, List.set_cons_succ]; rfl) ?_
  refine g_one 40 (List.toArray (true :: true :: true :: true :: true :: true :: true :: true :: true :: true :: true :: true :: true :: true :: true :: true :: true :: true :: true :: true :: true :: true :: true :: true :: true :: true :: true :: true :: true :: true :: true :: true :: true :: true :: true :: true :: true :: true :: true :: true :: true :: false :: false :: false :: false :: false :: false :: false :: false :: false :: false :: false :: false :: false :: false :: false :: false :: [])) rfl (by kernel_rfl) (fun w15 hw15 => ?_)
  rw [if_pos (by rfl)]
  refine wp_lit [one, two] rfl rfl (by rfl) (by decide) (by decide) (fun w16 hR16 hx16 => ⟨hx16, ?_⟩)
  have HX16 : Hid (Ext w14 w16) := Lib.hid (hw15.trans hx16)
  have HR16 := Lib.hid hR16
  generalize w15.heap.size = g15 at *
  clear hw15 hx16 hR16 ro rt rv hat hat'
  refine Good.norm (by show Act.put _ (some 70) _ = _; simp only [Act.put, List.setIfInBounds_toArray, List.set_cons_zero, List.set_cons_succ]; rfl) ?_
  have rt := blk_range (HX16.out.blk HT14.out)
  refine g_take 41 (List.toArray (true :: true :: true :: true :: true :: true :: true :: true :: true :: true :: true :: true :: true :: true :: true :: true :: true :: true :: true :: true :: true :: true :: true :: true :: true :: true :: true :: true :: true :: true :: true :: true :: true :: true :: true :: true :: true :: true :: true :: true :: true :: true :: false :: false :: false :: false :: false :: false :: false :: false :: false :: false :: false :: false :: false :: false :: false :: [])) (N := some 71) rfl rfl (by kernel_rfl) (fun _ _ _ h => h) (GP.rd (by rfl) (gy_call (by rfl) rfl Tryd.func12 (by kernel_rfl) rfl #[_] (by rfl) (fun w hw => Row_calls (l := [one, two]) w ((HR16.out.ext hw).C (by decide)) (by decide) (by simp [sm_one, sm_two]) row_two))) (by simp only [Act.put, List.setIfInBounds_toArray, List.set_cons_zero, List.set_cons_succ]; rfl) ?_
  refine g_take 42 (List.toArray (true :: true :: true :: true :: true :: true :: true :: true :: true :: true :: true :: true :: true :: true :: true :: true :: true :: true :: true :: true :: true :: true :: true :: true :: true :: true :: true :: true :: true :: true :: true :: true :: true :: true :: true :: true :: true :: true :: true :: true :: true :: true :: true :: false :: false :: false :: false :: false :: false :: false :: false :: false :: false :: false :: false :: false :: false :: [])) (N := some 72) rfl rfl (by kernel_rfl) (fun _ _ _ h => h) (GP.p (gy_pure (by rfl) (fun w_ => by go_simp; with_reducible rfl))) (by simp only [Act.put, List.setIfInBounds_toArray, List.set_cons_zero, List.set_cons_succ]; rfl) ?_
  refine g_take 43 (List.toArray (true :: true :: true :: true :: true :: true :: true :: true :: true :: true :: true :: true :: true :: true :: true :: true :: true :: true :: true :: true :: true :: true :: true :: true :: true :: true :: true :: true :: true :: true :: true :: true :: true :: true :: true :: true :: true :: true :: true :: true :: true :: true :: true :: true :: false :: false :: false :: false :: false :: false :: false :: false :: false :: false :: false :: false :: false :: [])) (N := some 73) rfl rfl (by kernel_rfl) (fun _ _ _ h => h) (GP.p (gy_pure (by rfl) (fun w_ => by go_simp; with_reducible rfl))) (by simp only [Act.put, List.setIfInBounds_toArray, List.set_cons_zero, List.set_cons_succ]; rfl) ?_
  refine g_take 44 (List.toArray (true :: true :: true :: true :: true :: true :: true :: true :: true :: true :: true :: true :: true :: true :: true :: true :: true :: true :: true :: true :: true :: true :: true :: true :: true :: true :: true :: true :: true :: true :: true :: true :: true :: true :: true :: true :: true :: true :: true :: true :: true :: true :: true :: true :: true :: false :: false :: false :: false :: false :: false :: false :: false :: false :: false :: false :: false :: [])) (N := some 74) rfl rfl (by kernel_rfl) (fun _ _ _ h => h) (GP.rd (by rfl) (gy_row (by rfl) rfl (by rfl) (by with_reducible assumption) Tryd.underlying36 rfl (by first | exact vinfo _ | exact einfo _ | kernel_rfl))) (by simp only [Act.put, List.setIfInBounds_toArray, List.set_cons_zero, List.set_cons_succ]; rfl) ?_
  refine g_one 45 (List.toArray (true :: true :: true :: true :: true :: true :: true :: true :: true :: true :: true :: true :: true :: true :: true :: true :: true :: true :: true :: true :: true :: true :: true :: true :: true :: true :: true :: true :: true :: true :: true :: true :: true :: true :: true :: true :: true :: true :: true :: true :: true :: true :: true :: true :: true :: true :: false :: false :: false :: false :: false :: false :: false :: false :: false :: false :: false :: [])) rfl (by kernel_rfl) (fun w17 hw17 => ?_)
  rw [if_pos (by rfl)]
  refine wp_lit [two] rfl rfl (by rfl) (by decide) (by decide) (fun w18 hR18 hx18 => ⟨hx18, ?_⟩)
  have HX18 : Hid (Ext w16 w18) := Lib.hid (hw17.trans hx18)
  have HR18 := Lib.hid hR18
  generalize w17.heap.size = g17 at *
  clear hw17 hx18 hR18 rt
  refine Good.norm (by show Act.put _ (some 75) _ = _; simp only [Act.put, List.setIfInBounds_toArray, List.set_cons_zero, List.set_cons_succ]; rfl) ?_
  refine g_take 46 (List.toArray (true :: true :: true :: true :: true :: true :: true :: true :: true :: true :: true :: true :: true :: true :: true :: true :: true :: true :: true :: true :: true :: true :: true :: true :: true :: true :: true :: true :: true :: true :: true :: true :: true :: true :: true :: true :: true :: true :: true :: true :: true :: true :: true :: true :: true :: true :: true :: false :: false :: false :: false :: false :: false :: false :: false :: false :: false :: [])) (N := some 76) rfl rfl (by kernel_rfl) (fun _ _ _ h => h) (GP.rd (by rfl) (gy_call (by rfl) rfl Tryd.func12 (by kernel_rfl) rfl #[_] (by rfl) (fun w hw => Row_calls (l := [two]) w ((HR18.out.ext hw).C (by decide)) (by decide) (by simp [sm_two]) row_one))) (by simp only [Act.put, List.setIfInBounds_toArray, List.set_cons_zero, List.set_cons_succ]; rfl) ?_
  refine g_take 47 (List.toArray (true :: true :: true :: true :: true :: true :: true :: true :: true :: true :: true :: true :: true :: true :: true :: true :: true :: true :: true :: true :: true :: true :: true :: true :: true :: true :: true :: true :: true :: true :: true :: true :: true :: true :: true :: true :: true :: true :: true :: true :: true :: true :: true :: true :: true :: true :: true :: true :: false :: false :: false :: false :: false :: false :: false :: false :: false :: [])) (N := some 77) rfl rfl (by kernel_rfl) (fun _ _ _ h => h) (GP.p (gy_pure (by rfl) (fun w_ => by go_simp; with_reducible rfl))) (by simp only [Act.put, List.setIfInBounds_toArray, List.set_cons_zero, List.set_cons_succ]; rfl) ?_
  refine g_take 48 (List.toArray (true :: true :: true :: true :: true :: true :: true :: true :: true :: true :: true :: true :: true :: true :: true :: true :: true :: true :: true :: true :: true :: true :: true :: true :: true :: true :: true :: true :: true :: true :: true :: true :: true :: true :: true :: true :: true :: true :: true :: true :: true :: true :: true :: true :: true :: true :: true :: true :: true :: false :: false :: false :: false :: false :: false :: false :: false :: [])) (N := some 78) rfl rfl (by kernel_rfl) (fun _ _ _ h => h) (GP.p (gy_pure (by rfl) (fun w_ => by go_simp; with_reducible rfl))) (by simp only [Act.put, List.setIfInBounds_toArray, List.set_cons_zero, List.set_cons_succ]; rfl) ?_
  refine g_take 49 (List.toArray (true :: true :: true :: true :: true :: true :: true :: true :: true :: true :: true :: true :: true :: true :: true :: true :: true :: true :: true :: true :: true :: true :: true :: true :: true :: true :: true :: true :: true :: true :: true :: true :: true :: true :: true :: true :: true :: true :: true :: true :: true :: true :: true :: true :: true :: true :: true :: true :: true :: true :: false :: false :: false :: false :: false :: false :: false :: [])) (N := some 79) rfl rfl (by kernel_rfl) (fun _ _ _ h => h) (GP.p (gy_pure (by rfl) (fun w_ => by go_simp; with_reducible rfl))) (by simp only [Act.put, List.setIfInBounds_toArray, List.set_cons_zero, List.set_cons_succ]; rfl) ?_
  refine g_take 50 (List.toArray (true :: true :: true :: true :: true :: true :: true :: true :: true :: true :: true :: true :: true :: true :: true :: true :: true :: true :: true :: true :: true :: true :: true :: true :: true :: true :: true :: true :: true :: true :: true :: true :: true :: true :: true :: true :: true :: true :: true :: true :: true :: true :: true :: true :: true :: true :: true :: true :: true :: true :: true :: false :: false :: false :: false :: false :: false :: [])) (N := some 80) rfl rfl (by kernel_rfl) (fun _ _ _ h => h) (GP.p (gy_pure (by rfl) (fun w_ => by go_simp; with_reducible rfl))) (by simp only [Act.put, List.setIfInBounds_toArray, List.set_cons_zero, List.set_cons_succ]; rfl) ?_
  refine g_take 51 (List.toArray (true :: true :: true :: true :: true :: true :: true :: true :: true :: true :: true :: true :: true :: true :: true :: true :: true :: true :: true :: true :: true :: true :: true :: true :: true :: true :: true :: true :: true :: true :: true :: true :: true :: true :: true :: true :: true :: true :: true :: true :: true :: true :: true :: true :: true :: true :: true :: true :: true :: true :: true :: true :: false :: false :: false :: false :: false :: [])) (N := some 81) rfl rfl (by kernel_rfl) (fun _ _ _ h => h) (GP.p (gy_pure (by rfl) (fun w_ => by go_simp; with_reducible rfl))) (by simp only [Act.put, List.setIfInBounds_toArray, List.set_cons_zero, List.set_cons_succ]; rfl) ?_
  refine g_one 52 (List.toArray (true :: true :: true :: true :: true :: true :: true :: true :: true :: true :: true :: true :: true :: true :: true :: true :: true :: true :: true :: true :: true :: true :: true :: true :: true :: true :: true :: true :: true :: true :: true :: true :: true :: true :: true :: true :: true :: true :: true :: true :: true :: true :: true :: true :: true :: true :: true :: true :: true :: true :: true :: true :: true :: false :: false :: false :: false :: [])) rfl (by kernel_rfl) (fun w19 hw19 => ?_)
  rw [if_pos (by rfl)]
  have HX19 : Hid (Ext w14 w19) := Lib.hid (HX16.out.trans (HX18.out.trans hw19))
  clear hw19
  refine wp_callF rfl Tryd.func13 (by kernel_rfl) rfl #[vval v1, .slice A8 2 c8] (by rfl) ((Lacks_calls (l := [one, two]) v1 w19 (C_ext HL14.out HX19.out) (by decide)).mono ?_)
  rintro r w20 ⟨A20, c20, hr, hx20⟩
  rw [lack_one] at hr
  subst hr
  refine ⟨_, rfl, hx20, ?_⟩
  have HX20 : Hid (Ext w w20) := Lib.hid (HX5.out.trans (HX10.out.trans (HX14.out.trans (HX19.out.trans hx20))))
  clear hx20
  refine Good.norm (by show Act.put _ (some 82) _ = _; simp only [Act.put, List.setIfInBounds_toArray, List.set_cons_zero, List.set_cons_succ]; rfl) ?_
  refine g_take 53 (List.toArray (true :: true :: true :: true :: true :: true :: true :: true :: true :: true :: true :: true :: true :: true :: true :: true :: true :: true :: true :: true :: true :: true :: true :: true :: true :: true :: true :: true :: true :: true :: true :: true :: true :: true :: true :: true :: true :: true :: true :: true :: true :: true :: true :: true :: true :: true :: true :: true :: true :: true :: true :: true :: true :: true :: false :: false :: false :: [])) (N := some 83) rfl rfl (by kernel_rfl) (fun _ _ _ h => h) (GP.p (gy_pure (by rfl) (fun w_ => by go_simp; with_reducible rfl))) (by simp only [Act.put, List.setIfInBounds_toArray, List.set_cons_zero, List.set_cons_succ]; rfl) ?_
  refine g_take 54 (List.toArray (true :: true :: true :: true :: true :: true :: true :: true :: true :: true :: true :: true :: true :: true :: true :: true :: true :: true :: true :: true :: true :: true :: true :: true :: true :: true :: true :: true :: true :: true :: true :: true :: true :: true :: true :: true :: true :: true :: true :: true :: true :: true :: true :: true :: true :: true :: true :: true :: true :: true :: true :: true :: true :: true :: true :: false :: false :: [])) (N := some 84) rfl rfl (by kernel_rfl) (fun _ _ _ h => h) (GP.p (gy_pure (by rfl) (fun w_ => by go_simp; with_reducible rfl))) (by simp only [Act.put, List.setIfInBounds_toArray, List.set_cons_zero, List.set_cons_succ]; rfl) ?_
  refine g_take 55 (List.toArray (true :: true :: true :: true :: true :: true :: true :: true :: true :: true :: true :: true :: true :: true :: true :: true :: true :: true :: true :: true :: true :: true :: true :: true :: true :: true :: true :: true :: true :: true :: true :: true :: true :: true :: true :: true :: true :: true :: true :: true :: true :: true :: true :: true :: true :: true :: true :: true :: true :: true :: true :: true :: true :: true :: true :: true :: false :: [])) (N := some 85) rfl rfl (by kernel_rfl) (fun _ _ _ h => h) (GP.p (gy_pure (by rfl) (fun w_ => by go_simp; with_reducible rfl))) (by simp only [Act.put, List.setIfInBounds_toArray, List.set_cons_zero, List.set_cons_succ]; rfl) ?_
  refine g_take 56 (List.toArray (true :: true :: true :: true :: true :: true :: true :: true :: true :: true :: true :: true :: true :: true :: true :: true :: true :: true :: true :: true :: true :: true :: true :: true :: true :: true :: true :: true :: true :: true :: true :: true :: true :: true :: true :: true :: true :: true :: true :: true :: true :: true :: true :: true :: true :: true :: true :: true :: true :: true :: true :: true :: true :: true :: true :: true :: true :: [])) (N := some 0) rfl rfl (by kernel_rfl) (fun _ _ _ h => h) (GP.p (gy_pure (by rfl) (fun w_ => by go_simp; with_reducible rfl))) (by simp only [Act.put, List.setIfInBounds_toArray, List.set_cons_zero, List.set_cons_succ]; rfl) ?_
  refine g_done (by kernel_rfl) (fun w21 hw21 => ?_)
  have HX21 : Hid (Ext w w21) := Lib.hid (HX20.out.trans hw21)
  clear hw21
  go_wp2
  go_ret
  exact ⟨rfl, HX21.out⟩
end Go.Proofs.YthmnohecmmknpaaDoor.Vec
namespace Go.Proofs.YthmnohecmmknpaaDoor.Vec
open Go.RowKit Go.Proofs.YthmnohecmmknpaaDoorW.PrintWords Go.Proofs.YthmnohecmmknpaaDoorW.PrintLast Go.Proofs.YthmnohecmmknpaaDoor.Given Go.Proofs.YthmnohecmmknpaaDoor.PA Go.Proofs.YthmnohecmmknpaaDoor.Val
set_option linter.unusedVariables false
set_option linter.unusedSimpArgs false
set_option maxRecDepth 100000
def leV (a b : Vc) : Prop := ∀ i, i < 16 → a.at i ≤ b.at i
theorem knows_iff {v : Vc} {e : Ev} : knB v e = true ↔ dotB e.rep e.cnt = true ∧ e.cnt ≤ v.at e.rep.toNat := by
  unfold knB knowsB
  rw [Bool.and_eq_true, decide_eq_true_eq]
theorem knows_mono {a b : Vc} (h : leV a b) {e : Ev} (hk : knB a e = true) : knB b e = true := by
  rw [knows_iff] at hk ⊢
  obtain ⟨h1, h2⟩ := hk
  obtain ⟨h3, h4, _⟩ := dotB_iff.1 h1
  exact ⟨h1, Int.le_trans h2 (h _ (by omega))⟩
theorem one_zero {v : Vc} {e : Ev} (h : oneE v e = 0) : okB e = true ∧ knB v e = false ∧ nextB v e.rep e.cnt = true ∧ belowB e.past v = true := by
  unfold oneE at h
  unfold knB
  cases h1 : okB e <;> cases h2 : knowsB v e.rep e.cnt <;> cases h3 : nextB v e.rep e.cnt <;> cases h4 : belowB e.past v <;> simp [h1, h2, h3, h4] at h ⊢
theorem next_add {v : Vc} {e : Ev} (h : nextB v e.rep e.cnt = true) (hk : knB v e = false) : addV v e.rep e.cnt = v.set e.rep.toNat e.cnt ∧ e.rep.toNat < 16 ∧ v.at e.rep.toNat = e.cnt - 1 ∧ dotB e.rep e.cnt = true := by
  unfold nextB at h
  rw [Bool.and_eq_true, decide_eq_true_eq] at h
  obtain ⟨h1, h2⟩ := h
  obtain ⟨h3, h4, _⟩ := dotB_iff.1 h1
  unfold knB at hk
  refine ⟨?_, by omega, h2, h1⟩
  unfold addV
  rw [h1, hk]
  rfl
theorem set_at (v : Vc) {n : Nat} (hn : n < 16) (x : Int) (i : Nat) : (v.set n x).at i = if i = n then x else v.at i := by
  unfold Vc.set Vc.at
  simp only [List.getD_eq_getElem?_getD, List.getElem?_set]
  by_cases h : n = i
  · subst h
    simp [v.len, hn]
  · rw [if_neg h, if_neg (fun e => h e.symm)]
theorem allG_spec : ∀ (l : List Ev) (v : Vc) (out : List Ev), ∃ new, (allG v out l).1 = out ++ new ∧ leV v (allG v out l).2.1 ∧ ∀ e ∈ new, e ∈ l ∧ okB e = true ∧ knB (allG v out l).2.1 e = true ∧ knB v e = false
  | [], v, out => ⟨[], by simp [allG], fun i _ => Int.le_refl _, by simp⟩
  | e :: r, v, out => by
    unfold allG
    by_cases h0 : oneE v e = 0
    · rw [if_pos h0]
      obtain ⟨h1, h2, h3, _⟩ := one_zero h0
      obtain ⟨h4, h5, h6, h7⟩ := next_add h3 h2
      obtain ⟨new, e1, e2, e3⟩ := allG_spec r (addV v e.rep e.cnt) (out ++ [e])
      have hle : leV v (addV v e.rep e.cnt) := fun i hi => by
        rw [h4, set_at v h5]
        split
        · rename_i h
          subst h
          omega
        · exact Int.le_refl _
      refine ⟨e :: new, by rw [e1]; simp, fun i hi => Int.le_trans (hle i hi) (e2 i hi), fun f hf => ?_⟩
      rcases List.mem_cons.1 hf with rfl | hf
      · refine ⟨by simp, h1, ?_, h2⟩
        rw [knows_iff]
        refine ⟨h7, Int.le_trans ?_ (e2 _ h5)⟩
        rw [h4, set_at v h5, if_pos rfl]
        exact Int.le_refl _
      · obtain ⟨f1, f2, f3, f4⟩ := e3 f hf
        refine ⟨List.mem_cons_of_mem _ f1, f2, f3, ?_⟩
        cases hk : knB v f with
        | false => rfl
        | true => rw [knows_mono hle hk] at f4; cases f4
    · rw [if_neg h0]
      split
      · obtain ⟨new, e1, e2, e3⟩ := allG_spec r v out
        exact ⟨new, e1, e2, fun f hf => ⟨List.mem_cons_of_mem _ (e3 f hf).1, (e3 f hf).2⟩⟩
      · exact ⟨[], by simp, fun i _ => Int.le_refl _, by simp⟩
theorem allG_known : ∀ (l : List Ev) (v : Vc) (out : List Ev), (∀ e ∈ l, okB e = true ∧ knB v e = true) → allG v out l = (out, v, 0)
  | [], v, out, _ => rfl
  | e :: r, v, out, h => by
    have h5 : oneE v e = 5 := by
      obtain ⟨h1, h2⟩ := h e (by simp)
      unfold knB at h2
      unfold oneE
      rw [h1, h2]
      rfl
    unfold allG
    rw [h5, if_neg (by decide), if_pos rfl]
    exact allG_known r v out fun f hf => h f (by simp [hf])
theorem again_facts (v : Vc) (l : List Ev) : ∃ got wv x, allG v [] l = (got, wv, x) ∧ got.length ≤ l.length ∧ (∀ e ∈ got, e ∈ l) ∧ allG wv [] got = ([], wv, 0) ∧ (got.filter (nk wv)).length = 0 ∧ (got.filter (nk v)).length = got.length := by
  obtain ⟨new, h1, h2, h3⟩ := allG_spec l v []
  rw [List.nil_append] at h1
  refine ⟨_, _, _, rfl, ?_, ?_, ?_, ?_, ?_⟩
  · have := allG_len l v []
    simpa using this
  · rw [h1]
    exact fun e he => (h3 e he).1
  · rw [h1]
    exact allG_known new _ [] fun e he => ⟨(h3 e he).2.1, (h3 e he).2.2.1⟩
  · rw [h1, List.length_eq_zero_iff, List.filter_eq_nil_iff]
    intro e he
    unfold nk
    rw [(h3 e he).2.2.1]
    decide
  · rw [h1, List.filter_eq_self.2]
    intro e he
    unfold nk
    rw [(h3 e he).2.2.2]
    rfl
theorem few_spec {l : List Ev} (h : fewB l = true) (hin : ∀ e ∈ l, EvIn e) : l.length ≤ 80 ∧ ∀ e ∈ l, EvSm e := by
  unfold fewB at h
  rw [Bool.and_eq_true, decide_eq_true_eq, List.all_eq_true] at h
  exact ⟨h.2, fun e he => (hin e he).small (h.1 e he)⟩
theorem R_C {w : World} {base : Nat} {ok : Nat → Prop} {A : Option Addr} {n c : Nat} {l : List Ev} (h : Kd.R kEv 36 w base ok (.slice A n c) l) : n = l.length ∧ Kd.C kEv w A l.length l ∧ l.length ≤ c := by
  obtain ⟨A9, c9, h9, h8, hc⟩ := Kd.R_reads h
  injection h9 with h1 h2 h3
  subst h1
  subst h3
  exact ⟨h2, hc, h8⟩
set_option maxHeartbeats 8000000 in
theorem again_calls (v : Vc) {l : List Ev} {A : Option Addr} {c : Nat} (w : World) (hC : Kd.C kEv w A l.length l) (hc : l.length ≤ c) (hl : l.length ≤ 4611686018427387904) (hin : ∀ e ∈ l, EvIn e) :
    Calls Tryd.prog 5 #[vval v, .slice A l.length c] w fun z w' => z = .returned (.bool true) ∧ Ext w w' := by
  obtain ⟨W0, b0, hW, hb0, hx, hv⟩ := vec_box w v
  have HC := Lib.hid (C_ext hC hx)
  have HLC := Lib.hid hc
  have HLL := Lib.hid hl
  have HIN := Lib.hid hin
  have HX := Lib.hid hx
  have HW := Lib.hid hW
  have HS := Lib.hid hb0
  have HV := Lib.hid hv
  clear hC hc hl hin hx hW hb0 hv
  unfold vval
  go_enter Tryd.func5, Tryd.ntmps5
  go_upto_region 1 with (fail)
  rw [HW.out, HS.out]
  refine gl_begin (Ext.refl _) ?_
  refine gl_take (N := some 11) rfl (gy_call (by rfl) rfl Tryd.func6 (by kernel_rfl) rfl #[] (by rfl) (fun w _ => fixed_calls w)) (by simp only [Act.put, List.setIfInBounds_toArray, List.set_cons_zero, List.set_cons_succ]; rfl) ?_
  refine gl_take (N := some 12) rfl (Yields.gy (gy_pure (by rfl) (fun w_ => by go_simp; with_reducible rfl))) (by simp only [Act.put, List.setIfInBounds_toArray, List.set_cons_zero, List.set_cons_succ]; rfl) ?_
  refine gl_done (fun w1 hw1 => ?_)
  have HX1 : Hid (Ext W0 w1) := Lib.hid hw1
  clear hw1
  cases hf : fewB l with
  | false =>
    have HF := Lib.hid hf
    clear hf
    go_upto_region 3 with (fail)
    refine gl_begin (Ext.refl _) ?_
    refine gl_take (N := some 13) rfl (Yields.gy (gy_pure (by rfl) (fun w_ => by go_simp; with_reducible rfl))) (by simp only [Act.put, List.setIfInBounds_toArray, List.set_cons_zero, List.set_cons_succ]; rfl) ?_
    refine gl_take (N := some 14) rfl (gy_call (by rfl) rfl Tryd.func7 (by kernel_rfl) rfl #[_] (by rfl) (fun w hw => few_calls w (C_ext HC.out (HX1.out.trans hw)) HLC.out HLL.out HIN.out HF.out)) (by simp only [Act.put, List.setIfInBounds_toArray, List.set_cons_zero, List.set_cons_succ]; rfl) ?_
    refine gl_take (N := some 15) rfl (Yields.gy (gy_pure (by rfl) (fun w_ => by go_simp; with_reducible rfl))) (by simp only [Act.put, List.setIfInBounds_toArray, List.set_cons_zero, List.set_cons_succ]; rfl) ?_
    refine gl_done (fun w2 hw2 => ?_)
    have HX2 : Hid (Ext w w2) := Lib.hid (HX.out.trans (HX1.out.trans hw2))
    clear hw2
    go_wp2
    go_ret
    exact ⟨rfl, HX2.out⟩
  | true =>
    obtain ⟨hl80, hsm⟩ := few_spec hf HIN.out
    have HF := Lib.hid hf
    have HL := Lib.hid hl80
    have HSM := Lib.hid hsm
    clear hf hl80 hsm
    obtain ⟨got, wv, x, hg, hgl, hgm, hg2, hg3, hg4⟩ := again_facts v l
    have HG := Lib.hid hg
    have HGL : Hid (got.length ≤ 80) := Lib.hid (Nat.le_trans hgl HL.out)
    have HGM : Hid (∀ e ∈ got, EvSm e) := Lib.hid fun e he => HSM.out e (hgm e he)
    have HG2 := Lib.hid hg2
    have HG3 := Lib.hid hg3
    have HG4 := Lib.hid hg4
    clear hg hgl hgm hg2 hg3 hg4
    go_upto_region 3 with (fail)
    refine gl_begin (Ext.refl _) ?_
    refine gl_take (N := some 13) rfl (Yields.gy (gy_pure (by rfl) (fun w_ => by go_simp; with_reducible rfl))) (by simp only [Act.put, List.setIfInBounds_toArray, List.set_cons_zero, List.set_cons_succ]; rfl) ?_
    refine gl_take (N := some 14) rfl (gy_call (by rfl) rfl Tryd.func7 (by kernel_rfl) rfl #[_] (by rfl) (fun w hw => few_calls w (C_ext HC.out (HX1.out.trans hw)) HLC.out HLL.out HIN.out HF.out)) (by simp only [Act.put, List.setIfInBounds_toArray, List.set_cons_zero, List.set_cons_succ]; rfl) ?_
    refine gl_take (N := some 15) rfl (Yields.gy (gy_pure (by rfl) (fun w_ => by go_simp; with_reducible rfl))) (by simp only [Act.put, List.setIfInBounds_toArray, List.set_cons_zero, List.set_cons_succ]; rfl) ?_
    refine gl_done (fun w2 hw2 => ?_)
    have HX2 : Hid (Ext W0 w2) := Lib.hid (HX1.out.trans hw2)
    have rv := blk_range (HX2.out.blk HV.out)
    clear hw2 HX1
    go_upto_region 5 with (fail)
    refine gl_begin (Ext.refl _) ?_
    refine gl_take (N := some 17) rfl (gy_row (by rfl) rfl (by rfl) (by with_reducible assumption) Tryd.underlying26 rfl (by first | exact vinfo _ | exact einfo _ | kernel_rfl)) (by simp only [Act.put, List.setIfInBounds_toArray, List.set_cons_zero, List.set_cons_succ]; rfl) ?_
    refine gl_take (N := some 18) rfl (Yields.gy (gy_pure (by rfl) (fun w_ => by go_simp; with_reducible rfl))) (by simp only [Act.put, List.setIfInBounds_toArray, List.set_cons_zero, List.set_cons_succ]; rfl) ?_
    refine gl_eff (by rfl) (fun w3 hw3 => ?_)
    have HX3 : Hid (Ext W0 w3) := Lib.hid (HX2.out.trans hw3)
    clear hw3 rv
    refine wp_callF rfl Tryd.func11 (by kernel_rfl) rfl #[vval v, .slice A l.length c] (by rfl) ((All_calls v w3 (C_ext HC.out HX3.out) (Nat.le_trans HL.out (by decide)) HSM.out).mono ?_)
    rw [HG.out]
    rintro r w4 ⟨sv, rfl, hR, hx4⟩
    refine ⟨_, rfl, ?_⟩
    obtain ⟨A4, c4, rfl⟩ := Kd.R_slice hR
    have HX4 : Hid (Ext W0 w4) := Lib.hid (HX3.out.trans hx4)
    have HC4 := Lib.hid (R_C hR).2.1
    obtain ⟨n, hn⟩ : ∃ n, got.length = n := ⟨_, rfl⟩
    have HN := Lib.hid hn
    clear hR hx4 HX3
    refine wpl_norm (a' := ?_) ?_ ?_
    rotate_left
    · show Act.put _ (some 19) _ = _
      simp only [Act.put, List.setIfInBounds_toArray, List.set_cons_zero, List.set_cons_succ]
      rfl
    refine GoodL.start ?_
    rw [hn]
    clear hn
    refine gl_take (N := some 16) rfl (Yields.gy (gy_pure (by rfl) (fun w_ => by go_simp; with_reducible rfl))) (by simp only [Act.put, List.setIfInBounds_toArray, List.set_cons_zero, List.set_cons_succ]; rfl) ?_
    refine gl_take (N := some 20) rfl (Yields.gy (gy_pure (by rfl) (fun w_ => by go_simp; with_reducible rfl))) (by simp only [Act.put, List.setIfInBounds_toArray, List.set_cons_zero, List.set_cons_succ]; rfl) ?_
    refine gl_take (N := some 21) rfl (Yields.gy (gy_pure (by rfl) (fun w_ => by go_simp; with_reducible rfl))) (by simp only [Act.put, List.setIfInBounds_toArray, List.set_cons_zero, List.set_cons_succ]; rfl) ?_
    refine gl_take (N := some 22) rfl (Yields.gy (gy_pure (by rfl) (fun w_ => by go_simp; with_reducible rfl))) (by simp only [Act.put, List.setIfInBounds_toArray, List.set_cons_zero, List.set_cons_succ]; rfl) ?_
    refine gl_eff (by rfl) (fun w5 hw5 => ?_)
    refine wp_alloc0 rfl Tryd.zeroValue26 Tryd.sizeOf26 ?_
    refine wpl_norm (a' := ?_) ?_ ?_
    rotate_left
    · show Act.put _ (some 6) _ = _
      simp only [Act.put, List.setIfInBounds_toArray, List.set_cons_zero, List.set_cons_succ]
      rfl
    refine wpList_plain rfl fun K hK => wp_value (v := .slice A4 n c4) rfl (hK _ _ ?_)
    refine wpl_norm (a' := ?_) ?_ ?_
    rotate_left
    · show Act.put _ (some 5) _ = _
      simp only [Act.put, List.setIfInBounds_toArray, List.set_cons_zero, List.set_cons_succ]
      rfl
    refine wpList_store_mid rfl 26 _ _ rfl w5.heap.size 0 (vcells wv).toArray (by rfl) (by rfl) (blk_there (blk_new _ _) 0 _ (by rw [List.size_toArray, vcells_len]; decide)) (by rw [List.size_toArray, vcells_len]; exact info26) (all_oneCell_toArray (vcells_one _)) ?_
    have hX : ∀ o, Ext W0 ((w5.alloc o).setCells w5.heap.size 0 (vcells wv).toArray.toList) := fun o => Ext.setCells ((HX4.out.trans hw5).alloc o) (HX4.out.trans hw5).le _ _
    have hX4 : ∀ o, Ext w4 ((w5.alloc o).setCells w5.heap.size 0 (vcells wv).toArray.toList) := fun o => Ext.setCells (hw5.alloc o) hw5.le _ _
    refine (?_ : ∀ w6, Ext W0 w6 → Ext w4 w6 → VecAt w6 w5.heap.size wv → wpList _ _ _ _ _ w6) _ (hX _) (hX4 _) (setCells_whole (cs := vcells Vc.zero) (blk_new _ _) (by rw [List.toList_toArray, vcells_len, vcells_len]))
    intro w6 hx5 hx8 hv
    have HX6 := Lib.hid hx5
    have HC6 := Lib.hid (C_ext HC4.out hx8)
    have HV6 := Lib.hid hv
    generalize w5.heap.size = b4 at *
    clear hX hX4 hx5 hx8 hv hw5 HC4 hK HX4
    refine wpList_plain rfl fun K hK => wp_value (v := .int .i64 x) rfl (hK _ _ ?_)
    refine wpl_nil ?_
    simp only [Act.put, List.setIfInBounds_toArray, List.set_cons_zero, List.set_cons_succ]
    clear hK
    have rw6 := blk_range HV6.out
    go_upto_region 6 with (fail)
    refine gl_begin (Ext.refl _) ?_
    refine gl_take (N := some 24) rfl (gy_row (by rfl) rfl (by rfl) (by with_reducible assumption) Tryd.underlying26 rfl (by first | exact vinfo _ | exact einfo _ | kernel_rfl)) (by simp only [Act.put, List.setIfInBounds_toArray, List.set_cons_zero, List.set_cons_succ]; rfl) ?_
    refine gl_take (N := some 25) rfl (Yields.gy (gy_pure (by rfl) (fun w_ => by go_simp; with_reducible rfl))) (by simp only [Act.put, List.setIfInBounds_toArray, List.set_cons_zero, List.set_cons_succ]; rfl) ?_
    refine gl_eff (by rfl) (fun w7 hw7 => ?_)
    have HX7 : Hid (Ext w6 w7) := Lib.hid hw7
    clear hw7 rw6
    refine wp_callF rfl Tryd.func11 (by kernel_rfl) rfl #[vval wv, .slice A4 n c4] (by rfl) (Calls.mono (HN.out ▸ All_calls wv w7 (C_ext HC6.out HX7.out) (Nat.le_trans HGL.out (by decide)) HGM.out) ?_)
    rw [HG2.out]
    rintro r w8 ⟨sv, rfl, hR, hx8⟩
    refine ⟨_, rfl, ?_⟩
    obtain ⟨A8, c8, hsv⟩ := Kd.R_slice hR
    have hsv' : sv = .slice A8 0 c8 := hsv
    subst hsv'
    have HX8 : Hid (Ext w6 w8) := Lib.hid (HX7.out.trans hx8)
    clear hR hx8 HX7 hsv
    refine wpl_norm (a' := ?_) ?_ ?_
    rotate_left
    · show Act.put _ (some 26) _ = _
      simp only [Act.put, List.setIfInBounds_toArray, List.set_cons_zero, List.set_cons_succ]
      rfl
    refine GoodL.start ?_
    refine gl_take (N := some 23) rfl (Yields.gy (gy_pure (by rfl) (fun w_ => by go_simp; with_reducible rfl))) (by simp only [Act.put, List.setIfInBounds_toArray, List.set_cons_zero, List.set_cons_succ]; rfl) ?_
    refine gl_take (N := some 27) rfl (Yields.gy (gy_pure (by rfl) (fun w_ => by go_simp; with_reducible rfl))) (by simp only [Act.put, List.setIfInBounds_toArray, List.set_cons_zero, List.set_cons_succ]; rfl) ?_
    refine gl_take (N := some 28) rfl (Yields.gy (gy_pure (by rfl) (fun w_ => by go_simp; with_reducible rfl))) (by simp only [Act.put, List.setIfInBounds_toArray, List.set_cons_zero, List.set_cons_succ]; rfl) ?_
    refine gl_take (N := some 29) rfl (Yields.gy (gy_pure (by rfl) (fun w_ => by go_simp; with_reducible rfl))) (by simp only [Act.put, List.setIfInBounds_toArray, List.set_cons_zero, List.set_cons_succ]; rfl) ?_
    refine gl_eff (by rfl) (fun w9 hw9 => ?_)
    refine wp_alloc0 rfl Tryd.zeroValue26 Tryd.sizeOf26 ?_
    refine wpl_norm (a' := ?_) ?_ ?_
    rotate_left
    · show Act.put _ (some 9) _ = _
      simp only [Act.put, List.setIfInBounds_toArray, List.set_cons_zero, List.set_cons_succ]
      rfl
    refine wpList_plain rfl fun K hK => wp_value (v := .slice A8 0 c8) rfl (hK _ _ ?_)
    refine wpl_norm (a' := ?_) ?_ ?_
    rotate_left
    · show Act.put _ (some 8) _ = _
      simp only [Act.put, List.setIfInBounds_toArray, List.set_cons_zero, List.set_cons_succ]
      rfl
    refine wpList_store_mid rfl 26 _ _ rfl w9.heap.size 0 (vcells wv).toArray (by rfl) (by rfl) (blk_there (blk_new _ _) 0 _ (by rw [List.size_toArray, vcells_len]; decide)) (by rw [List.size_toArray, vcells_len]; exact info26) (all_oneCell_toArray (vcells_one _)) ?_
    have hX : ∀ o, Ext w6 ((w9.alloc o).setCells w9.heap.size 0 (vcells wv).toArray.toList) := fun o => Ext.setCells ((HX8.out.trans hw9).alloc o) (HX8.out.trans hw9).le _ _
    refine (?_ : ∀ w10, Ext w6 w10 → VecAt w10 w9.heap.size wv → wpList _ _ _ _ _ w10) _ (hX _) (setCells_whole (cs := vcells Vc.zero) (blk_new _ _) (by rw [List.toList_toArray, vcells_len, vcells_len]))
    intro w10 hx5 hv
    have HX10 := Lib.hid hx5
    have HV10 := Lib.hid hv
    generalize w9.heap.size = b9 at *
    clear hX hx5 hv hw9 hK HX8
    refine wpList_plain rfl fun K hK => wp_value (v := .int .i64 0) rfl (hK _ _ ?_)
    refine wpl_nil ?_
    simp only [Act.put, List.setIfInBounds_toArray, List.set_cons_zero, List.set_cons_succ]
    clear hK
    have r10 := blk_range HV10.out
    have r6 := blk_range (HX10.out.blk HV6.out)
    have r2 := blk_range ((HX6.out.trans HX10.out).blk HV.out)
    have hnn : ((n : Int) == (n : Int)) = true := by simp
    go_upto_region 7 with (fail)
    refine gl_begin (Ext.refl _) ?_
    refine gl_take (N := some 30) rfl (Yields.gy (gy_pure (by rfl) (fun w_ => by go_simp; with_reducible rfl))) (by simp only [Act.put, List.setIfInBounds_toArray, List.set_cons_zero, List.set_cons_succ]; rfl) ?_
    refine gl_take (N := some 31) rfl (Yields.gy (gy_pure (by rfl) (fun w_ => by go_simp; with_reducible rfl))) (by simp only [Act.put, List.setIfInBounds_toArray, List.set_cons_zero, List.set_cons_succ]; rfl) ?_
    refine gl_take (N := some 32) rfl (Yields.gy (gy_pure (by rfl) (fun w_ => by go_simp; with_reducible rfl))) (by simp only [Act.put, List.setIfInBounds_toArray, List.set_cons_zero, List.set_cons_succ]; rfl) ?_
    refine gl_take (N := some 33) rfl (Yields.gy (gy_pure (by rfl) (fun w_ => by go_simp; with_reducible rfl))) (by simp only [Act.put, List.setIfInBounds_toArray, List.set_cons_zero, List.set_cons_succ]; rfl) ?_
    refine gl_take (N := some 34) rfl (gy_row (by rfl) rfl (by rfl) (by with_reducible assumption) Tryd.underlying26 rfl (by first | exact vinfo _ | exact einfo _ | kernel_rfl)) (by simp only [Act.put, List.setIfInBounds_toArray, List.set_cons_zero, List.set_cons_succ]; rfl) ?_
    refine gl_take (N := some 35) rfl (gy_row (by rfl) rfl (by rfl) (by with_reducible assumption) Tryd.underlying26 rfl (by first | exact vinfo _ | exact einfo _ | kernel_rfl)) (by simp only [Act.put, List.setIfInBounds_toArray, List.set_cons_zero, List.set_cons_succ]; rfl) ?_
    refine gl_take (N := some 36) rfl (Yields.gy (gy_eqv (u := wv) (v := wv) (by rfl) rfl (by rfl) (by rfl))) (by simp only [Act.put, List.setIfInBounds_toArray, List.set_cons_zero, List.set_cons_succ]; rfl) ?_
    refine gl_take (N := some 37) rfl (Yields.gy (gy_pure (by rfl) (fun w_ => by go_simp; with_reducible rfl))) (by simp only [Act.put, List.setIfInBounds_toArray, List.set_cons_zero, List.set_cons_succ]; rfl) ?_
    refine gl_take (N := some 38) rfl (Yields.gy (gy_pure (by rfl) (fun w_ => by go_simp; with_reducible rfl))) (by simp only [Act.put, List.setIfInBounds_toArray, List.set_cons_zero, List.set_cons_succ]; rfl) ?_
    refine gl_take (N := some 39) rfl (Yields.gy (gy_pure (by rfl) (fun w_ => by go_simp; with_reducible rfl))) (by simp only [Act.put, List.setIfInBounds_toArray, List.set_cons_zero, List.set_cons_succ]; rfl) ?_
    refine gl_take (N := some 40) rfl (Yields.gy (gy_pure (by rfl) (fun w_ => by go_simp; with_reducible rfl))) (by simp only [Act.put, List.setIfInBounds_toArray, List.set_cons_zero, List.set_cons_succ]; rfl) ?_
    refine gl_take (N := some 41) rfl (Yields.gy (gy_pure (by rfl) (fun w_ => by go_simp; with_reducible rfl))) (by simp only [Act.put, List.setIfInBounds_toArray, List.set_cons_zero, List.set_cons_succ]; rfl) ?_
    refine gl_take (N := some 42) rfl (Yields.gy (gy_pure (by rfl) (fun w_ => by go_simp; with_reducible rfl))) (by simp only [Act.put, List.setIfInBounds_toArray, List.set_cons_zero, List.set_cons_succ]; rfl) ?_
    refine gl_take (N := some 43) rfl (gy_row (by rfl) rfl (by rfl) (by with_reducible assumption) Tryd.underlying26 rfl (by first | exact vinfo _ | exact einfo _ | kernel_rfl)) (by simp only [Act.put, List.setIfInBounds_toArray, List.set_cons_zero, List.set_cons_succ]; rfl) ?_
    refine gl_take (N := some 44) rfl (Yields.gy (gy_pure (by rfl) (fun w_ => by go_simp; with_reducible rfl))) (by simp only [Act.put, List.setIfInBounds_toArray, List.set_cons_zero, List.set_cons_succ]; rfl) ?_
    refine gl_eff (by rfl) (fun w11 hw11 => ?_)
    refine wp_callF rfl Tryd.func13 (by kernel_rfl) rfl #[vval wv, .slice A4 n c4] (by rfl) (Calls.mono (HN.out ▸ Lacks_calls wv w11 (C_ext HC6.out (HX10.out.trans hw11)) (Nat.le_trans HGL.out (by decide))) ?_)
    rintro r w12 ⟨A12, c12, hr, hx12⟩
    rw [HG3.out] at hr
    subst hr
    refine ⟨_, rfl, ?_⟩
    have HX12 : Hid (Ext w10 w12) := Lib.hid (hw11.trans hx12)
    clear hw11 hx12 r10 r6 r2
    refine wpl_norm (a' := ?_) ?_ ?_
    rotate_left
    · show Act.put _ (some 45) _ = _
      simp only [Act.put, List.setIfInBounds_toArray, List.set_cons_zero, List.set_cons_succ]
      rfl
    refine GoodL.start ?_
    have r2 := blk_range ((HX6.out.trans (HX10.out.trans HX12.out)).blk HV.out)
    refine gl_take (N := some 46) rfl (Yields.gy (gy_pure (by rfl) (fun w_ => by go_simp; with_reducible rfl))) (by simp only [Act.put, List.setIfInBounds_toArray, List.set_cons_zero, List.set_cons_succ]; rfl) ?_
    refine gl_take (N := some 47) rfl (Yields.gy (gy_pure (by rfl) (fun w_ => by go_simp; with_reducible rfl))) (by simp only [Act.put, List.setIfInBounds_toArray, List.set_cons_zero, List.set_cons_succ]; rfl) ?_
    refine gl_take (N := some 48) rfl (Yields.gy (gy_pure (by rfl) (fun w_ => by go_simp; with_reducible rfl))) (by simp only [Act.put, List.setIfInBounds_toArray, List.set_cons_zero, List.set_cons_succ]; rfl) ?_
    refine gl_take (N := some 49) rfl (Yields.gy (gy_pure (by rfl) (fun w_ => by go_simp; with_reducible rfl))) (by simp only [Act.put, List.setIfInBounds_toArray, List.set_cons_zero, List.set_cons_succ]; rfl) ?_
    refine gl_take (N := some 50) rfl (gy_row (by rfl) rfl (by rfl) (by with_reducible assumption) Tryd.underlying26 rfl (by first | exact vinfo _ | exact einfo _ | kernel_rfl)) (by simp only [Act.put, List.setIfInBounds_toArray, List.set_cons_zero, List.set_cons_succ]; rfl) ?_
    refine gl_take (N := some 51) rfl (Yields.gy (gy_pure (by rfl) (fun w_ => by go_simp; with_reducible rfl))) (by simp only [Act.put, List.setIfInBounds_toArray, List.set_cons_zero, List.set_cons_succ]; rfl) ?_
    refine gl_eff (by rfl) (fun w13 hw13 => ?_)
    refine wp_callF rfl Tryd.func13 (by kernel_rfl) rfl #[vval v, .slice A4 n c4] (by rfl) (Calls.mono (HN.out ▸ Lacks_calls v w13 (C_ext HC6.out (HX10.out.trans (HX12.out.trans hw13))) (Nat.le_trans HGL.out (by decide))) ?_)
    rintro r w14 ⟨A14, c14, hr, hx14⟩
    rw [HG4.out, HN.out] at hr
    subst hr
    refine ⟨_, rfl, ?_⟩
    have HX14 : Hid (Ext w w14) := Lib.hid (HX.out.trans (HX6.out.trans (HX10.out.trans (HX12.out.trans (hw13.trans hx14)))))
    clear hw13 hx14 r2
    refine wpl_norm (a' := ?_) ?_ ?_
    rotate_left
    · show Act.put _ (some 52) _ = _
      simp only [Act.put, List.setIfInBounds_toArray, List.set_cons_zero, List.set_cons_succ]
      rfl
    refine GoodL.start ?_
    refine gl_take (N := some 53) rfl (Yields.gy (gy_pure (by rfl) (fun w_ => by go_simp; with_reducible rfl))) (by simp only [Act.put, List.setIfInBounds_toArray, List.set_cons_zero, List.set_cons_succ]; rfl) ?_
    refine gl_take (N := some 54) rfl (Yields.gy (gy_pure (by rfl) (fun w_ => by go_simp; with_reducible rfl))) (by simp only [Act.put, List.setIfInBounds_toArray, List.set_cons_zero, List.set_cons_succ]; rfl) ?_
    refine gl_take (N := some 55) rfl (Yields.gy (gy_pure (by rfl) (fun w_ => by go_simp; with_reducible rfl))) (by simp only [Act.put, List.setIfInBounds_toArray, List.set_cons_zero, List.set_cons_succ]; rfl) ?_
    refine gl_take (N := some 56) rfl (Yields.gy (gy_pure (by rfl) (fun w_ => by go_simp; with_reducible rfl))) (by simp only [Act.put, List.setIfInBounds_toArray, List.set_cons_zero, List.set_cons_succ]; rfl) ?_
    refine gl_take (N := some 57) rfl (Yields.gy (gy_pure (by rfl) (fun w_ => by go_simp; with_reducible rfl))) (by simp only [Act.put, List.setIfInBounds_toArray, List.set_cons_zero, List.set_cons_succ]; rfl) ?_
    refine gl_take (N := some 4) rfl (Yields.gy (gy_pure (by rfl) (fun w_ => by go_simp; with_reducible rfl))) (by simp only [Act.put, List.setIfInBounds_toArray, List.set_cons_zero, List.set_cons_succ]; rfl) ?_
    refine gl_done (fun w15 hw15 => ?_)
    have HX15 : Hid (Ext w w15) := Lib.hid (HX14.out.trans hw15)
    clear hw15
    go_wp2
    go_ret
    exact ⟨rfl, HX15.out⟩
end Go.Proofs.YthmnohecmmknpaaDoor.Vec
