/- A row of events in a block of its own, changed in place. -/
import Derived.Test.YthmnohecmmknpaaDoorEvG
import Derived.Deep.Cut
namespace Go.Proofs.YthmnohecmmknpaaDoor.Vec
open Go.RowKit Go.Proofs.YthmnohecmmknpaaDoorW.PrintWords
set_option linter.unusedVariables false
set_option linter.unusedSimpArgs false
structure ExtB (g : Nat) (w w' : World) : Prop where
  os : w'.os = w.os
  tape : w'.tape = w.tape
  output : w'.output = w.output
  size : w.heap.size ≤ w'.heap.size
  block : ∀ k, k ≠ g → k < w.heap.size → w'.heap[k]? = w.heap[k]?
theorem ExtB.refl (g : Nat) (w : World) : ExtB g w w := ⟨rfl, rfl, rfl, Nat.le_refl _, fun _ _ _ => rfl⟩
theorem ExtB.trans {g : Nat} {a b c : World} (h : ExtB g a b) (k : ExtB g b c) : ExtB g a c :=
  ⟨k.os.trans h.os, k.tape.trans h.tape, k.output.trans h.output, Nat.le_trans h.size k.size, fun i hi hl => (k.block i hi (Nat.lt_of_lt_of_le hl h.size)).trans (h.block i hi hl)⟩
theorem ExtB.of {g : Nat} {a b : World} (h : Ext a b) : ExtB g a b := ⟨Below.os h, Below.tape h, Below.output h, h.le, fun k _ hl => Below.block h k hl⟩
theorem ExtB.ext {g : Nat} {w a b : World} (h : ExtB g a b) (hx : Ext w a) (hg : w.heap.size ≤ g) : Ext w b :=
  ⟨h.os.trans (Below.os hx), h.tape.trans (Below.tape hx), h.output.trans (Below.output hx), Nat.le_trans hx.le h.size, fun k hk => (h.block k (by omega) (Nat.lt_of_lt_of_le hk hx.le)).trans (Below.block hx k hk)⟩
theorem setCells_os (b : Nat) : ∀ (vs : List Value) (o : Nat) (w : World), (w.setCells b o vs).os = w.os ∧ (w.setCells b o vs).tape = w.tape ∧ (w.setCells b o vs).output = w.output ∧ (w.setCells b o vs).heap.size = w.heap.size := fun vs o w => by
  have h := below_setCells (Nat.zero_le b) vs o (Below.refl 0 w)
  refine ⟨Below.os h, Below.tape h, Below.output h, ?_⟩
  clear h
  induction vs generalizing o w with
  | nil => rfl
  | cons v r ih =>
    rw [World.setCells, ih]
    simp only [World.setCell]
    split <;> simp
theorem setCells_mid (b : Nat) (t : TypeId) : ∀ (vs : List Value) (o : Nat) (w : World) (cs : List Value), w.heap[b]? = some (.cells cs.toArray t (0, 0)) → o + vs.length ≤ cs.length →
    (w.setCells b o vs).heap[b]? = some (.cells (cs.take o ++ (vs ++ cs.drop (o + vs.length))).toArray t (0, 0))
  | [], o, w, cs, h, hl => by
    rw [World.setCells, List.nil_append, List.length_nil, Nat.add_zero, List.take_append_drop]
    exact h
  | v :: r, o, w, cs, h, hl => by
    simp only [List.length_cons] at hl
    have hlt : o < cs.length := by omega
    rw [World.setCells, setCells_mid b t r (o + 1) _ (cs.set o v) (blk_set_same h) (by simp; omega)]
    have : (cs.set o v).take (o + 1) = cs.take o ++ [v] := by
      rw [List.take_succ_eq_append_getElem (by simpa using hlt)]
      simp [List.take_set]
      exact List.set_eq_of_length_le (by simp; omega)
    rw [this, List.drop_set_of_lt (by omega)]
    simp only [List.length_cons, List.append_assoc, List.cons_append, List.nil_append]
    rw [show o + 1 + r.length = o + (r.length + 1) by omega]
def Row (w : World) (p : Addr) (l : List Ev) (rest : List Value) : Prop := ∃ g, p = ⟨g, 0, none⟩ ∧ w.heap[g]? = some (.cells (l.flatMap ecells ++ rest).toArray 36 (0, 0))
theorem Row.ext {w w' : World} {p : Addr} {l : List Ev} {rest : List Value} (h : Row w p l rest) (hx : Ext w w') : Row w' p l rest := by
  obtain ⟨g, e, h⟩ := h
  exact ⟨g, e, hx.blk h⟩
theorem flat_split {l : List Ev} {i : Nat} {x : Ev} (h : l[i]? = some x) : l.flatMap ecells = (l.take i).flatMap ecells ++ (ecells x ++ (l.drop (i + 1)).flatMap ecells) := by
  rw [← List.flatMap_cons, ← drop_at h, ← List.flatMap_append, List.take_append_drop]
theorem Row.at {w : World} {p : Addr} {l : List Ev} {rest : List Value} (h : Row w p l rest) {i : Nat} {x : Ev} (hi : l[i]? = some x) : AtR w (p.add (i * 27)) (ecells x) := by
  obtain ⟨g, rfl, h⟩ := h
  have hlt := (List.getElem?_eq_some_iff.1 hi).1
  intro j u hu
  have hj := (List.getElem?_eq_some_iff.1 hu).1
  rw [ecells_len] at hj
  have e : ((⟨g, 0, none⟩ : Addr).add (i * 27)).add j = ⟨g, 0 + (i * 27 + j), none⟩ := by rw [Addr.add_mid, Addr.add_mid, Nat.add_assoc]
  rw [e]
  have hl : ((l.take i).flatMap ecells).length = i * 27 := by rw [flat_len, List.length_take, Nat.min_eq_left (by omega)]
  have hc : (l.flatMap ecells ++ rest)[i * 27 + j]? = some u := by
    rw [flat_split hi, List.append_assoc, List.getElem?_append_right (by omega), hl, Nat.add_sub_cancel_left, List.append_assoc, List.getElem?_append_left (by rw [ecells_len]; exact hj)]
    exact hu
  have hr := blk_range h
  exact hr _ _ hc
theorem set_eq {l : List Ev} {i : Nat} (h : i < l.length) (x : Ev) : l.set i x = l.take i ++ x :: l.drop (i + 1) := List.set_eq_take_append_cons_drop.trans (if_pos h)
theorem wp_storeR {o : Oper} {a : Act} {w : World} {K : Act → World → Prop} {Q : Exit → Act → World → Prop} {x y : Operand} {p : Addr} {l : List Ev} {rest : List Value} {i : Nat} {e : Ev} (ho : o.op = .store 36 x y)
    (hx : a.eval x = .pointer (some (p.add (i * 27)))) (hy : a.eval y = .agg (ecells e).toArray) (hR : Row w p l rest) (hi : i < l.length) (h : ∀ w', Row w' p (l.set i e) rest → ExtB p.block w w' → K (a.put o.dst undef) w') : o.wp Tryd.prog a w K Q := by
  obtain ⟨g, rfl, hb⟩ := hR
  have hx' : a.eval x = .pointer (some ⟨g, i * 27, none⟩) := by rw [hx, Addr.add_mid, Nat.zero_add]
  have hf : (l.flatMap ecells ++ rest).length = l.length * 27 + rest.length := by rw [List.length_append, flat_len]
  refine wp_store_mid 36 x y ho g (i * 27) (ecells e).toArray hx' hy (blk_there hb _ _ (by rw [List.size_toArray, List.size_toArray, hf, ecells_len]; omega)) (einfoA e) (all_oneCell_toArray (ecells_one e)) (h _ ⟨g, rfl, ?_⟩ ?_)
  · have hm := setCells_mid g _ (ecells e) (i * 27) w _ hb (by rw [hf, ecells_len]; omega)
    have hx := List.getElem?_eq_getElem hi
    have hlt : ((l.take i).flatMap ecells).length = i * 27 := by rw [flat_len, List.length_take, Nat.min_eq_left (by omega)]
    have e0 : l.flatMap ecells ++ rest = (l.take i).flatMap ecells ++ (ecells l[i] ++ ((l.drop (i + 1)).flatMap ecells ++ rest)) := by rw [flat_split hx, List.append_assoc, List.append_assoc]
    have ht : (l.take i).flatMap ecells = (l.flatMap ecells ++ rest).take (i * 27) := by rw [e0, List.take_left' hlt]
    have hd : (l.drop (i + 1)).flatMap ecells ++ rest = (l.flatMap ecells ++ rest).drop (i * 27 + (ecells e).length) := by
      rw [e0, ← List.append_assoc, List.drop_left' (by rw [List.length_append, hlt, ecells_len, ecells_len])]
    rw [show (ecells e).toArray.toList = ecells e from rfl, hm, set_eq hi, List.flatMap_append, List.flatMap_cons, ht, List.append_assoc, List.append_assoc, hd]
  · obtain ⟨h1, h2, h3, h4⟩ := setCells_os g (ecells e).toArray.toList (i * 27) w
    exact ⟨h1, h2, h3, Nat.le_of_eq h4.symm, fun k hk _ => setCells_other g k hk _ _ _⟩
end Go.Proofs.YthmnohecmmknpaaDoor.Vec
namespace Go.Proofs.YthmnohecmmknpaaDoor.Vec
open Go.RowKit Go.Proofs.YthmnohecmmknpaaDoor.Val
set_option linter.unusedVariables false
set_option linter.unusedSimpArgs false
theorem pastB_neg (e f : Ev) : pastB e f < 0 ↔ (sumV e.past < sumV f.past ∨ sumV e.past = sumV f.past ∧ (e.rep < f.rep ∨ e.rep = f.rep ∧ e.cnt < f.cnt)) := by
  simp only [pastB, orI, cmpI]
  repeat' split
  all_goals omega
def le (x y : Ev) : Prop := ¬ pastB y x < 0
theorem le_iff (x y : Ev) : le x y ↔ (sumV x.past < sumV y.past ∨ sumV x.past = sumV y.past ∧ (x.rep < y.rep ∨ x.rep = y.rep ∧ x.cnt ≤ y.cnt)) := by
  unfold le
  rw [pastB_neg]
  omega
theorem le_of_lt {x y : Ev} (h : pastB x y < 0) : le x y := by
  rw [le_iff]
  rw [pastB_neg] at h
  omega
theorem le_trans' {x y z : Ev} (h : le x y) (k : le y z) : le x z := by
  rw [le_iff] at *
  omega
theorem le_refl' (x : Ev) : le x x := by
  rw [le_iff]
  omega
def Srt (l : List Ev) : Prop := l.Pairwise le
theorem srt_nil : Srt [] := List.Pairwise.nil
theorem srt_one (x : Ev) : Srt [x] := List.pairwise_singleton _ _
theorem srt_app {A B : List Ev} : Srt (A ++ B) ↔ Srt A ∧ Srt B ∧ ∀ x ∈ A, ∀ y ∈ B, le x y := List.pairwise_append
theorem cross {A B : List Ev} (hA : Srt A) (hB : Srt B) (h : ∀ x y, A.getLast? = some x → B.head? = some y → le x y) : ∀ x ∈ A, ∀ y ∈ B, le x y := by
  intro x hx y hy
  rcases List.eq_nil_or_concat A with rfl | ⟨A', z, rfl⟩
  · cases hx
  · cases B with
    | nil => cases hy
    | cons u B' =>
      have h1 := h z u (by simp) rfl
      simp only [List.concat_eq_append] at *
      have h2 : le x z := by
        rcases List.mem_append.1 hx with hx | hx
        · exact (srt_app.1 hA).2.2 x hx z (by simp)
        · rw [List.mem_singleton.1 hx]
          exact le_refl' z
      have h3 : le u y := by
        rcases List.mem_cons.1 hy with rfl | hy
        · exact le_refl' _
        · exact (List.pairwise_cons.1 hB).1 y hy
      exact le_trans' h2 (le_trans' h1 h3)
theorem swap_mid (U V W : List Ev) (x y : Ev) {i j : Nat} (hi : i = U.length) (hj : j = U.length + 1 + V.length) : ((U ++ x :: (V ++ y :: W)).set i y).set j x = U ++ y :: (V ++ x :: W) := by
  subst hi
  subst hj
  rw [List.set_append_right _ _ (Nat.le_refl _), Nat.sub_self, List.set_cons_zero, List.set_append_right _ _ (by omega), show U.length + 1 + V.length - U.length = V.length + 1 by omega, List.set_cons_succ, List.set_append_right _ _ (Nat.le_refl _), Nat.sub_self, List.set_cons_zero]
theorem get_mid1 (U V W : List Ev) (x y : Ev) {i : Nat} (hi : i = U.length) : (U ++ x :: (V ++ y :: W))[i]? = some x := by
  subst hi
  simp
theorem get_mid2 (U V W : List Ev) (x y : Ev) {j : Nat} (hj : j = U.length + 1 + V.length) : (U ++ x :: (V ++ y :: W))[j]? = some y := by
  subst hj
  rw [List.getElem?_append_right (by omega), show U.length + 1 + V.length - U.length = V.length + 1 by omega, List.getElem?_cons_succ, List.getElem?_append_right (Nat.le_refl _), Nat.sub_self]
  rfl
theorem len_mid1 (U V W : List Ev) (x y : Ev) {i : Nat} (hi : i = U.length) : i < (U ++ x :: (V ++ y :: W)).length := by
  subst hi
  simp
theorem len_mid2 (U V W : List Ev) (x y z : Ev) {i j : Nat} (hj : j = U.length + 1 + V.length) : j < ((U ++ x :: (V ++ y :: W)).set i z).length := by
  subst hj
  simp
  omega
theorem swap_mid' (U V W : List Ev) (x y : Ev) {i j : Nat} (hi : i = U.length) (hj : j = U.length + 1 + V.length) : ((U ++ x :: (V ++ y :: W)).set j x).set i y = U ++ y :: (V ++ x :: W) := by
  rw [List.set_comm _ _ (by omega), swap_mid U V W x y hi hj]
theorem len_mid1' (U V W : List Ev) (x y z : Ev) {i j : Nat} (hi : i = U.length) : i < ((U ++ x :: (V ++ y :: W)).set j z).length := by
  subst hi
  simp
theorem len_mid2' (U V W : List Ev) (x y : Ev) {j : Nat} (hj : j = U.length + 1 + V.length) : j < (U ++ x :: (V ++ y :: W)).length := by
  subst hj
  simp
  omega
end Go.Proofs.YthmnohecmmknpaaDoor.Vec
namespace Go.Proofs.YthmnohecmmknpaaDoor.Vec
open Go.RowKit Go.Proofs.YthmnohecmmknpaaDoorW.PrintWords Go.Proofs.YthmnohecmmknpaaDoorW.PrintLast Go.Proofs.YthmnohecmmknpaaDoor.Given Go.Proofs.YthmnohecmmknpaaDoor.PA Go.Proofs.YthmnohecmmknpaaDoor.Val
set_option linter.unusedVariables false
set_option linter.unusedSimpArgs false
set_option maxRecDepth 100000
def RowPost (p : Addr) (l : List Ev) (rest : List Value) (w : World) (r : Ending) (w' : World) : Prop := r = .returned (.tuple #[]) ∧ Row w' p l rest ∧ ExtB p.block w w'
theorem wrap_n (x : Int) (n : Nat) (h : x = n) (hn : n ≤ 1000000) : IntKind.i64.wrap x = ((n : Nat) : Int) := by
  subst h
  exact IntWalk.i64_in _ (by omega)
set_option maxHeartbeats 2000000 in
theorem swapRange_calls (P X M Y S : List Ev) (rest : List Value) (p : Addr) (N c a b n : Nat) (fv : Value) (w : World) (hR : Row w p (P ++ (X ++ (M ++ (Y ++ S)))) rest) (hxy : X.length = Y.length)
    (hN : (P ++ (X ++ (M ++ (Y ++ S)))).length = N) (ha : P.length = a) (hb : a + X.length + M.length = b) (hn : X.length = n) (hl : N ≤ 1000) :
    Calls Tryd.prog 54 #[.slice (some p) N c, .int .i64 (a : Int), .int .i64 (b : Int), .int .i64 (n : Int), fv] w (RowPost p (P ++ (Y ++ (M ++ (X ++ S)))) rest w) := by
  have HR := Lib.hid hR
  have HXY := Lib.hid hxy
  have HN := Lib.hid hN
  have HA := Lib.hid ha
  have HB := Lib.hid hb
  have HNN := Lib.hid hn
  have HL := Lib.hid hl
  clear hR hxy hN ha hb hn hl
  go_enter Tryd.func54, Tryd.ntmps54
  go_wp2
  go_loopg [10] n (fun k v10 wr => ∃ (i : Nat) (X1 X2 Y1 Y2 : List Ev), v10 = .int .i64 (i : Int) ∧ Hid (X = X1 ++ X2) ∧ Hid (Y = Y1 ++ Y2) ∧ Hid (X1.length = i) ∧ Hid (Y1.length = i) ∧ Hid (n = i + k) ∧
    Hid (Row wr p (P ++ (Y1 ++ (X2 ++ (M ++ (X1 ++ (Y2 ++ S)))))) rest) ∧ Hid (ExtB p.block w wr))
  case atStart => exact ⟨0, [], X, [], Y, rfl, Lib.hid rfl, Lib.hid rfl, Lib.hid rfl, Lib.hid rfl, Lib.hid (by omega), HR, Lib.hid (ExtB.refl _ _)⟩
  case round =>
    obtain ⟨i, X1, X2, Y1, Y2, rfl, HX, HY, HX1, HY1, HK, HRR, HE⟩ := hrel
    by_cases hi : i < n
    · have HII := Lib.hid hi
      have hlX := congrArg List.length HX.out
      have hlY := congrArg List.length HY.out
      simp only [List.length_append] at hlX hlY
      have hx2 : X2 ≠ [] := by
        rintro rfl
        simp only [List.length_nil] at hlX
        have := HX1.out; have := HNN.out; omega
      have hy2 : Y2 ≠ [] := by
        rintro rfl
        simp only [List.length_nil] at hlY
        have := HY1.out; have := HNN.out; have := HXY.out; omega
      obtain ⟨x, X3, rfl⟩ := List.exists_cons_of_ne_nil hx2
      obtain ⟨y, Y3, rfl⟩ := List.exists_cons_of_ne_nil hy2
      clear hx2 hy2
      obtain ⟨I, hI⟩ : ∃ I, a + i = I := ⟨_, rfl⟩
      obtain ⟨J, hJ⟩ : ∃ J, b + i = J := ⟨_, rfl⟩
      have hNN := HN.out
      simp only [List.length_append, List.length_cons] at hNN hlX hlY
      have hIN : I < N := by have := HA.out; have := HNN.out; omega
      have hJN : J < N := by have := HB.out; have := HA.out; have := HXY.out; have := HNN.out; omega
      have hI1 : (I : Int) < (N : Int) := by omega
      have hJ1 : (J : Int) < (N : Int) := by omega
      have hI0 : 0 ≤ (I : Int) := by omega
      have hJ0 : 0 ≤ (J : Int) := by omega
      have hi1 : (i : Int) < (n : Int) := by omega
      have hwi : IntKind.i64.wrap ((i : Int) + 1) = ((i + 1 : Nat) : Int) := wrap_n _ _ (by omega) (by have := HL.out; have := HII.out; omega)
      have hwI : IntKind.i64.wrap ((a : Int) + (i : Int)) = (I : Int) := wrap_n _ _ (by omega) (by have := HL.out; omega)
      have hwJ : IntKind.i64.wrap ((b : Int) + (i : Int)) = (J : Int) := wrap_n _ _ (by omega) (by have := HL.out; omega)
      have HIU : Hid (I = (P ++ Y1).length) := Lib.hid (by rw [List.length_append, HY1.out, HA.out]; exact hI.symm)
      have HJU : Hid (J = (P ++ Y1).length + 1 + (X3 ++ (M ++ X1)).length) := Lib.hid (by simp only [List.length_append]; have := HB.out; have := HY1.out; have := HX1.out; have := HA.out; omega)
      have HF : Hid (P ++ (Y1 ++ (x :: X3 ++ (M ++ (X1 ++ (y :: Y3 ++ S))))) = (P ++ Y1) ++ x :: ((X3 ++ (M ++ X1)) ++ y :: (Y3 ++ S))) := Lib.hid (by simp)
      have hr := HRR.out
      rw [HF.out] at hr
      have HR1 := Lib.hid hr
      have hax : AtR wr (p.add (I * 27)) (ecells x) := hr.at (get_mid1 _ _ _ _ _ HIU.out)
      have hay : AtR wr (p.add (J * 27)) (ecells y) := hr.at (get_mid2 _ _ _ _ _ HJU.out)
      have HIN := Lib.hid hIN
      have HJN := Lib.hid hJN
      clear hi hr hI hJ hNN hlX hlY hIN hJN
      go_upto_region 3 with (fail)
      refine g_begin (by kernel_rfl) (Ext.refl _) (List.toArray (false :: false :: false :: false :: false :: false :: false :: false :: false :: false :: false :: false :: false :: false :: false :: false :: false :: false :: false :: false :: false :: false :: false :: false :: [])) 24 rfl rfl ?_
      refine g_take 0 (List.toArray (true :: false :: false :: false :: false :: false :: false :: false :: false :: false :: false :: false :: false :: false :: false :: false :: false :: false :: false :: false :: false :: false :: false :: false :: [])) (N := some 16) rfl rfl (by kernel_rfl) (fun _ _ _ h => h) (GP.p (gy_pure (by rfl) (fun w_ => by go_simp; with_reducible rfl))) (by simp only [Act.put, List.setIfInBounds_toArray, List.set_cons_zero, List.set_cons_succ]; rfl) ?_
      refine g_take 1 (List.toArray (true :: true :: false :: false :: false :: false :: false :: false :: false :: false :: false :: false :: false :: false :: false :: false :: false :: false :: false :: false :: false :: false :: false :: false :: [])) (N := some 17) rfl rfl (by kernel_rfl) (fun _ _ _ h => h) (GP.p (gy_pure (by rfl) (fun w_ => by go_simp; with_reducible rfl))) (by simp only [Act.put, List.setIfInBounds_toArray, List.set_cons_zero, List.set_cons_succ]; rfl) ?_
      refine g_take 2 (List.toArray (true :: true :: true :: false :: false :: false :: false :: false :: false :: false :: false :: false :: false :: false :: false :: false :: false :: false :: false :: false :: false :: false :: false :: false :: [])) (N := some 18) rfl rfl (by kernel_rfl) (fun _ _ _ h => h) (GP.p (gy_pure (by rfl) (fun w_ => by go_simp; with_reducible rfl))) (by simp only [Act.put, List.setIfInBounds_toArray, List.set_cons_zero, List.set_cons_succ]; rfl) ?_
      refine g_take 3 (List.toArray (true :: true :: true :: true :: false :: false :: false :: false :: false :: false :: false :: false :: false :: false :: false :: false :: false :: false :: false :: false :: false :: false :: false :: false :: [])) (N := some 19) rfl rfl (by kernel_rfl) (fun _ _ _ h => h) (GP.p (gy_pure (by rfl) (fun w_ => by go_simp; with_reducible rfl))) (by simp only [Act.put, List.setIfInBounds_toArray, List.set_cons_zero, List.set_cons_succ]; rfl) ?_
      refine g_take 4 (List.toArray (true :: true :: true :: true :: true :: false :: false :: false :: false :: false :: false :: false :: false :: false :: false :: false :: false :: false :: false :: false :: false :: false :: false :: false :: [])) (N := some 20) rfl rfl (by kernel_rfl) (fun _ _ _ h => h) (GP.p (gy_pure (by rfl) (fun w_ => by go_simp; with_reducible rfl))) (by simp only [Act.put, List.setIfInBounds_toArray, List.set_cons_zero, List.set_cons_succ]; rfl) ?_
      refine g_take 5 (List.toArray (true :: true :: true :: true :: true :: true :: false :: false :: false :: false :: false :: false :: false :: false :: false :: false :: false :: false :: false :: false :: false :: false :: false :: false :: [])) (N := some 21) rfl rfl (by kernel_rfl) (fun _ _ _ h => h) (GP.p (gy_pure (by rfl) (fun w_ => by go_simp; with_reducible rfl))) (by simp only [Act.put, List.setIfInBounds_toArray, List.set_cons_zero, List.set_cons_succ]; rfl) ?_
      refine g_take 6 (List.toArray (true :: true :: true :: true :: true :: true :: true :: false :: false :: false :: false :: false :: false :: false :: false :: false :: false :: false :: false :: false :: false :: false :: false :: false :: [])) (N := some 22) rfl rfl (by kernel_rfl) (fun _ _ _ h => h) (GP.p (gy_pure (by rfl) (fun w_ => by go_simp; with_reducible rfl))) (by simp only [Act.put, List.setIfInBounds_toArray, List.set_cons_zero, List.set_cons_succ]; rfl) ?_
      refine g_take 7 (List.toArray (true :: true :: true :: true :: true :: true :: true :: true :: false :: false :: false :: false :: false :: false :: false :: false :: false :: false :: false :: false :: false :: false :: false :: false :: [])) (N := some 23) rfl rfl (by kernel_rfl) (fun _ _ _ h => h) (GP.p (gy_pure (by rfl) (fun w_ => by go_simp; with_reducible rfl))) (by simp only [Act.put, List.setIfInBounds_toArray, List.set_cons_zero, List.set_cons_succ]; rfl) ?_
      refine g_take 8 (List.toArray (true :: true :: true :: true :: true :: true :: true :: true :: true :: false :: false :: false :: false :: false :: false :: false :: false :: false :: false :: false :: false :: false :: false :: false :: [])) (N := some 24) rfl rfl (by kernel_rfl) (fun _ _ _ h => h) (GP.p (gy_pure (by rfl) (fun w_ => by go_simp; with_reducible rfl))) (by simp only [Act.put, List.setIfInBounds_toArray, List.set_cons_zero, List.set_cons_succ]; rfl) ?_
      refine g_take 9 (List.toArray (true :: true :: true :: true :: true :: true :: true :: true :: true :: true :: false :: false :: false :: false :: false :: false :: false :: false :: false :: false :: false :: false :: false :: false :: [])) (N := some 25) rfl rfl (by kernel_rfl) (fun _ _ _ h => h) (GP.p (gy_pure (by rfl) (fun w_ => by go_simp; with_reducible rfl))) (by simp only [Act.put, List.setIfInBounds_toArray, List.set_cons_zero, List.set_cons_succ]; rfl) ?_
      refine g_take 10 (List.toArray (true :: true :: true :: true :: true :: true :: true :: true :: true :: true :: true :: false :: false :: false :: false :: false :: false :: false :: false :: false :: false :: false :: false :: false :: [])) (N := some 26) rfl rfl (by kernel_rfl) (fun _ _ _ h => h) (GP.p (gy_pure (by rfl) (fun w_ => by go_simp; with_reducible rfl))) (by simp only [Act.put, List.setIfInBounds_toArray, List.set_cons_zero, List.set_cons_succ]; rfl) ?_
      refine g_take 11 (List.toArray (true :: true :: true :: true :: true :: true :: true :: true :: true :: true :: true :: true :: false :: false :: false :: false :: false :: false :: false :: false :: false :: false :: false :: false :: [])) (N := some 27) rfl rfl (by kernel_rfl) (fun _ _ _ h => h) (GP.p (gy_pure (by rfl) (fun w_ => by go_simp; with_reducible rfl))) (by simp only [Act.put, List.setIfInBounds_toArray, List.set_cons_zero, List.set_cons_succ]; rfl) ?_
      refine g_take 12 (List.toArray (true :: true :: true :: true :: true :: true :: true :: true :: true :: true :: true :: true :: true :: false :: false :: false :: false :: false :: false :: false :: false :: false :: false :: false :: [])) (N := some 28) rfl rfl (by kernel_rfl) (fun _ _ _ h => h) (GP.p (gy_pure (by rfl) (fun w_ => by go_simp; with_reducible rfl))) (by simp only [Act.put, List.setIfInBounds_toArray, List.set_cons_zero, List.set_cons_succ]; rfl) ?_
      refine g_take 13 (List.toArray (true :: true :: true :: true :: true :: true :: true :: true :: true :: true :: true :: true :: true :: true :: false :: false :: false :: false :: false :: false :: false :: false :: false :: false :: [])) (N := some 29) rfl rfl (by kernel_rfl) (fun _ _ _ h => h) (GP.rd (by rfl) (gy_rowA (by rfl) rfl (by rfl) hay Tryd.isAgg36 Tryd.sizeOf36 (ecells_len y))) (by simp only [Act.put, List.setIfInBounds_toArray, List.set_cons_zero, List.set_cons_succ]; rfl) ?_
      refine g_take 14 (List.toArray (true :: true :: true :: true :: true :: true :: true :: true :: true :: true :: true :: true :: true :: true :: true :: false :: false :: false :: false :: false :: false :: false :: false :: false :: [])) (N := some 30) rfl rfl (by kernel_rfl) (fun _ _ _ h => h) (GP.p (gy_pure (by rfl) (fun w_ => by go_simp; with_reducible rfl))) (by simp only [Act.put, List.setIfInBounds_toArray, List.set_cons_zero, List.set_cons_succ]; rfl) ?_
      refine g_take 15 (List.toArray (true :: true :: true :: true :: true :: true :: true :: true :: true :: true :: true :: true :: true :: true :: true :: true :: false :: false :: false :: false :: false :: false :: false :: false :: [])) (N := some 31) rfl rfl (by kernel_rfl) (fun _ _ _ h => h) (GP.p (gy_pure (by rfl) (fun w_ => by go_simp; with_reducible rfl))) (by simp only [Act.put, List.setIfInBounds_toArray, List.set_cons_zero, List.set_cons_succ]; rfl) ?_
      refine g_take 16 (List.toArray (true :: true :: true :: true :: true :: true :: true :: true :: true :: true :: true :: true :: true :: true :: true :: true :: true :: false :: false :: false :: false :: false :: false :: false :: [])) (N := some 32) rfl rfl (by kernel_rfl) (fun _ _ _ h => h) (GP.p (gy_pure (by rfl) (fun w_ => by go_simp; with_reducible rfl))) (by simp only [Act.put, List.setIfInBounds_toArray, List.set_cons_zero, List.set_cons_succ]; rfl) ?_
      refine g_take 17 (List.toArray (true :: true :: true :: true :: true :: true :: true :: true :: true :: true :: true :: true :: true :: true :: true :: true :: true :: true :: false :: false :: false :: false :: false :: false :: [])) (N := some 33) rfl rfl (by kernel_rfl) (fun _ _ _ h => h) (GP.p (gy_pure (by rfl) (fun w_ => by go_simp; with_reducible rfl))) (by simp only [Act.put, List.setIfInBounds_toArray, List.set_cons_zero, List.set_cons_succ]; rfl) ?_
      refine g_take 18 (List.toArray (true :: true :: true :: true :: true :: true :: true :: true :: true :: true :: true :: true :: true :: true :: true :: true :: true :: true :: true :: false :: false :: false :: false :: false :: [])) (N := some 34) rfl rfl (by kernel_rfl) (fun _ _ _ h => h) (GP.p (gy_pure (by rfl) (fun w_ => by go_simp; with_reducible rfl))) (by simp only [Act.put, List.setIfInBounds_toArray, List.set_cons_zero, List.set_cons_succ]; rfl) ?_
      refine g_take 19 (List.toArray (true :: true :: true :: true :: true :: true :: true :: true :: true :: true :: true :: true :: true :: true :: true :: true :: true :: true :: true :: true :: false :: false :: false :: false :: [])) (N := some 35) rfl rfl (by kernel_rfl) (fun _ _ _ h => h) (GP.rd (by rfl) (gy_rowA (by rfl) rfl (by rfl) hax Tryd.isAgg36 Tryd.sizeOf36 (ecells_len x))) (by simp only [Act.put, List.setIfInBounds_toArray, List.set_cons_zero, List.set_cons_succ]; rfl) ?_
      refine g_take 20 (List.toArray (true :: true :: true :: true :: true :: true :: true :: true :: true :: true :: true :: true :: true :: true :: true :: true :: true :: true :: true :: true :: true :: false :: false :: false :: [])) (N := some 36) rfl rfl (by kernel_rfl) (fun _ _ _ h => h) (GP.p (gy_pure (by rfl) (fun w_ => by go_simp; with_reducible rfl))) (by simp only [Act.put, List.setIfInBounds_toArray, List.set_cons_zero, List.set_cons_succ]; rfl) ?_
      refine g_barrier 21 (List.toArray (true :: true :: true :: true :: true :: true :: true :: true :: true :: true :: true :: true :: true :: true :: true :: true :: true :: true :: true :: true :: true :: true :: false :: false :: [])) rfl (by kernel_rfl) (by kernel_rfl) (fun w5 hw5 => ⟨by rfl, ?_⟩)
      refine wp_storeR (i := I) (e := y) rfl (by rfl) (by rfl) (HR1.out.ext hw5) (len_mid1 _ _ _ _ _ HIU.out) (fun w6 hR6 hE6 => ?_)
      have HR6 := Lib.hid hR6
      have HE6 : Hid (ExtB p.block w w6) := Lib.hid ((HE.out.trans (ExtB.of hw5)).trans hE6)
      clear hR6 hE6 hw5 hax hay
      refine g_take 22 (List.toArray (true :: true :: true :: true :: true :: true :: true :: true :: true :: true :: true :: true :: true :: true :: true :: true :: true :: true :: true :: true :: true :: true :: true :: false :: [])) (N := some 37) rfl rfl (by kernel_rfl) (fun _ _ _ h => h) (GP.p (gy_pure (by rfl) (fun w_ => by go_simp; with_reducible rfl))) (by simp only [Act.put, List.setIfInBounds_toArray, List.set_cons_zero, List.set_cons_succ]; rfl) ?_
      refine g_barrier 23 (List.toArray (true :: true :: true :: true :: true :: true :: true :: true :: true :: true :: true :: true :: true :: true :: true :: true :: true :: true :: true :: true :: true :: true :: true :: true :: [])) rfl (by kernel_rfl) (by kernel_rfl) (fun w7 hw7 => ⟨by rfl, ?_⟩)
      refine wp_storeR (i := J) (e := x) rfl (by rfl) (by rfl) (HR6.out.ext hw7) (len_mid2 _ _ _ _ _ _ HJU.out) (fun w8 hR8 hE8 => ?_)
      refine g_done (by kernel_rfl) (fun w9 hw9 => ?_)
      have HR9 : Hid (Row w9 p _ rest) := Lib.hid (hR8.ext hw9)
      have HE9 : Hid (ExtB p.block w w9) := Lib.hid (((HE6.out.trans (ExtB.of hw7)).trans hE8).trans (ExtB.of hw9))
      rw [swap_mid _ _ _ _ _ HIU.out HJU.out] at HR9
      clear hR8 hE8 hw9 hw7 HR6 HE6
      simp only [Act.put]
      go_wp2
      go_roundg (n - (i + 1))
      case measure => have := HK.out; have := HII.out; omega
      case rel => exact ⟨i + 1, X1 ++ [x], X3, Y1 ++ [y], Y3, rfl, Lib.hid (by rw [HX.out]; simp), Lib.hid (by rw [HY.out]; simp), Lib.hid (by simp [HX1.out]), Lib.hid (by simp [HY1.out]), Lib.hid (by have := HII.out; omega), Lib.hid (by have h := HR9.out; simpa using h), HE9⟩
    · have hie : i = n := by have := HK.out; omega
      subst hie
      have hx2 : X2 = [] := List.length_eq_zero_iff.1 (by have := congrArg List.length HX.out; rw [List.length_append, HX1.out, HNN.out] at this; omega)
      have hy2 : Y2 = [] := List.length_eq_zero_iff.1 (by have := congrArg List.length HY.out; rw [List.length_append, HY1.out, ← HXY.out, HNN.out] at this; omega)
      subst hx2
      subst hy2
      have HX' : X1 = X := by rw [HX.out, List.append_nil]
      have HY' : Y1 = Y := by rw [HY.out, List.append_nil]
      subst HX'
      subst HY'
      have hii : ¬ (i : Int) < (i : Int) := by omega
      go_wp2
      go_end0
      exact ⟨rfl, by have h := HRR.out; simpa using h, HE.out⟩
end Go.Proofs.YthmnohecmmknpaaDoor.Vec
namespace Go.Proofs.YthmnohecmmknpaaDoor.Vec
open Go.RowKit Go.Proofs.YthmnohecmmknpaaDoorW.PrintWords Go.Proofs.YthmnohecmmknpaaDoorW.PrintLast Go.Proofs.YthmnohecmmknpaaDoor.Given Go.Proofs.YthmnohecmmknpaaDoor.PA Go.Proofs.YthmnohecmmknpaaDoor.Val
set_option linter.unusedVariables false
set_option linter.unusedSimpArgs false
set_option maxRecDepth 100000
theorem split_at {l : List Ev} {k : Nat} (h : k ≤ l.length) : ∃ A B, l = A ++ B ∧ A.length = k ∧ B.length = l.length - k := ⟨l.take k, l.drop k, (List.take_append_drop k l).symm, by rw [List.length_take]; omega, List.length_drop⟩
set_option maxHeartbeats 2000000 in
theorem rotate_calls (P X Y S : List Ev) (rest : List Value) (p : Addr) (N c a m b : Nat) (fv : Value) (w : World) (hR : Row w p (P ++ (X ++ (Y ++ S))) rest) (hX : 0 < X.length) (hY : 0 < Y.length)
    (hN : (P ++ (X ++ (Y ++ S))).length = N) (ha : P.length = a) (hm : a + X.length = m) (hb : m + Y.length = b) (hl : N ≤ 1000) :
    Calls Tryd.prog 49 #[.slice (some p) N c, .int .i64 (a : Int), .int .i64 (m : Int), .int .i64 (b : Int), fv] w (RowPost p (P ++ (Y ++ (X ++ S))) rest w) := by
  obtain ⟨i0, hi0⟩ : ∃ i, X.length = i := ⟨_, rfl⟩
  obtain ⟨j0, hj0⟩ : ∃ j, Y.length = j := ⟨_, rfl⟩
  have HR := Lib.hid hR
  have HI0 := Lib.hid hi0
  have HJ0 := Lib.hid hj0
  have HXP : Hid (0 < i0) := Lib.hid (hi0 ▸ hX)
  have HYP : Hid (0 < j0) := Lib.hid (hj0 ▸ hY)
  have HN : Hid (a + i0 + j0 + S.length = N) := Lib.hid (by rw [← hN]; simp only [List.length_append]; omega)
  have HA := Lib.hid ha
  have HM : Hid (a + i0 = m) := Lib.hid (hi0 ▸ hm)
  have HB : Hid (m + j0 = b) := Lib.hid (hj0 ▸ hb)
  have HL := Lib.hid hl
  have hwi : IntKind.i64.wrap ((m : Int) - (a : Int)) = (i0 : Int) := wrap_n _ _ (by omega) (by have := HN.out; omega)
  have hwj : IntKind.i64.wrap ((b : Int) - (m : Int)) = (j0 : Int) := wrap_n _ _ (by omega) (by have := HN.out; omega)
  clear hR hX hY hN ha hm hb hl hi0 hj0
  go_enter Tryd.func49, Tryd.ntmps49
  go_wp2
  clear hwi hwj
  go_loopg [10, 11] (i0 + j0) (fun k v10 v11 wr => ∃ (i j : Nat) (A X1 Y1 B : List Ev), v10 = .int .i64 (i : Int) ∧ v11 = .int .i64 (j : Int) ∧ Hid (i + j = k) ∧ Hid (X1.length = i) ∧ Hid (Y1.length = j) ∧ Hid (0 < i) ∧ Hid (0 < j) ∧ Hid (a + A.length + i = m) ∧
    Hid (m + j + B.length = b) ∧ Hid (A ++ (Y1 ++ (X1 ++ B)) = Y ++ X) ∧ Hid (Row wr p (P ++ (A ++ (X1 ++ (Y1 ++ (B ++ S))))) rest) ∧ Hid (ExtB p.block w wr))
  case atStart => exact ⟨i0, j0, [], X, Y, [], rfl, rfl, Lib.hid rfl, HI0, HJ0, HXP, HYP, HM, HB, Lib.hid (by simp), Lib.hid (by have h := HR.out; simpa using h), Lib.hid (ExtB.refl _ _)⟩
  case round =>
    obtain ⟨i, j, A, X1, Y1, B, rfl, rfl, HK, HX1, HY1, HI, HJ, HMM, HBB, HEQ, HRR, HE⟩ := hrel
    have HLEN := Lib.hid (congrArg List.length HEQ.out)
    obtain ⟨k, hk⟩ : ∃ k, m - i = k := ⟨_, rfl⟩
    have hwk : IntKind.i64.wrap ((m : Int) - (i : Int)) = (k : Int) := wrap_n _ _ (by have := HMM.out; omega) (by have := HM.out; have := HN.out; have := HL.out; omega)
    have HKK : Hid (k = (P ++ A).length) := Lib.hid (by rw [List.length_append, HA.out, ← hk, ← HMM.out]; omega)
    clear hk
    by_cases hij : i = j
    · subst hij
      have hne : ¬ ((i : Int) ≠ (i : Int)) := by omega
      have HR1 : Hid (Row wr p ((P ++ A) ++ (X1 ++ ([] ++ (Y1 ++ (B ++ S))))) rest) := Lib.hid (by have h := HRR.out; simpa using h)
      go_upto_region 8 with (fail)
      refine gl_begin (Ext.refl _) ?_
      refine gl_take (N := some 50) rfl (Yields.gy (gy_pure (by rfl) (fun w_ => by go_simp; with_reducible rfl))) (by simp only [Act.put, List.setIfInBounds_toArray, List.set_cons_zero, List.set_cons_succ]; rfl) ?_
      refine gl_take (N := some 51) rfl (Yields.gy (gy_pure (by rfl) (fun w_ => by go_simp; with_reducible rfl))) (by simp only [Act.put, List.setIfInBounds_toArray, List.set_cons_zero, List.set_cons_succ]; rfl) ?_
      refine gl_take (N := some 52) rfl (Yields.gy (gy_pure (by rfl) (fun w_ => by go_simp; with_reducible rfl))) (by simp only [Act.put, List.setIfInBounds_toArray, List.set_cons_zero, List.set_cons_succ]; rfl) ?_
      refine gl_take (N := some 53) rfl (Yields.gy (gy_pure (by rfl) (fun w_ => by go_simp; with_reducible rfl))) (by simp only [Act.put, List.setIfInBounds_toArray, List.set_cons_zero, List.set_cons_succ]; rfl) ?_
      refine gl_take (N := some 54) rfl (Yields.gy (gy_pure (by rfl) (fun w_ => by go_simp; with_reducible rfl))) (by simp only [Act.put, List.setIfInBounds_toArray, List.set_cons_zero, List.set_cons_succ]; rfl) ?_
      refine gl_take (N := some 55) rfl (Yields.gy (gy_pure (by rfl) (fun w_ => by go_simp; with_reducible rfl))) (by simp only [Act.put, List.setIfInBounds_toArray, List.set_cons_zero, List.set_cons_succ]; rfl) ?_
      refine gl_take (N := some 56) rfl (Yields.gy (gy_pure (by rfl) (fun w_ => by go_simp; with_reducible rfl))) (by simp only [Act.put, List.setIfInBounds_toArray, List.set_cons_zero, List.set_cons_succ]; rfl) ?_
      refine gl_eff (by rfl) (fun w2 hw2 => ?_)
      refine wp_callF rfl Tryd.func54 (by kernel_rfl) rfl #[.slice (some p) N c, .int .i64 (k : Int), .int .i64 (m : Int), .int .i64 (i : Int), fv] (by rfl) ((swapRange_calls (P ++ A) X1 [] Y1 (B ++ S) rest p N c k m i fv w2 (HR1.out.ext hw2) (by rw [HX1.out, HY1.out]) ?_ HKK.out.symm ?_ HX1.out HL.out).mono ?_)
      · have h := HN.out
        have h2 := HLEN.out
        simp only [List.length_append, List.length_nil] at h2 ⊢
        have := HI0.out; have := HJ0.out; have := HA.out
        omega
      · rw [HX1.out, HKK.out, List.length_append, HA.out, List.length_nil]
        exact HMM.out
      rintro r w3 ⟨rfl, hR3, hE3⟩
      refine ⟨_, rfl, wpl_nil ?_⟩
      have HR3 := Lib.hid hR3
      have HE3 : Hid (ExtB p.block w w3) := Lib.hid ((HE.out.trans (ExtB.of hw2)).trans hE3)
      clear hR3 hE3 hw2 HR1
      go_wp2
      go_end0
      refine ⟨rfl, ?_, HE3.out⟩
      have e : P ++ (Y ++ (X ++ S)) = (P ++ A) ++ (Y1 ++ ([] ++ (X1 ++ (B ++ S)))) := by
        have h := congrArg (fun z => P ++ (z ++ S)) HEQ.out
        simpa using h.symm
      rw [e]
      exact HR3.out
    · have hne : (i : Int) ≠ (j : Int) := by omega
      by_cases hgt : j < i
      · have hg : (j : Int) < (i : Int) := by omega
        obtain ⟨U, V, rfl, hU, hV⟩ := split_at (l := X1) (k := j) (by rw [HX1.out]; omega)
        rw [HX1.out] at hV
        have HU := Lib.hid hU
        have HV := Lib.hid hV
        have HG := Lib.hid hgt
        have HR1 : Hid (Row wr p ((P ++ A) ++ (U ++ (V ++ (Y1 ++ (B ++ S))))) rest) := Lib.hid (by have h := HRR.out; simpa using h)
        obtain ⟨i2, hi2⟩ : ∃ i2, i - j = i2 := ⟨_, rfl⟩
        have hwi2 : IntKind.i64.wrap ((i : Int) - (j : Int)) = (i2 : Int) := wrap_n _ _ (by omega) (by have := HMM.out; have := HM.out; have := HN.out; have := HL.out; omega)
        have HI2 := Lib.hid hi2
        clear hU hV hgt hij hi2
        go_upto_region 4 with (fail)
        refine gl_begin (Ext.refl _) ?_
        refine gl_take (N := some 24) rfl (Yields.gy (gy_pure (by rfl) (fun w_ => by go_simp; with_reducible rfl))) (by simp only [Act.put, List.setIfInBounds_toArray, List.set_cons_zero, List.set_cons_succ]; rfl) ?_
        refine gl_take (N := some 25) rfl (Yields.gy (gy_pure (by rfl) (fun w_ => by go_simp; with_reducible rfl))) (by simp only [Act.put, List.setIfInBounds_toArray, List.set_cons_zero, List.set_cons_succ]; rfl) ?_
        refine gl_take (N := some 26) rfl (Yields.gy (gy_pure (by rfl) (fun w_ => by go_simp; with_reducible rfl))) (by simp only [Act.put, List.setIfInBounds_toArray, List.set_cons_zero, List.set_cons_succ]; rfl) ?_
        refine gl_take (N := some 27) rfl (Yields.gy (gy_pure (by rfl) (fun w_ => by go_simp; with_reducible rfl))) (by simp only [Act.put, List.setIfInBounds_toArray, List.set_cons_zero, List.set_cons_succ]; rfl) ?_
        refine gl_take (N := some 28) rfl (Yields.gy (gy_pure (by rfl) (fun w_ => by go_simp; with_reducible rfl))) (by simp only [Act.put, List.setIfInBounds_toArray, List.set_cons_zero, List.set_cons_succ]; rfl) ?_
        refine gl_take (N := some 29) rfl (Yields.gy (gy_pure (by rfl) (fun w_ => by go_simp; with_reducible rfl))) (by simp only [Act.put, List.setIfInBounds_toArray, List.set_cons_zero, List.set_cons_succ]; rfl) ?_
        refine gl_take (N := some 30) rfl (Yields.gy (gy_pure (by rfl) (fun w_ => by go_simp; with_reducible rfl))) (by simp only [Act.put, List.setIfInBounds_toArray, List.set_cons_zero, List.set_cons_succ]; rfl) ?_
        refine gl_eff (by rfl) (fun w2 hw2 => ?_)
        refine wp_callF rfl Tryd.func54 (by kernel_rfl) rfl #[.slice (some p) N c, .int .i64 (k : Int), .int .i64 (m : Int), .int .i64 (j : Int), fv] (by rfl) ((swapRange_calls (P ++ A) U V Y1 (B ++ S) rest p N c k m j fv w2 (HR1.out.ext hw2) (by rw [HU.out, HY1.out]) ?_ HKK.out.symm ?_ HU.out HL.out).mono ?_)
        · have h := HN.out
          have h2 := HLEN.out
          simp only [List.length_append, List.length_nil] at h2 ⊢
          have := HI0.out; have := HJ0.out; have := HA.out
          omega
        · rw [HU.out, HV.out, HKK.out, List.length_append, HA.out]
          have := HMM.out; have := HG.out
          omega
        rintro r w3 ⟨rfl, hR3, hE3⟩
        refine ⟨_, rfl, wpl_nil ?_⟩
        have HR3 := Lib.hid hR3
        have HE3 : Hid (ExtB p.block w w3) := Lib.hid ((HE.out.trans (ExtB.of hw2)).trans hE3)
        clear hR3 hE3 hw2 HR1
        go_wp2
        go_roundg (i2 + j)
        case measure => have := HK.out; have := HI2.out; have := HG.out; have := HJ.out; omega
        case rel => exact ⟨i2, j, A ++ Y1, V, U, B, rfl, rfl, Lib.hid rfl, Lib.hid (by rw [HV.out, HI2.out]), HU, Lib.hid (by have := HI2.out; have := HG.out; omega), HJ, Lib.hid (by rw [List.length_append, HY1.out]; have := HMM.out; have := HI2.out; have := HG.out; omega), HBB, Lib.hid (by have h := HEQ.out; simpa using h), Lib.hid (by have h := HR3.out; simpa using h), HE3⟩
      · have hg : ¬ (j : Int) < (i : Int) := by omega
        obtain ⟨U, V, rfl, hU, hV⟩ := split_at (l := Y1) (k := j - i) (by rw [HY1.out]; omega)
        rw [HY1.out] at hV
        have HU := Lib.hid hU
        have HV : Hid (V.length = i) := Lib.hid (by omega)
        have HG : Hid (i < j) := Lib.hid (by omega)
        have HR1 : Hid (Row wr p ((P ++ A) ++ (X1 ++ (U ++ (V ++ (B ++ S))))) rest) := Lib.hid (by have h := HRR.out; simpa using h)
        obtain ⟨j2, hj2⟩ : ∃ j2, j - i = j2 := ⟨_, rfl⟩
        obtain ⟨q, hq⟩ : ∃ q, m + j = q := ⟨_, rfl⟩
        obtain ⟨q2, hq2⟩ : ∃ q2, q - i = q2 := ⟨_, rfl⟩
        have hmN : m + j0 ≤ 1000 := by have := HM.out; have := HN.out; have := HL.out; omega
        have hwj2 : IntKind.i64.wrap ((j : Int) - (i : Int)) = (j2 : Int) := wrap_n _ _ (by omega) (by have := HBB.out; have := HB.out; omega)
        have hwq : IntKind.i64.wrap ((m : Int) + (j : Int)) = (q : Int) := wrap_n _ _ (by omega) (by have := HBB.out; have := HB.out; omega)
        have hwq2 : IntKind.i64.wrap ((q : Int) - (i : Int)) = (q2 : Int) := wrap_n _ _ (by omega) (by have := HBB.out; have := HB.out; omega)
        have HJ2 := Lib.hid hj2
        have HQ2 : Hid (m + j2 = q2) := Lib.hid (by omega)
        clear hU hV hgt hij hj2 hq hq2 hmN
        go_upto_region 6 with (fail)
        refine gl_begin (Ext.refl _) ?_
        refine gl_take (N := some 35) rfl (Yields.gy (gy_pure (by rfl) (fun w_ => by go_simp; with_reducible rfl))) (by simp only [Act.put, List.setIfInBounds_toArray, List.set_cons_zero, List.set_cons_succ]; rfl) ?_
        refine gl_take (N := some 36) rfl (Yields.gy (gy_pure (by rfl) (fun w_ => by go_simp; with_reducible rfl))) (by simp only [Act.put, List.setIfInBounds_toArray, List.set_cons_zero, List.set_cons_succ]; rfl) ?_
        refine gl_take (N := some 37) rfl (Yields.gy (gy_pure (by rfl) (fun w_ => by go_simp; with_reducible rfl))) (by simp only [Act.put, List.setIfInBounds_toArray, List.set_cons_zero, List.set_cons_succ]; rfl) ?_
        refine gl_take (N := some 38) rfl (Yields.gy (gy_pure (by rfl) (fun w_ => by go_simp; with_reducible rfl))) (by simp only [Act.put, List.setIfInBounds_toArray, List.set_cons_zero, List.set_cons_succ]; rfl) ?_
        refine gl_take (N := some 39) rfl (Yields.gy (gy_pure (by rfl) (fun w_ => by go_simp; with_reducible rfl))) (by simp only [Act.put, List.setIfInBounds_toArray, List.set_cons_zero, List.set_cons_succ]; rfl) ?_
        refine gl_take (N := some 40) rfl (Yields.gy (gy_pure (by rfl) (fun w_ => by go_simp; with_reducible rfl))) (by simp only [Act.put, List.setIfInBounds_toArray, List.set_cons_zero, List.set_cons_succ]; rfl) ?_
        refine gl_take (N := some 41) rfl (Yields.gy (gy_pure (by rfl) (fun w_ => by go_simp; with_reducible rfl))) (by simp only [Act.put, List.setIfInBounds_toArray, List.set_cons_zero, List.set_cons_succ]; rfl) ?_
        refine gl_take (N := some 42) rfl (Yields.gy (gy_pure (by rfl) (fun w_ => by go_simp; with_reducible rfl))) (by simp only [Act.put, List.setIfInBounds_toArray, List.set_cons_zero, List.set_cons_succ]; rfl) ?_
        refine gl_take (N := some 43) rfl (Yields.gy (gy_pure (by rfl) (fun w_ => by go_simp; with_reducible rfl))) (by simp only [Act.put, List.setIfInBounds_toArray, List.set_cons_zero, List.set_cons_succ]; rfl) ?_
        refine gl_take (N := some 44) rfl (Yields.gy (gy_pure (by rfl) (fun w_ => by go_simp; with_reducible rfl))) (by simp only [Act.put, List.setIfInBounds_toArray, List.set_cons_zero, List.set_cons_succ]; rfl) ?_
        refine gl_take (N := some 45) rfl (Yields.gy (gy_pure (by rfl) (fun w_ => by go_simp; with_reducible rfl))) (by simp only [Act.put, List.setIfInBounds_toArray, List.set_cons_zero, List.set_cons_succ]; rfl) ?_
        refine gl_eff (by rfl) (fun w2 hw2 => ?_)
        refine wp_callF rfl Tryd.func54 (by kernel_rfl) rfl #[.slice (some p) N c, .int .i64 (k : Int), .int .i64 (q2 : Int), .int .i64 (i : Int), fv] (by rfl) ((swapRange_calls (P ++ A) X1 U V (B ++ S) rest p N c k q2 i fv w2 (HR1.out.ext hw2) (by rw [HX1.out, HV.out]) ?_ HKK.out.symm ?_ HX1.out HL.out).mono ?_)
        · have h := HN.out
          have h2 := HLEN.out
          simp only [List.length_append, List.length_nil] at h2 ⊢
          have := HI0.out; have := HJ0.out; have := HA.out
          omega
        · rw [HX1.out, HU.out, HKK.out, List.length_append, HA.out]
          have := HMM.out; have := HG.out; have := HJ2.out; have := HQ2.out
          omega
        rintro r w3 ⟨rfl, hR3, hE3⟩
        refine ⟨_, rfl, wpl_nil ?_⟩
        have HR3 := Lib.hid hR3
        have HE3 : Hid (ExtB p.block w w3) := Lib.hid ((HE.out.trans (ExtB.of hw2)).trans hE3)
        clear hR3 hE3 hw2 HR1
        go_wp2
        go_roundg (i + j2)
        case measure => have := HK.out; have := HJ2.out; have := HG.out; have := HI.out; omega
        case rel => exact ⟨i, j2, A, V, U, X1 ++ B, rfl, rfl, Lib.hid rfl, HV, Lib.hid (by rw [HU.out, HJ2.out]), HI, Lib.hid (by have := HJ2.out; have := HG.out; omega), HMM, Lib.hid (by rw [List.length_append, HX1.out]; have := HBB.out; have := HJ2.out; have := HG.out; omega), Lib.hid (by have h := HEQ.out; simpa using h), Lib.hid (by have h := HR3.out; simpa using h), HE3⟩
end Go.Proofs.YthmnohecmmknpaaDoor.Vec
namespace Go.Proofs.YthmnohecmmknpaaDoor.Vec
open Go.RowKit Go.Proofs.YthmnohecmmknpaaDoorW.PrintWords Go.Proofs.YthmnohecmmknpaaDoorW.PrintLast Go.Proofs.YthmnohecmmknpaaDoor.Given Go.Proofs.YthmnohecmmknpaaDoor.PA Go.Proofs.YthmnohecmmknpaaDoor.Val
set_option linter.unusedVariables false
set_option linter.unusedSimpArgs false
set_option maxRecDepth 100000
theorem snoc_of {l : List Ev} (h : 0 < l.length) : ∃ A z, l = A ++ [z] := by
  rcases List.eq_nil_or_concat l with rfl | ⟨A, z, rfl⟩
  · cases h
  · exact ⟨A, z, by simp⟩
theorem srt_ins {A B : List Ev} {x : Ev} (h : Srt (A ++ B)) (hB : ∀ y ∈ B, pastB x y < 0) (hA : ∀ A' z, A = A' ++ [z] → le z x) : Srt (A ++ x :: B) := by
  obtain ⟨h1, h2, h3⟩ := srt_app.1 h
  refine srt_app.2 ⟨h1, List.pairwise_cons.2 ⟨fun y hy => le_of_lt (hB y hy), h2⟩, fun y hy z hz => ?_⟩
  rcases List.mem_cons.1 hz with rfl | hz
  · obtain ⟨A', u, rfl⟩ := snoc_of (List.length_pos_of_mem hy)
    have h4 := hA A' u rfl
    rcases List.mem_append.1 hy with hy | hy
    · exact le_trans' ((srt_app.1 h1).2.2 y hy u (by simp)) h4
    · rw [List.mem_singleton.1 hy]
      exact h4
  · exact h3 y hy z hz
def SrtPost (p : Addr) (P X S : List Ev) (rest : List Value) (w : World) (r : Ending) (w' : World) : Prop := ∃ X', X'.Perm X ∧ Srt X' ∧ RowPost p (P ++ (X' ++ S)) rest w r w'
set_option maxHeartbeats 4000000 in
theorem insertionSort_calls (P X S : List Ev) (rest : List Value) (p : Addr) (N c a b : Nat) (w : World) (hR : Row w p (P ++ (X ++ S)) rest)
    (hN : (P ++ (X ++ S)).length = N) (ha : P.length = a) (hb : a + X.length = b) (hl : N ≤ 1000) :
    Calls Tryd.prog 40 #[.slice (some p) N c, .int .i64 (a : Int), .int .i64 (b : Int), .func (.func 19) #[] #[]] w (SrtPost p P X S rest w) := by
  have HR := Lib.hid hR
  have HN : Hid (b + S.length = N) := Lib.hid (by rw [← hN]; simp only [List.length_append]; omega)
  have HA := Lib.hid ha
  have HB := Lib.hid hb
  have HL := Lib.hid hl
  have hwi : IntKind.i64.wrap ((a : Int) + 1) = ((a + 1 : Nat) : Int) := wrap_n _ _ (by omega) (by have := HN.out; omega)
  clear hR hN ha hb hl
  go_enter Tryd.func40, Tryd.ntmps40
  go_wp2
  clear hwi
  go_loopg [8] X.length (fun k v8 wr => ∃ (i : Nat) (Y R : List Ev), v8 = .int .i64 (i : Int) ∧ Hid (R.length ≤ k) ∧ Hid (a + Y.length ≤ i) ∧ Hid (a + Y.length = i ∨ R = []) ∧ Hid ((Y ++ R).Perm X) ∧ Hid (Srt Y) ∧
    Hid (Row wr p (P ++ (Y ++ (R ++ S))) rest) ∧ Hid (ExtB p.block w wr))
  case atStart =>
    cases X with
    | nil => exact ⟨a + 1, [], [], rfl, Lib.hid (Nat.le_refl _), Lib.hid (by simp), Lib.hid (.inr rfl), Lib.hid (List.Perm.refl _), Lib.hid srt_nil, HR, Lib.hid (ExtB.refl _ _)⟩
    | cons x X => exact ⟨a + 1, [x], X, rfl, Lib.hid (by simp), Lib.hid (by simp), Lib.hid (.inl (by simp)), Lib.hid (List.Perm.refl _), Lib.hid (srt_one x), HR, Lib.hid (ExtB.refl _ _)⟩
  case round =>
    obtain ⟨i, Y, R, rfl, HK, HYI, HYR, HP, HS, HRR, HE⟩ := hrel
    have HLEN := Lib.hid HP.out.length_eq
    by_cases hi : i < b
    · have hi1 : (i : Int) < (b : Int) := by omega
      have hR0 : R ≠ [] := by
        rintro rfl
        have h := HLEN.out
        simp only [List.length_append, List.length_nil] at h
        have := HYI.out; have := HB.out; omega
      obtain ⟨x, R2, rfl⟩ := List.exists_cons_of_ne_nil hR0
      have HYE : Hid (a + Y.length = i) := Lib.hid (HYR.out.elim id (fun h => by cases h))
      have HII := Lib.hid hi
      have hwi : IntKind.i64.wrap ((i : Int) + 1) = ((i + 1 : Nat) : Int) := wrap_n _ _ (by omega) (by have := HN.out; have := HL.out; omega)
      clear hR0 hi HYR HYI
      have OUT : Hid (∀ (A B : List Ev) (wq : World), A ++ B = Y → (∀ y ∈ B, pastB x y < 0) → (∀ A' z, A = A' ++ [z] → le z x) → Row wq p (P ++ (A ++ (x :: (B ++ (R2 ++ S))))) rest → ExtB p.block w wq →
          ∃ (i' : Nat) (Y R : List Ev), Value.int .i64 ((i + 1 : Nat) : Int) = .int .i64 (i' : Int) ∧ Hid (R.length ≤ R2.length) ∧ Hid (a + Y.length ≤ i') ∧ Hid (a + Y.length = i' ∨ R = []) ∧ Hid ((Y ++ R).Perm X) ∧ Hid (Srt Y) ∧
    Hid (Row wq p (P ++ (Y ++ (R ++ S))) rest) ∧ Hid (ExtB p.block w wq)) := Lib.hid (by
        intro A B wq hab hB hA hr he
        have hlab := congrArg List.length hab
        simp only [List.length_append] at hlab
        have hlen : a + (A ++ x :: B).length = i + 1 := by
          rw [← HYE.out, ← hlab]
          simp only [List.length_append, List.length_cons]
          omega
        refine ⟨i + 1, A ++ x :: B, R2, rfl, Lib.hid (Nat.le_refl _), Lib.hid (Nat.le_of_eq hlen), Lib.hid (.inl hlen), Lib.hid ?_, Lib.hid (srt_ins (hab ▸ HS.out) hB hA), Lib.hid (by simpa using hr), Lib.hid he⟩
        refine List.Perm.trans ?_ HP.out
        rw [← hab]
        simp only [List.append_assoc, List.cons_append]
        refine List.Perm.append_left A ?_
        exact (List.perm_middle (l₁ := B) (l₂ := R2)).symm)
      go_wp2_with fail
      go_loopg [9] Y.length (fun k v9 wq => ∃ (j : Nat) (A B : List Ev), v9 = .int .i64 (j : Int) ∧ Hid (A.length = k) ∧ Hid (a + A.length = j) ∧ Hid (A ++ B = Y) ∧ Hid (∀ y ∈ B, pastB x y < 0) ∧ Hid (Row wq p (P ++ (A ++ (x :: (B ++ (R2 ++ S))))) rest) ∧ Hid (ExtB p.block w wq))
      case atStart => exact ⟨i, Y, [], rfl, Lib.hid rfl, HYE, Lib.hid (by simp), Lib.hid (by simp), HRR, HE⟩
      case round =>
        obtain ⟨j, A, B, rfl, HAK, HAJ, HAB, HBX, HRQ, HEQ⟩ := hrel
        by_cases hja : a < j
        · have hg : (a : Int) < (j : Int) := by omega
          obtain ⟨A2, z, rfl⟩ := snoc_of (l := A) (by have := HAJ.out; omega)
          obtain ⟨J, hJ⟩ : ∃ J, j - 1 = J := ⟨_, rfl⟩
          have hal := HAJ.out
          rw [List.length_append, List.length_cons, List.length_nil] at hal
          have hjN : j < N := by
            have h1 := congrArg List.length HAB.out
            rw [List.length_append, List.length_append, List.length_cons, List.length_nil] at h1
            have := HYE.out; have := HII.out; have := HN.out; omega
          have hwj : IntKind.i64.wrap ((j : Int) - 1) = (J : Int) := wrap_n _ _ (by omega) (by have := HL.out; omega)
          have hj1 : (j : Int) < (N : Int) := by omega
          have hj0 : 0 ≤ (j : Int) := by omega
          have hJ1 : (J : Int) < (N : Int) := by omega
          have hJ0 : 0 ≤ (J : Int) := by omega
          have HJU : Hid (J = (P ++ A2).length) := Lib.hid (by rw [List.length_append, HA.out]; omega)
          have HjU : Hid (j = (P ++ A2).length + 1 + ([] : List Ev).length) := Lib.hid (by rw [List.length_append, HA.out, List.length_nil]; omega)
          have HJJ : Hid (J + 1 = j) := Lib.hid (by omega)
          have HF : Hid (P ++ ((A2 ++ [z]) ++ (x :: (B ++ (R2 ++ S)))) = (P ++ A2) ++ z :: ([] ++ x :: (B ++ (R2 ++ S)))) := Lib.hid (by simp)
          have hr := HRQ.out
          rw [HF.out] at hr
          have HR1 := Lib.hid hr
          have haz : AtR wr (p.add (J * 27)) (ecells z) := hr.at (get_mid1 _ _ _ _ _ HJU.out)
          have hax : AtR wr (p.add (j * 27)) (ecells x) := hr.at (get_mid2 _ _ _ _ _ HjU.out)
          clear hr hJ hal hjN hja
          by_cases hlt : pastB x z < 0
          · have HLT := Lib.hid hlt
            obtain ⟨q, hq⟩ : ∃ q, pastB x z = q := ⟨_, rfl⟩
            have hcmp : ∀ w', Calls Tryd.prog 19 #[evval x, evval z] w' fun r w'' => r = .returned (.int .i64 q) ∧ Ext w' w'' := fun w' => hq ▸ byPast_calls x z w'
            rw [hq] at hlt
            clear hq
            go_upto_region 4 with (fail)
            refine g_begin (by kernel_rfl) (Ext.refl _) #[false, false, false, false, false, false, false, false, false, false, false, false, false, false, false, false, false] 17 rfl rfl ?_
            refine g_take 0 #[true, false, false, false, false, false, false, false, false, false, false, false, false, false, false, false, false] (N := some 18) rfl rfl (by kernel_rfl) (fun _ _ _ h => h) (GP.p (gy_pure (by rfl) (fun w_ => by go_simp; with_reducible rfl))) (by simp only [Act.put, List.setIfInBounds_toArray, List.set_cons_zero, List.set_cons_succ]; rfl) ?_
            refine g_take 1 #[true, true, false, false, false, false, false, false, false, false, false, false, false, false, false, false, false] (N := some 19) rfl rfl (by kernel_rfl) (fun _ _ _ h => h) (GP.p (gy_pure (by rfl) (fun w_ => by go_simp; with_reducible rfl))) (by simp only [Act.put, List.setIfInBounds_toArray, List.set_cons_zero, List.set_cons_succ]; rfl) ?_
            refine g_take 2 #[true, true, true, false, false, false, false, false, false, false, false, false, false, false, false, false, false] (N := some 20) rfl rfl (by kernel_rfl) (fun _ _ _ h => h) (GP.p (gy_pure (by rfl) (fun w_ => by go_simp; with_reducible rfl))) (by simp only [Act.put, List.setIfInBounds_toArray, List.set_cons_zero, List.set_cons_succ]; rfl) ?_
            refine g_take 3 #[true, true, true, true, false, false, false, false, false, false, false, false, false, false, false, false, false] (N := some 21) rfl rfl (by kernel_rfl) (fun _ _ _ h => h) (GP.p (gy_pure (by rfl) (fun w_ => by go_simp; with_reducible rfl))) (by simp only [Act.put, List.setIfInBounds_toArray, List.set_cons_zero, List.set_cons_succ]; rfl) ?_
            refine g_take 4 #[true, true, true, true, true, false, false, false, false, false, false, false, false, false, false, false, false] (N := some 22) rfl rfl (by kernel_rfl) (fun _ _ _ h => h) (GP.p (gy_pure (by rfl) (fun w_ => by go_simp; with_reducible rfl))) (by simp only [Act.put, List.setIfInBounds_toArray, List.set_cons_zero, List.set_cons_succ]; rfl) ?_
            refine g_take 5 #[true, true, true, true, true, true, false, false, false, false, false, false, false, false, false, false, false] (N := some 23) rfl rfl (by kernel_rfl) (fun _ _ _ h => h) (GP.p (gy_pure (by rfl) (fun w_ => by go_simp; with_reducible rfl))) (by simp only [Act.put, List.setIfInBounds_toArray, List.set_cons_zero, List.set_cons_succ]; rfl) ?_
            refine g_take 6 #[true, true, true, true, true, true, true, false, false, false, false, false, false, false, false, false, false] (N := some 24) rfl rfl (by kernel_rfl) (fun _ _ _ h => h) (GP.p (gy_pure (by rfl) (fun w_ => by go_simp; with_reducible rfl))) (by simp only [Act.put, List.setIfInBounds_toArray, List.set_cons_zero, List.set_cons_succ]; rfl) ?_
            refine g_take 7 #[true, true, true, true, true, true, true, true, false, false, false, false, false, false, false, false, false] (N := some 25) rfl rfl (by kernel_rfl) (fun _ _ _ h => h) (GP.p (gy_pure (by rfl) (fun w_ => by go_simp; with_reducible rfl))) (by simp only [Act.put, List.setIfInBounds_toArray, List.set_cons_zero, List.set_cons_succ]; rfl) ?_
            refine g_take 8 #[true, true, true, true, true, true, true, true, true, false, false, false, false, false, false, false, false] (N := some 26) rfl rfl (by kernel_rfl) (fun _ _ _ h => h) (GP.rd (by rfl) (gy_rowA (by rfl) rfl (by rfl) hax Tryd.isAgg36 Tryd.sizeOf36 (ecells_len x))) (by simp only [Act.put, List.setIfInBounds_toArray, List.set_cons_zero, List.set_cons_succ]; rfl) ?_
            refine g_take 9 #[true, true, true, true, true, true, true, true, true, true, false, false, false, false, false, false, false] (N := some 27) rfl rfl (by kernel_rfl) (fun _ _ _ h => h) (GP.p (gy_pure (by rfl) (fun w_ => by go_simp; with_reducible rfl))) (by simp only [Act.put, List.setIfInBounds_toArray, List.set_cons_zero, List.set_cons_succ]; rfl) ?_
            refine g_take 10 #[true, true, true, true, true, true, true, true, true, true, true, false, false, false, false, false, false] (N := some 28) rfl rfl (by kernel_rfl) (fun _ _ _ h => h) (GP.p (gy_pure (by rfl) (fun w_ => by go_simp; with_reducible rfl))) (by simp only [Act.put, List.setIfInBounds_toArray, List.set_cons_zero, List.set_cons_succ]; rfl) ?_
            refine g_take 11 #[true, true, true, true, true, true, true, true, true, true, true, true, false, false, false, false, false] (N := some 29) rfl rfl (by kernel_rfl) (fun _ _ _ h => h) (GP.p (gy_pure (by rfl) (fun w_ => by go_simp; with_reducible rfl))) (by simp only [Act.put, List.setIfInBounds_toArray, List.set_cons_zero, List.set_cons_succ]; rfl) ?_
            refine g_take 12 #[true, true, true, true, true, true, true, true, true, true, true, true, true, false, false, false, false] (N := some 30) rfl rfl (by kernel_rfl) (fun _ _ _ h => h) (GP.p (gy_pure (by rfl) (fun w_ => by go_simp; with_reducible rfl))) (by simp only [Act.put, List.setIfInBounds_toArray, List.set_cons_zero, List.set_cons_succ]; rfl) ?_
            refine g_take 13 #[true, true, true, true, true, true, true, true, true, true, true, true, true, true, false, false, false] (N := some 31) rfl rfl (by kernel_rfl) (fun _ _ _ h => h) (GP.rd (by rfl) (gy_rowA (by rfl) rfl (by rfl) haz Tryd.isAgg36 Tryd.sizeOf36 (ecells_len z))) (by simp only [Act.put, List.setIfInBounds_toArray, List.set_cons_zero, List.set_cons_succ]; rfl) ?_
            refine g_take 14 #[true, true, true, true, true, true, true, true, true, true, true, true, true, true, true, false, false] (N := some 32) rfl rfl (by kernel_rfl) (fun _ _ _ h => h) (GP.rd (by rfl) (gy_callv (by rfl) rfl (by rfl) Tryd.func19 (by kernel_rfl) rfl #[_, _] (by rfl) (fun w _ => hcmp w))) (by simp only [Act.put, List.setIfInBounds_toArray, List.set_cons_zero, List.set_cons_succ]; rfl) ?_
            refine g_take 15 #[true, true, true, true, true, true, true, true, true, true, true, true, true, true, true, true, false] (N := some 33) rfl rfl (by kernel_rfl) (fun _ _ _ h => h) (GP.p (gy_pure (by rfl) (fun w_ => by go_simp; with_reducible rfl))) (by simp only [Act.put, List.setIfInBounds_toArray, List.set_cons_zero, List.set_cons_succ]; rfl) ?_
            refine g_take 16 #[true, true, true, true, true, true, true, true, true, true, true, true, true, true, true, true, true] (N := some 34) rfl rfl (by kernel_rfl) (fun _ _ _ h => h) (GP.p (gy_pure (by rfl) (fun w_ => by go_simp; with_reducible rfl))) (by simp only [Act.put, List.setIfInBounds_toArray, List.set_cons_zero, List.set_cons_succ]; rfl) ?_
            refine g_done (by kernel_rfl) (fun w1 hw1 => ?_)
            have HR2 := Lib.hid (HR1.out.ext hw1)
            have HE2 : Hid (ExtB p.block w w1) := Lib.hid (HEQ.out.trans (ExtB.of hw1))
            have haz : AtR w1 (p.add (J * 27)) (ecells z) := HR2.out.at (get_mid1 _ _ _ _ _ HJU.out)
            have hax : AtR w1 (p.add (j * 27)) (ecells x) := HR2.out.at (get_mid2 _ _ _ _ _ HjU.out)
            clear hw1 hcmp HR1
            go_upto_region 6 with (fail)
            refine g_begin (by kernel_rfl) (Ext.refl _) #[false, false, false, false, false, false, false, false, false, false, false, false, false, false, false, false, false, false] 18 rfl rfl ?_
            refine g_take 0 #[true, false, false, false, false, false, false, false, false, false, false, false, false, false, false, false, false, false] (N := some 37) rfl rfl (by kernel_rfl) (fun _ _ _ h => h) (GP.p (gy_pure (by rfl) (fun w_ => by go_simp; with_reducible rfl))) (by simp only [Act.put, List.setIfInBounds_toArray, List.set_cons_zero, List.set_cons_succ]; rfl) ?_
            refine g_take 1 #[true, true, false, false, false, false, false, false, false, false, false, false, false, false, false, false, false, false] (N := some 38) rfl rfl (by kernel_rfl) (fun _ _ _ h => h) (GP.p (gy_pure (by rfl) (fun w_ => by go_simp; with_reducible rfl))) (by simp only [Act.put, List.setIfInBounds_toArray, List.set_cons_zero, List.set_cons_succ]; rfl) ?_
            refine g_take 2 #[true, true, true, false, false, false, false, false, false, false, false, false, false, false, false, false, false, false] (N := some 39) rfl rfl (by kernel_rfl) (fun _ _ _ h => h) (GP.p (gy_pure (by rfl) (fun w_ => by go_simp; with_reducible rfl))) (by simp only [Act.put, List.setIfInBounds_toArray, List.set_cons_zero, List.set_cons_succ]; rfl) ?_
            refine g_take 3 #[true, true, true, true, false, false, false, false, false, false, false, false, false, false, false, false, false, false] (N := some 40) rfl rfl (by kernel_rfl) (fun _ _ _ h => h) (GP.p (gy_pure (by rfl) (fun w_ => by go_simp; with_reducible rfl))) (by simp only [Act.put, List.setIfInBounds_toArray, List.set_cons_zero, List.set_cons_succ]; rfl) ?_
            refine g_take 4 #[true, true, true, true, true, false, false, false, false, false, false, false, false, false, false, false, false, false] (N := some 41) rfl rfl (by kernel_rfl) (fun _ _ _ h => h) (GP.p (gy_pure (by rfl) (fun w_ => by go_simp; with_reducible rfl))) (by simp only [Act.put, List.setIfInBounds_toArray, List.set_cons_zero, List.set_cons_succ]; rfl) ?_
            refine g_take 5 #[true, true, true, true, true, true, false, false, false, false, false, false, false, false, false, false, false, false] (N := some 42) rfl rfl (by kernel_rfl) (fun _ _ _ h => h) (GP.p (gy_pure (by rfl) (fun w_ => by go_simp; with_reducible rfl))) (by simp only [Act.put, List.setIfInBounds_toArray, List.set_cons_zero, List.set_cons_succ]; rfl) ?_
            refine g_take 6 #[true, true, true, true, true, true, true, false, false, false, false, false, false, false, false, false, false, false] (N := some 43) rfl rfl (by kernel_rfl) (fun _ _ _ h => h) (GP.p (gy_pure (by rfl) (fun w_ => by go_simp; with_reducible rfl))) (by simp only [Act.put, List.setIfInBounds_toArray, List.set_cons_zero, List.set_cons_succ]; rfl) ?_
            refine g_take 7 #[true, true, true, true, true, true, true, true, false, false, false, false, false, false, false, false, false, false] (N := some 44) rfl rfl (by kernel_rfl) (fun _ _ _ h => h) (GP.p (gy_pure (by rfl) (fun w_ => by go_simp; with_reducible rfl))) (by simp only [Act.put, List.setIfInBounds_toArray, List.set_cons_zero, List.set_cons_succ]; rfl) ?_
            refine g_take 8 #[true, true, true, true, true, true, true, true, true, false, false, false, false, false, false, false, false, false] (N := some 45) rfl rfl (by kernel_rfl) (fun _ _ _ h => h) (GP.p (gy_pure (by rfl) (fun w_ => by go_simp; with_reducible rfl))) (by simp only [Act.put, List.setIfInBounds_toArray, List.set_cons_zero, List.set_cons_succ]; rfl) ?_
            refine g_take 9 #[true, true, true, true, true, true, true, true, true, true, false, false, false, false, false, false, false, false] (N := some 46) rfl rfl (by kernel_rfl) (fun _ _ _ h => h) (GP.rd (by rfl) (gy_rowA (by rfl) rfl (by rfl) haz Tryd.isAgg36 Tryd.sizeOf36 (ecells_len z))) (by simp only [Act.put, List.setIfInBounds_toArray, List.set_cons_zero, List.set_cons_succ]; rfl) ?_
            refine g_take 10 #[true, true, true, true, true, true, true, true, true, true, true, false, false, false, false, false, false, false] (N := some 47) rfl rfl (by kernel_rfl) (fun _ _ _ h => h) (GP.p (gy_pure (by rfl) (fun w_ => by go_simp; with_reducible rfl))) (by simp only [Act.put, List.setIfInBounds_toArray, List.set_cons_zero, List.set_cons_succ]; rfl) ?_
            refine g_take 11 #[true, true, true, true, true, true, true, true, true, true, true, true, false, false, false, false, false, false] (N := some 48) rfl rfl (by kernel_rfl) (fun _ _ _ h => h) (GP.p (gy_pure (by rfl) (fun w_ => by go_simp; with_reducible rfl))) (by simp only [Act.put, List.setIfInBounds_toArray, List.set_cons_zero, List.set_cons_succ]; rfl) ?_
            refine g_take 12 #[true, true, true, true, true, true, true, true, true, true, true, true, true, false, false, false, false, false] (N := some 49) rfl rfl (by kernel_rfl) (fun _ _ _ h => h) (GP.p (gy_pure (by rfl) (fun w_ => by go_simp; with_reducible rfl))) (by simp only [Act.put, List.setIfInBounds_toArray, List.set_cons_zero, List.set_cons_succ]; rfl) ?_
            refine g_take 13 #[true, true, true, true, true, true, true, true, true, true, true, true, true, true, false, false, false, false] (N := some 50) rfl rfl (by kernel_rfl) (fun _ _ _ h => h) (GP.rd (by rfl) (gy_rowA (by rfl) rfl (by rfl) hax Tryd.isAgg36 Tryd.sizeOf36 (ecells_len x))) (by simp only [Act.put, List.setIfInBounds_toArray, List.set_cons_zero, List.set_cons_succ]; rfl) ?_
            refine g_take 14 #[true, true, true, true, true, true, true, true, true, true, true, true, true, true, true, false, false, false] (N := some 51) rfl rfl (by kernel_rfl) (fun _ _ _ h => h) (GP.p (gy_pure (by rfl) (fun w_ => by go_simp; with_reducible rfl))) (by simp only [Act.put, List.setIfInBounds_toArray, List.set_cons_zero, List.set_cons_succ]; rfl) ?_
            refine g_barrier 15 #[true, true, true, true, true, true, true, true, true, true, true, true, true, true, true, true, false, false] rfl (by kernel_rfl) (by kernel_rfl) (fun w5 hw5 => ⟨by rfl, ?_⟩)
            refine wp_storeR (i := j) (e := z) rfl (by rfl) (by rfl) (HR2.out.ext hw5) (len_mid2' _ _ _ _ _ HjU.out) (fun w6 hR6 hE6 => ?_)
            have HR6 := Lib.hid hR6
            have HE6 : Hid (ExtB p.block w w6) := Lib.hid ((HE2.out.trans (ExtB.of hw5)).trans hE6)
            clear hR6 hE6 hw5 hax haz
            refine g_take 16 #[true, true, true, true, true, true, true, true, true, true, true, true, true, true, true, true, true, false] (N := some 52) rfl rfl (by kernel_rfl) (fun _ _ _ h => h) (GP.p (gy_pure (by rfl) (fun w_ => by go_simp; with_reducible rfl))) (by simp only [Act.put, List.setIfInBounds_toArray, List.set_cons_zero, List.set_cons_succ]; rfl) ?_
            refine g_barrier 17 #[true, true, true, true, true, true, true, true, true, true, true, true, true, true, true, true, true, true] rfl (by kernel_rfl) (by kernel_rfl) (fun w7 hw7 => ⟨by rfl, ?_⟩)
            refine wp_storeR (i := J) (e := x) rfl (by rfl) (by rfl) (HR6.out.ext hw7) (len_mid1' _ _ _ _ _ _ HJU.out) (fun w8 hR8 hE8 => ?_)
            refine g_done (by kernel_rfl) (fun w9 hw9 => ?_)
            have HR9 : Hid (Row w9 p _ rest) := Lib.hid (hR8.ext hw9)
            have HE9 : Hid (ExtB p.block w w9) := Lib.hid (((HE6.out.trans (ExtB.of hw7)).trans hE8).trans (ExtB.of hw9))
            rw [swap_mid' _ _ _ _ _ HJU.out HjU.out] at HR9
            clear hR8 hE8 hw9 hw7 HR6 HE6
            simp only [Act.put]
            go_wp2
            go_roundg A2.length
            case measure => have h := HAK.out; rw [List.length_append, List.length_cons, List.length_nil] at h; omega
            case rel => exact ⟨J, A2, z :: B, rfl, Lib.hid rfl, Lib.hid (by have h := HAJ.out; rw [List.length_append, List.length_cons, List.length_nil] at h; have := HJJ.out; omega), Lib.hid (by have h := HAB.out; simpa using h), Lib.hid (List.forall_mem_cons.2 ⟨HLT.out, HBX.out⟩), Lib.hid (by have h := HR9.out; simpa using h), HE9⟩
          · have HLE : Hid (le z x) := Lib.hid hlt
            obtain ⟨q, hq⟩ : ∃ q, pastB x z = q := ⟨_, rfl⟩
            have hcmp : ∀ w', Calls Tryd.prog 19 #[evval x, evval z] w' fun r w'' => r = .returned (.int .i64 q) ∧ Ext w' w'' := fun w' => hq ▸ byPast_calls x z w'
            rw [hq] at hlt
            clear hq
            go_upto_region 4 with (fail)
            refine g_begin (by kernel_rfl) (Ext.refl _) #[false, false, false, false, false, false, false, false, false, false, false, false, false, false, false, false, false] 17 rfl rfl ?_
            refine g_take 0 #[true, false, false, false, false, false, false, false, false, false, false, false, false, false, false, false, false] (N := some 18) rfl rfl (by kernel_rfl) (fun _ _ _ h => h) (GP.p (gy_pure (by rfl) (fun w_ => by go_simp; with_reducible rfl))) (by simp only [Act.put, List.setIfInBounds_toArray, List.set_cons_zero, List.set_cons_succ]; rfl) ?_
            refine g_take 1 #[true, true, false, false, false, false, false, false, false, false, false, false, false, false, false, false, false] (N := some 19) rfl rfl (by kernel_rfl) (fun _ _ _ h => h) (GP.p (gy_pure (by rfl) (fun w_ => by go_simp; with_reducible rfl))) (by simp only [Act.put, List.setIfInBounds_toArray, List.set_cons_zero, List.set_cons_succ]; rfl) ?_
            refine g_take 2 #[true, true, true, false, false, false, false, false, false, false, false, false, false, false, false, false, false] (N := some 20) rfl rfl (by kernel_rfl) (fun _ _ _ h => h) (GP.p (gy_pure (by rfl) (fun w_ => by go_simp; with_reducible rfl))) (by simp only [Act.put, List.setIfInBounds_toArray, List.set_cons_zero, List.set_cons_succ]; rfl) ?_
            refine g_take 3 #[true, true, true, true, false, false, false, false, false, false, false, false, false, false, false, false, false] (N := some 21) rfl rfl (by kernel_rfl) (fun _ _ _ h => h) (GP.p (gy_pure (by rfl) (fun w_ => by go_simp; with_reducible rfl))) (by simp only [Act.put, List.setIfInBounds_toArray, List.set_cons_zero, List.set_cons_succ]; rfl) ?_
            refine g_take 4 #[true, true, true, true, true, false, false, false, false, false, false, false, false, false, false, false, false] (N := some 22) rfl rfl (by kernel_rfl) (fun _ _ _ h => h) (GP.p (gy_pure (by rfl) (fun w_ => by go_simp; with_reducible rfl))) (by simp only [Act.put, List.setIfInBounds_toArray, List.set_cons_zero, List.set_cons_succ]; rfl) ?_
            refine g_take 5 #[true, true, true, true, true, true, false, false, false, false, false, false, false, false, false, false, false] (N := some 23) rfl rfl (by kernel_rfl) (fun _ _ _ h => h) (GP.p (gy_pure (by rfl) (fun w_ => by go_simp; with_reducible rfl))) (by simp only [Act.put, List.setIfInBounds_toArray, List.set_cons_zero, List.set_cons_succ]; rfl) ?_
            refine g_take 6 #[true, true, true, true, true, true, true, false, false, false, false, false, false, false, false, false, false] (N := some 24) rfl rfl (by kernel_rfl) (fun _ _ _ h => h) (GP.p (gy_pure (by rfl) (fun w_ => by go_simp; with_reducible rfl))) (by simp only [Act.put, List.setIfInBounds_toArray, List.set_cons_zero, List.set_cons_succ]; rfl) ?_
            refine g_take 7 #[true, true, true, true, true, true, true, true, false, false, false, false, false, false, false, false, false] (N := some 25) rfl rfl (by kernel_rfl) (fun _ _ _ h => h) (GP.p (gy_pure (by rfl) (fun w_ => by go_simp; with_reducible rfl))) (by simp only [Act.put, List.setIfInBounds_toArray, List.set_cons_zero, List.set_cons_succ]; rfl) ?_
            refine g_take 8 #[true, true, true, true, true, true, true, true, true, false, false, false, false, false, false, false, false] (N := some 26) rfl rfl (by kernel_rfl) (fun _ _ _ h => h) (GP.rd (by rfl) (gy_rowA (by rfl) rfl (by rfl) hax Tryd.isAgg36 Tryd.sizeOf36 (ecells_len x))) (by simp only [Act.put, List.setIfInBounds_toArray, List.set_cons_zero, List.set_cons_succ]; rfl) ?_
            refine g_take 9 #[true, true, true, true, true, true, true, true, true, true, false, false, false, false, false, false, false] (N := some 27) rfl rfl (by kernel_rfl) (fun _ _ _ h => h) (GP.p (gy_pure (by rfl) (fun w_ => by go_simp; with_reducible rfl))) (by simp only [Act.put, List.setIfInBounds_toArray, List.set_cons_zero, List.set_cons_succ]; rfl) ?_
            refine g_take 10 #[true, true, true, true, true, true, true, true, true, true, true, false, false, false, false, false, false] (N := some 28) rfl rfl (by kernel_rfl) (fun _ _ _ h => h) (GP.p (gy_pure (by rfl) (fun w_ => by go_simp; with_reducible rfl))) (by simp only [Act.put, List.setIfInBounds_toArray, List.set_cons_zero, List.set_cons_succ]; rfl) ?_
            refine g_take 11 #[true, true, true, true, true, true, true, true, true, true, true, true, false, false, false, false, false] (N := some 29) rfl rfl (by kernel_rfl) (fun _ _ _ h => h) (GP.p (gy_pure (by rfl) (fun w_ => by go_simp; with_reducible rfl))) (by simp only [Act.put, List.setIfInBounds_toArray, List.set_cons_zero, List.set_cons_succ]; rfl) ?_
            refine g_take 12 #[true, true, true, true, true, true, true, true, true, true, true, true, true, false, false, false, false] (N := some 30) rfl rfl (by kernel_rfl) (fun _ _ _ h => h) (GP.p (gy_pure (by rfl) (fun w_ => by go_simp; with_reducible rfl))) (by simp only [Act.put, List.setIfInBounds_toArray, List.set_cons_zero, List.set_cons_succ]; rfl) ?_
            refine g_take 13 #[true, true, true, true, true, true, true, true, true, true, true, true, true, true, false, false, false] (N := some 31) rfl rfl (by kernel_rfl) (fun _ _ _ h => h) (GP.rd (by rfl) (gy_rowA (by rfl) rfl (by rfl) haz Tryd.isAgg36 Tryd.sizeOf36 (ecells_len z))) (by simp only [Act.put, List.setIfInBounds_toArray, List.set_cons_zero, List.set_cons_succ]; rfl) ?_
            refine g_take 14 #[true, true, true, true, true, true, true, true, true, true, true, true, true, true, true, false, false] (N := some 32) rfl rfl (by kernel_rfl) (fun _ _ _ h => h) (GP.rd (by rfl) (gy_callv (by rfl) rfl (by rfl) Tryd.func19 (by kernel_rfl) rfl #[_, _] (by rfl) (fun w _ => hcmp w))) (by simp only [Act.put, List.setIfInBounds_toArray, List.set_cons_zero, List.set_cons_succ]; rfl) ?_
            refine g_take 15 #[true, true, true, true, true, true, true, true, true, true, true, true, true, true, true, true, false] (N := some 33) rfl rfl (by kernel_rfl) (fun _ _ _ h => h) (GP.p (gy_pure (by rfl) (fun w_ => by go_simp; with_reducible rfl))) (by simp only [Act.put, List.setIfInBounds_toArray, List.set_cons_zero, List.set_cons_succ]; rfl) ?_
            refine g_take 16 #[true, true, true, true, true, true, true, true, true, true, true, true, true, true, true, true, true] (N := some 34) rfl rfl (by kernel_rfl) (fun _ _ _ h => h) (GP.p (gy_pure (by rfl) (fun w_ => by go_simp; with_reducible rfl))) (by simp only [Act.put, List.setIfInBounds_toArray, List.set_cons_zero, List.set_cons_succ]; rfl) ?_
            refine g_done (by kernel_rfl) (fun w1 hw1 => ?_)
            have HE2 : Hid (ExtB p.block w w1) := Lib.hid (HEQ.out.trans (ExtB.of hw1))
            have HR2 := Lib.hid (HRQ.out.ext hw1)
            clear hw1 hcmp HR1 haz hax
            go_wp2
            go_roundg R2.length
            case measure => have h := HK.out; rw [List.length_cons] at h; omega
            case rel => exact OUT.out (A2 ++ [z]) B _ HAB.out HBX.out (by intro A' u hu; have h := List.append_inj_right' hu rfl; simp only [List.cons.injEq, and_true] at h; rw [← h]; exact HLE.out) HR2.out HE2.out
        · have hg : ¬ (a : Int) < (j : Int) := by omega
          have hA0 : A = [] := List.length_eq_zero_iff.1 (by have := HAJ.out; omega)
          subst hA0
          clear hja
          go_upto_region 4 with (fail)
          refine g_begin (by kernel_rfl) (Ext.refl _) #[false, false, false, false, false, false, false, false, false, false, false, false, false, false, false, false, false] 17 rfl rfl ?_
          refine g_take 0 #[true, false, false, false, false, false, false, false, false, false, false, false, false, false, false, false, false] (N := some 18) rfl rfl (by kernel_rfl) (fun _ _ _ h => h) (GP.p (gy_pure (by rfl) (fun w_ => by go_simp; with_reducible rfl))) (by simp only [Act.put, List.setIfInBounds_toArray, List.set_cons_zero, List.set_cons_succ]; rfl) ?_
          refine g_take 1 #[true, true, false, false, false, false, false, false, false, false, false, false, false, false, false, false, false] (N := some 19) rfl rfl (by kernel_rfl) (fun _ _ _ h => h) (GP.p (gy_pure (by rfl) (fun w_ => by go_simp; with_reducible rfl))) (by simp only [Act.put, List.setIfInBounds_toArray, List.set_cons_zero, List.set_cons_succ]; rfl) ?_
          refine g_take 2 #[true, true, true, false, false, false, false, false, false, false, false, false, false, false, false, false, false] (N := some 20) rfl rfl (by kernel_rfl) (fun _ _ _ h => h) (GP.p (gy_pure (by rfl) (fun w_ => by go_simp; with_reducible rfl))) (by simp only [Act.put, List.setIfInBounds_toArray, List.set_cons_zero, List.set_cons_succ]; rfl) ?_
          refine g_take 3 #[true, true, true, true, false, false, false, false, false, false, false, false, false, false, false, false, false] (N := some 21) rfl rfl (by kernel_rfl) (fun _ _ _ h => h) (GP.p (gy_pure (by rfl) (fun w_ => by go_simp; with_reducible rfl))) (by simp only [Act.put, List.setIfInBounds_toArray, List.set_cons_zero, List.set_cons_succ]; rfl) ?_
          refine g_take 4 #[true, true, true, true, true, false, false, false, false, false, false, false, false, false, false, false, false] (N := some 22) rfl rfl (by kernel_rfl) (fun _ _ _ h => h) (GP.p (gy_off (by rfl))) (by simp only [Act.put, List.setIfInBounds_toArray, List.set_cons_zero, List.set_cons_succ]; rfl) ?_
          refine g_take 5 #[true, true, true, true, true, true, false, false, false, false, false, false, false, false, false, false, false] (N := some 23) rfl rfl (by kernel_rfl) (fun _ _ _ h => h) (GP.p (gy_off (by rfl))) (by simp only [Act.put, List.setIfInBounds_toArray, List.set_cons_zero, List.set_cons_succ]; rfl) ?_
          refine g_take 6 #[true, true, true, true, true, true, true, false, false, false, false, false, false, false, false, false, false] (N := some 24) rfl rfl (by kernel_rfl) (fun _ _ _ h => h) (GP.p (gy_off (by rfl))) (by simp only [Act.put, List.setIfInBounds_toArray, List.set_cons_zero, List.set_cons_succ]; rfl) ?_
          refine g_take 7 #[true, true, true, true, true, true, true, true, false, false, false, false, false, false, false, false, false] (N := some 25) rfl rfl (by kernel_rfl) (fun _ _ _ h => h) (GP.p (gy_off (by rfl))) (by simp only [Act.put, List.setIfInBounds_toArray, List.set_cons_zero, List.set_cons_succ]; rfl) ?_
          refine g_take 8 #[true, true, true, true, true, true, true, true, true, false, false, false, false, false, false, false, false] (N := some 26) rfl rfl (by kernel_rfl) (fun _ _ _ h => h) (GP.p (gy_off (by rfl))) (by simp only [Act.put, List.setIfInBounds_toArray, List.set_cons_zero, List.set_cons_succ]; rfl) ?_
          refine g_take 9 #[true, true, true, true, true, true, true, true, true, true, false, false, false, false, false, false, false] (N := some 27) rfl rfl (by kernel_rfl) (fun _ _ _ h => h) (GP.p (gy_off (by rfl))) (by simp only [Act.put, List.setIfInBounds_toArray, List.set_cons_zero, List.set_cons_succ]; rfl) ?_
          refine g_take 10 #[true, true, true, true, true, true, true, true, true, true, true, false, false, false, false, false, false] (N := some 28) rfl rfl (by kernel_rfl) (fun _ _ _ h => h) (GP.p (gy_off (by rfl))) (by simp only [Act.put, List.setIfInBounds_toArray, List.set_cons_zero, List.set_cons_succ]; rfl) ?_
          refine g_take 11 #[true, true, true, true, true, true, true, true, true, true, true, true, false, false, false, false, false] (N := some 29) rfl rfl (by kernel_rfl) (fun _ _ _ h => h) (GP.p (gy_off (by rfl))) (by simp only [Act.put, List.setIfInBounds_toArray, List.set_cons_zero, List.set_cons_succ]; rfl) ?_
          refine g_take 12 #[true, true, true, true, true, true, true, true, true, true, true, true, true, false, false, false, false] (N := some 30) rfl rfl (by kernel_rfl) (fun _ _ _ h => h) (GP.p (gy_off (by rfl))) (by simp only [Act.put, List.setIfInBounds_toArray, List.set_cons_zero, List.set_cons_succ]; rfl) ?_
          refine g_take 13 #[true, true, true, true, true, true, true, true, true, true, true, true, true, true, false, false, false] (N := some 31) rfl rfl (by kernel_rfl) (fun _ _ _ h => h) (GP.p (gy_off (by rfl))) (by simp only [Act.put, List.setIfInBounds_toArray, List.set_cons_zero, List.set_cons_succ]; rfl) ?_
          refine g_take 14 #[true, true, true, true, true, true, true, true, true, true, true, true, true, true, true, false, false] (N := some 32) rfl rfl (by kernel_rfl) (fun _ _ _ h => h) (GP.p (gy_off (by rfl))) (by simp only [Act.put, List.setIfInBounds_toArray, List.set_cons_zero, List.set_cons_succ]; rfl) ?_
          refine g_take 15 #[true, true, true, true, true, true, true, true, true, true, true, true, true, true, true, true, false] (N := some 33) rfl rfl (by kernel_rfl) (fun _ _ _ h => h) (GP.p (gy_off (by rfl))) (by simp only [Act.put, List.setIfInBounds_toArray, List.set_cons_zero, List.set_cons_succ]; rfl) ?_
          refine g_take 16 #[true, true, true, true, true, true, true, true, true, true, true, true, true, true, true, true, true] (N := some 34) rfl rfl (by kernel_rfl) (fun _ _ _ h => h) (GP.p (gy_pure (by rfl) (fun w_ => by go_simp; with_reducible rfl))) (by simp only [Act.put, List.setIfInBounds_toArray, List.set_cons_zero, List.set_cons_succ]; rfl) ?_
          refine g_done (by kernel_rfl) (fun w1 hw1 => ?_)
          have HE2 : Hid (ExtB p.block w w1) := Lib.hid (HEQ.out.trans (ExtB.of hw1))
          have HR2 := Lib.hid (HRQ.out.ext hw1)
          clear hw1
          go_wp2
          go_roundg R2.length
          case measure => have h := HK.out; rw [List.length_cons] at h; omega
          case rel => exact OUT.out [] B _ HAB.out HBX.out (by intro A' u hu; simp at hu) HR2.out HE2.out
    · have hi1 : ¬ (i : Int) < (b : Int) := by omega
      have hR0 : R = [] := by
        refine HYR.out.elim (fun h => ?_) id
        have hl := HLEN.out
        rw [List.length_append] at hl
        exact List.length_eq_zero_iff.1 (by have := HB.out; omega)
      subst hR0
      go_wp2
      go_end0
      exact ⟨Y, by have h := HP.out; simpa using h, HS.out, rfl, HRR.out, HE.out⟩
end Go.Proofs.YthmnohecmmknpaaDoor.Vec
namespace Go.Proofs.YthmnohecmmknpaaDoor.Vec
open Go.RowKit Go.Proofs.YthmnohecmmknpaaDoorW.PrintWords Go.Proofs.YthmnohecmmknpaaDoorW.PrintLast Go.Proofs.YthmnohecmmknpaaDoor.Given Go.Proofs.YthmnohecmmknpaaDoor.PA Go.Proofs.YthmnohecmmknpaaDoor.Val
set_option linter.unusedVariables false
set_option linter.unusedSimpArgs false
set_option maxRecDepth 100000
theorem srt_take {l : List Ev} {q : Nat} {z : Ev} (h : Srt l) (hq : l[q]? = some z) : ∀ y ∈ l.take (q + 1), le y z := by
  rw [take_snoc' hq]
  intro y hy
  have h1 : Srt (l.take (q + 1)) := List.Pairwise.sublist (List.take_sublist _ _) h
  rw [take_snoc' hq] at h1
  rcases List.mem_append.1 hy with hy | hy
  · exact (srt_app.1 h1).2.2 y hy z (by simp)
  · rw [List.mem_singleton.1 hy]
    exact le_refl' z
theorem srt_drop {l : List Ev} {q : Nat} {z : Ev} (h : Srt l) (hq : l[q]? = some z) : ∀ y ∈ l.drop q, le z y := by
  have h1 : Srt (l.drop q) := List.Pairwise.sublist (List.drop_sublist _ _) h
  rw [drop_at hq] at h1 ⊢
  intro y hy
  rcases List.mem_cons.1 hy with rfl | hy
  · exact le_refl' _
  · exact (List.pairwise_cons.1 h1).1 y hy
theorem wrap_un (n : Nat) (hn : n ≤ 1000000) : IntKind.u64.wrap (n : Int) = ((n : Nat) : Int) := IntWalk.u64_in _ (by omega)
theorem half (s h : Nat) (e : s / 2 = h) : (s : Int) / 2 = (h : Int) := by omega
theorem get_mid (U W : List Ev) (x : Ev) {i : Nat} (hi : i = U.length) : (U ++ x :: W)[i]? = some x := by
  subst hi
  simp
theorem get_part (U Y W : List Ev) {i q : Nat} {z : Ev} (hi : i = U.length + q) (hz : Y[q]? = some z) : (U ++ (Y ++ W))[i]? = some z := by
  subst hi
  rw [List.getElem?_append_right (by omega), Nat.add_sub_cancel_left, List.getElem?_append_left (List.getElem?_eq_some_iff.1 hz).1]
  exact hz
set_option maxHeartbeats 4000000 in
theorem symMerge_one (P Y S : List Ev) (x : Ev) (rest : List Value) (p : Addr) (N c a m b : Nat) (w : World) (hR : Row w p (P ++ (x :: (Y ++ S))) rest) (hY : Srt Y)
    (hN : (P ++ (x :: (Y ++ S))).length = N) (ha : P.length = a) (hm : a + 1 = m) (hb : m + Y.length = b) (hl : N ≤ 1000) :
    Calls Tryd.prog 41 #[.slice (some p) N c, .int .i64 (a : Int), .int .i64 (m : Int), .int .i64 (b : Int), .func (.func 19) #[] #[]] w (SrtPost p P (x :: Y) S rest w) := by
  have HR := Lib.hid hR
  have HY := Lib.hid hY
  have HN : Hid (b + S.length = N) := Lib.hid (by rw [← hN]; simp only [List.length_append, List.length_cons]; omega)
  have HA := Lib.hid ha
  have HM := Lib.hid hm
  have HB := Lib.hid hb
  have HL := Lib.hid hl
  have hwi : IntKind.i64.wrap ((m : Int) - (a : Int)) = 1 := wrap_n _ 1 (by omega) (by omega)
  have ha1 : (a : Int) < (N : Int) := by have := HN.out; omega
  have ha0 : 0 ≤ (a : Int) := by omega
  clear hR hY hN ha hm hb hl
  go_enter Tryd.func41, Tryd.ntmps41
  go_wp2_with fail
  clear hwi
  go_loopg [10, 11] Y.length (fun k v10 v11 wr => ∃ (i j u v : Nat), v10 = .int .i64 (i : Int) ∧ v11 = .int .i64 (j : Int) ∧ Hid (m + u = i) ∧ Hid (m + v = j) ∧ Hid (u + k = v) ∧ Hid (v ≤ Y.length) ∧ Hid (∀ y ∈ Y.take u, le y x) ∧ Hid (∀ y ∈ Y.drop v, le x y) ∧
    Hid (Row wr p (P ++ (x :: (Y ++ S))) rest) ∧ Hid (ExtB p.block w wr))
  case atStart => exact ⟨m, b, 0, Y.length, rfl, rfl, Lib.hid rfl, HB, Lib.hid (by omega), Lib.hid (Nat.le_refl _), Lib.hid (by simp), Lib.hid (by simp), HR, Lib.hid (ExtB.refl _ _)⟩
  case round =>
    obtain ⟨i, j, u, v, rfl, rfl, HU, HV, HK, HVL, HTU, HDV, HRR, HE⟩ := hrel
    by_cases hij : i < j
    · have hi1 : (i : Int) < (j : Int) := by omega
      have HIJ := Lib.hid hij
      obtain ⟨s, hs⟩ : ∃ s, i + j = s := ⟨_, rfl⟩
      obtain ⟨h, hh⟩ : ∃ h, s / 2 = h := ⟨_, rfl⟩
      obtain ⟨q, hq⟩ : ∃ q, h - m = q := ⟨_, rfl⟩
      have hjN : j ≤ N := by have := HV.out; have := HVL.out; have := HB.out; have := HN.out; omega
      have hws : IntKind.i64.wrap ((i : Int) + (j : Int)) = (s : Int) := wrap_n _ _ (by omega) (by have := HL.out; omega)
      have hwu : IntKind.u64.wrap (s : Int) = (s : Int) := wrap_un s (by have := HL.out; omega)
      have hdh : (s : Int) / 2 = (h : Int) := half s h hh
      have hwb : IntKind.i64.wrap (h : Int) = (h : Int) := wrap_n _ h rfl (by have := HL.out; omega)
      have hwh : IntKind.i64.wrap ((h : Int) + 1) = ((h + 1 : Nat) : Int) := wrap_n _ _ (by omega) (by have := HL.out; omega)
      have HQ : Hid (m + q = h) := Lib.hid (by have := HU.out; omega)
      have HQV : Hid (u ≤ q ∧ q < v) := Lib.hid (by have := HU.out; have := HV.out; have := HQ.out; omega)
      obtain ⟨z, hz⟩ := some_at (l := Y) (i := q) (by have := HQV.out; have := HVL.out; omega)
      have HZ := Lib.hid hz
      have hh1 : (h : Int) < (N : Int) := by have := HQ.out; have := HQV.out; have := HVL.out; have := HB.out; have := HN.out; omega
      have hh0 : 0 ≤ (h : Int) := by omega
      have hax : AtR wr (p.add (a * 27)) (ecells x) := HRR.out.at (get_mid _ _ _ HA.out.symm)
      have haz : AtR wr (p.add (h * 27)) (ecells z) := by
        have hr := HRR.out
        have e : P ++ (x :: (Y ++ S)) = (P ++ [x]) ++ (Y ++ S) := by simp
        rw [e] at hr
        exact hr.at (get_part _ _ _ (by rw [List.length_append, HA.out, List.length_cons, List.length_nil, HM.out, HQ.out]) hz)
      clear hij hs hh hq hjN hz
      by_cases hlt : pastB z x < 0
      · have HLT := Lib.hid hlt
        obtain ⟨t, ht⟩ : ∃ t, pastB z x = t := ⟨_, rfl⟩
        have hcmp : ∀ w', Calls Tryd.prog 19 #[evval z, evval x] w' fun r w'' => r = .returned (.int .i64 t) ∧ Ext w' w'' := fun w' => ht ▸ byPast_calls z x w'
        rw [ht] at hlt
        clear ht
        go_upto_region 5 with (fail)
        refine g_begin (by kernel_rfl) (Ext.refl _) #[false, false, false, false, false, false, false, false, false, false, false] 11 rfl rfl ?_
        refine g_take 0 #[true, false, false, false, false, false, false, false, false, false, false] (N := some 40) rfl rfl (by kernel_rfl) (fun _ _ _ h => h) (GP.p (gy_pure (by rfl) (fun w_ => by go_simp; with_reducible rfl))) (by simp only [Act.put, List.setIfInBounds_toArray, List.set_cons_zero, List.set_cons_succ]; rfl) ?_
        refine g_take 1 #[true, true, false, false, false, false, false, false, false, false, false] (N := some 41) rfl rfl (by kernel_rfl) (fun _ _ _ h => h) (GP.p (gy_pure (by rfl) (fun w_ => by go_simp; with_reducible rfl))) (by simp only [Act.put, List.setIfInBounds_toArray, List.set_cons_zero, List.set_cons_succ]; rfl) ?_
        refine g_take 2 #[true, true, true, false, false, false, false, false, false, false, false] (N := some 42) rfl rfl (by kernel_rfl) (fun _ _ _ h => h) (GP.p (gy_pure (by rfl) (fun w_ => by go_simp; with_reducible rfl))) (by simp only [Act.put, List.setIfInBounds_toArray, List.set_cons_zero, List.set_cons_succ]; rfl) ?_
        refine g_take 3 #[true, true, true, true, false, false, false, false, false, false, false] (N := some 43) rfl rfl (by kernel_rfl) (fun _ _ _ h => h) (GP.p (gy_pure (by rfl) (fun w_ => by go_simp; with_reducible rfl))) (by simp only [Act.put, List.setIfInBounds_toArray, List.set_cons_zero, List.set_cons_succ]; rfl) ?_
        refine g_take 4 #[true, true, true, true, true, false, false, false, false, false, false] (N := some 44) rfl rfl (by kernel_rfl) (fun _ _ _ h => h) (GP.rd (by rfl) (gy_rowA (by rfl) rfl (by rfl) haz Tryd.isAgg36 Tryd.sizeOf36 (ecells_len z))) (by simp only [Act.put, List.setIfInBounds_toArray, List.set_cons_zero, List.set_cons_succ]; rfl) ?_
        refine g_take 5 #[true, true, true, true, true, true, false, false, false, false, false] (N := some 45) rfl rfl (by kernel_rfl) (fun _ _ _ h => h) (GP.p (gy_pure (by rfl) (fun w_ => by go_simp; with_reducible rfl))) (by simp only [Act.put, List.setIfInBounds_toArray, List.set_cons_zero, List.set_cons_succ]; rfl) ?_
        refine g_take 6 #[true, true, true, true, true, true, true, false, false, false, false] (N := some 46) rfl rfl (by kernel_rfl) (fun _ _ _ h => h) (GP.p (gy_pure (by rfl) (fun w_ => by go_simp; with_reducible rfl))) (by simp only [Act.put, List.setIfInBounds_toArray, List.set_cons_zero, List.set_cons_succ]; rfl) ?_
        refine g_take 7 #[true, true, true, true, true, true, true, true, false, false, false] (N := some 47) rfl rfl (by kernel_rfl) (fun _ _ _ h => h) (GP.p (gy_pure (by rfl) (fun w_ => by go_simp; with_reducible rfl))) (by simp only [Act.put, List.setIfInBounds_toArray, List.set_cons_zero, List.set_cons_succ]; rfl) ?_
        refine g_take 8 #[true, true, true, true, true, true, true, true, true, false, false] (N := some 48) rfl rfl (by kernel_rfl) (fun _ _ _ h => h) (GP.rd (by rfl) (gy_rowA (by rfl) rfl (by rfl) hax Tryd.isAgg36 Tryd.sizeOf36 (ecells_len x))) (by simp only [Act.put, List.setIfInBounds_toArray, List.set_cons_zero, List.set_cons_succ]; rfl) ?_
        refine g_take 9 #[true, true, true, true, true, true, true, true, true, true, false] (N := some 49) rfl rfl (by kernel_rfl) (fun _ _ _ h => h) (GP.rd (by rfl) (gy_callv (by rfl) rfl (by rfl) Tryd.func19 (by kernel_rfl) rfl #[_, _] (by rfl) (fun w _ => hcmp w))) (by simp only [Act.put, List.setIfInBounds_toArray, List.set_cons_zero, List.set_cons_succ]; rfl) ?_
        refine g_take 10 #[true, true, true, true, true, true, true, true, true, true, true] (N := some 50) rfl rfl (by kernel_rfl) (fun _ _ _ h => h) (GP.p (gy_pure (by rfl) (fun w_ => by go_simp; with_reducible rfl))) (by simp only [Act.put, List.setIfInBounds_toArray, List.set_cons_zero, List.set_cons_succ]; rfl) ?_
        refine g_done (by kernel_rfl) (fun w1 hw1 => ?_)
        have HE2 : Hid (ExtB p.block w w1) := Lib.hid (HE.out.trans (ExtB.of hw1))
        have HR2 := Lib.hid (HRR.out.ext hw1)
        clear hw1 hcmp hax haz hws hwu
        go_wp2
        go_roundg (v - (q + 1))
        case measure => have := HQV.out; have := HK.out; omega
        case rel => exact ⟨h + 1, j, q + 1, v, rfl, rfl, Lib.hid (by have := HQ.out; omega), HV, Lib.hid (by have := HQV.out; omega), HVL, Lib.hid (fun y hy => le_trans' (srt_take HY.out HZ.out y hy) (le_of_lt HLT.out)), HDV, HR2, HE2⟩
      · have HLT : Hid (le x z) := Lib.hid hlt
        obtain ⟨t, ht⟩ : ∃ t, pastB z x = t := ⟨_, rfl⟩
        have hcmp : ∀ w', Calls Tryd.prog 19 #[evval z, evval x] w' fun r w'' => r = .returned (.int .i64 t) ∧ Ext w' w'' := fun w' => ht ▸ byPast_calls z x w'
        rw [ht] at hlt
        clear ht
        go_upto_region 5 with (fail)
        refine g_begin (by kernel_rfl) (Ext.refl _) #[false, false, false, false, false, false, false, false, false, false, false] 11 rfl rfl ?_
        refine g_take 0 #[true, false, false, false, false, false, false, false, false, false, false] (N := some 40) rfl rfl (by kernel_rfl) (fun _ _ _ h => h) (GP.p (gy_pure (by rfl) (fun w_ => by go_simp; with_reducible rfl))) (by simp only [Act.put, List.setIfInBounds_toArray, List.set_cons_zero, List.set_cons_succ]; rfl) ?_
        refine g_take 1 #[true, true, false, false, false, false, false, false, false, false, false] (N := some 41) rfl rfl (by kernel_rfl) (fun _ _ _ h => h) (GP.p (gy_pure (by rfl) (fun w_ => by go_simp; with_reducible rfl))) (by simp only [Act.put, List.setIfInBounds_toArray, List.set_cons_zero, List.set_cons_succ]; rfl) ?_
        refine g_take 2 #[true, true, true, false, false, false, false, false, false, false, false] (N := some 42) rfl rfl (by kernel_rfl) (fun _ _ _ h => h) (GP.p (gy_pure (by rfl) (fun w_ => by go_simp; with_reducible rfl))) (by simp only [Act.put, List.setIfInBounds_toArray, List.set_cons_zero, List.set_cons_succ]; rfl) ?_
        refine g_take 3 #[true, true, true, true, false, false, false, false, false, false, false] (N := some 43) rfl rfl (by kernel_rfl) (fun _ _ _ h => h) (GP.p (gy_pure (by rfl) (fun w_ => by go_simp; with_reducible rfl))) (by simp only [Act.put, List.setIfInBounds_toArray, List.set_cons_zero, List.set_cons_succ]; rfl) ?_
        refine g_take 4 #[true, true, true, true, true, false, false, false, false, false, false] (N := some 44) rfl rfl (by kernel_rfl) (fun _ _ _ h => h) (GP.rd (by rfl) (gy_rowA (by rfl) rfl (by rfl) haz Tryd.isAgg36 Tryd.sizeOf36 (ecells_len z))) (by simp only [Act.put, List.setIfInBounds_toArray, List.set_cons_zero, List.set_cons_succ]; rfl) ?_
        refine g_take 5 #[true, true, true, true, true, true, false, false, false, false, false] (N := some 45) rfl rfl (by kernel_rfl) (fun _ _ _ h => h) (GP.p (gy_pure (by rfl) (fun w_ => by go_simp; with_reducible rfl))) (by simp only [Act.put, List.setIfInBounds_toArray, List.set_cons_zero, List.set_cons_succ]; rfl) ?_
        refine g_take 6 #[true, true, true, true, true, true, true, false, false, false, false] (N := some 46) rfl rfl (by kernel_rfl) (fun _ _ _ h => h) (GP.p (gy_pure (by rfl) (fun w_ => by go_simp; with_reducible rfl))) (by simp only [Act.put, List.setIfInBounds_toArray, List.set_cons_zero, List.set_cons_succ]; rfl) ?_
        refine g_take 7 #[true, true, true, true, true, true, true, true, false, false, false] (N := some 47) rfl rfl (by kernel_rfl) (fun _ _ _ h => h) (GP.p (gy_pure (by rfl) (fun w_ => by go_simp; with_reducible rfl))) (by simp only [Act.put, List.setIfInBounds_toArray, List.set_cons_zero, List.set_cons_succ]; rfl) ?_
        refine g_take 8 #[true, true, true, true, true, true, true, true, true, false, false] (N := some 48) rfl rfl (by kernel_rfl) (fun _ _ _ h => h) (GP.rd (by rfl) (gy_rowA (by rfl) rfl (by rfl) hax Tryd.isAgg36 Tryd.sizeOf36 (ecells_len x))) (by simp only [Act.put, List.setIfInBounds_toArray, List.set_cons_zero, List.set_cons_succ]; rfl) ?_
        refine g_take 9 #[true, true, true, true, true, true, true, true, true, true, false] (N := some 49) rfl rfl (by kernel_rfl) (fun _ _ _ h => h) (GP.rd (by rfl) (gy_callv (by rfl) rfl (by rfl) Tryd.func19 (by kernel_rfl) rfl #[_, _] (by rfl) (fun w _ => hcmp w))) (by simp only [Act.put, List.setIfInBounds_toArray, List.set_cons_zero, List.set_cons_succ]; rfl) ?_
        refine g_take 10 #[true, true, true, true, true, true, true, true, true, true, true] (N := some 50) rfl rfl (by kernel_rfl) (fun _ _ _ h => h) (GP.p (gy_pure (by rfl) (fun w_ => by go_simp; with_reducible rfl))) (by simp only [Act.put, List.setIfInBounds_toArray, List.set_cons_zero, List.set_cons_succ]; rfl) ?_
        refine g_done (by kernel_rfl) (fun w1 hw1 => ?_)
        have HE2 : Hid (ExtB p.block w w1) := Lib.hid (HE.out.trans (ExtB.of hw1))
        have HR2 := Lib.hid (HRR.out.ext hw1)
        clear hw1 hcmp hax haz hws hwu
        go_wp2
        go_roundg (q - u)
        case measure => have := HQV.out; have := HK.out; omega
        case rel => exact ⟨i, h, u, q, rfl, rfl, HU, HQ, Lib.hid (by have := HQV.out; omega), Lib.hid (by have := HQV.out; have := HVL.out; omega), HTU, Lib.hid (fun y hy => le_trans' HLT.out (srt_drop HY.out HZ.out y hy)), HR2, HE2⟩
    · have hi1 : ¬ (i : Int) < (j : Int) := by omega
      have huv : v = u := by have := HU.out; have := HV.out; have := HK.out; omega
      subst huv
      obtain ⟨A, C, rfl, hA, hC⟩ := split_at (l := Y) (k := v) HVL.out
      have HT2 : Hid (∀ y ∈ A, le y x) := Lib.hid (by have h := HTU.out; rwa [List.take_left' hA] at h)
      have HD2 : Hid (∀ y ∈ C, le x y) := Lib.hid (by have h := HDV.out; rwa [List.drop_left' hA] at h)
      have HA2 := Lib.hid hA
      obtain ⟨i', hi'⟩ : ∃ i', i - 1 = i' := ⟨_, rfl⟩
      have HI' : Hid (a + v = i') := Lib.hid (by have := HU.out; have := HM.out; omega)
      have hiN : i ≤ N := by have := HV.out; have := HVL.out; have := HB.out; have := HN.out; have := HU.out; omega
      have hwi : IntKind.i64.wrap ((i : Int) - 1) = (i' : Int) := wrap_n _ _ (by have := HU.out; have := HM.out; omega) (by have := HL.out; omega)
      clear hA hC HTU HDV hi' hiN
      go_wp2_with fail
      go_loopg [13] v (fun k v13 wr => ∃ (j : Nat) (A1 A2 : List Ev), v13 = .int .i64 (j : Int) ∧ Hid (A = A1 ++ A2) ∧ Hid (a + A1.length = j) ∧ Hid (A2.length = k) ∧ Hid (Row wr p (P ++ (A1 ++ (x :: (A2 ++ (C ++ S))))) rest) ∧ Hid (ExtB p.block w wr))
      case atStart => exact ⟨a, [], A, rfl, Lib.hid rfl, Lib.hid rfl, HA2, Lib.hid (by have h := HRR.out; simpa using h), HE⟩
      case round =>
        obtain ⟨j, A1, A2, rfl, HAA, HJ, HK2, HRQ, HEQ⟩ := hrel
        have HAL := Lib.hid (congrArg List.length HAA.out)
        by_cases hj : j < i'
        · have hj1 : (j : Int) < (i' : Int) := by omega
          have hA0 : A2 ≠ [] := by
            rintro rfl
            have h := HAL.out
            rw [List.length_append, HA2.out, List.length_nil] at h
            have := HJ.out; have := HI'.out; omega
          obtain ⟨y, A3, rfl⟩ := List.exists_cons_of_ne_nil hA0
          obtain ⟨J, hJ⟩ : ∃ J, j + 1 = J := ⟨_, rfl⟩
          have hjN : J < N := by have := HV.out; have := HB.out; have := HN.out; have := HI'.out; have := HM.out; have := HU.out; rw [List.length_append] at *; have := HA2.out; omega
          have hwj : IntKind.i64.wrap ((j : Int) + 1) = (J : Int) := wrap_n _ _ (by omega) (by have := HL.out; omega)
          have hjn : (j : Int) < (N : Int) := by omega
          have hj0 : 0 ≤ (j : Int) := by omega
          have hJn : (J : Int) < (N : Int) := by omega
          have hJ0 : 0 ≤ (J : Int) := by omega
          have HjU : Hid (j = (P ++ A1).length) := Lib.hid (by rw [List.length_append, HA.out]; exact HJ.out.symm)
          have HJU : Hid (J = (P ++ A1).length + 1 + ([] : List Ev).length) := Lib.hid (by rw [← HjU.out, ← hJ]; rfl)
          have HJJ := Lib.hid hJ
          have HF : Hid (P ++ (A1 ++ (x :: (y :: A3 ++ (C ++ S)))) = (P ++ A1) ++ x :: ([] ++ y :: (A3 ++ (C ++ S)))) := Lib.hid (by simp)
          have hr := HRQ.out
          rw [HF.out] at hr
          have HR1 := Lib.hid hr
          have hax : AtR wr (p.add (j * 27)) (ecells x) := hr.at (get_mid1 _ _ _ _ _ HjU.out)
          have hay : AtR wr (p.add (J * 27)) (ecells y) := hr.at (get_mid2 _ _ _ _ _ HJU.out)
          clear hr hJ hjN hj hA0
          go_upto_region 11 with (fail)
          refine g_begin (by kernel_rfl) (Ext.refl _) #[false, false, false, false, false, false, false, false, false, false, false, false, false, false, false, false, false, false] 18 rfl rfl ?_
          refine g_take 0 #[true, false, false, false, false, false, false, false, false, false, false, false, false, false, false, false, false, false] (N := some 61) rfl rfl (by kernel_rfl) (fun _ _ _ h => h) (GP.p (gy_pure (by rfl) (fun w_ => by go_simp; with_reducible rfl))) (by simp only [Act.put, List.setIfInBounds_toArray, List.set_cons_zero, List.set_cons_succ]; rfl) ?_
          refine g_take 1 #[true, true, false, false, false, false, false, false, false, false, false, false, false, false, false, false, false, false] (N := some 62) rfl rfl (by kernel_rfl) (fun _ _ _ h => h) (GP.p (gy_pure (by rfl) (fun w_ => by go_simp; with_reducible rfl))) (by simp only [Act.put, List.setIfInBounds_toArray, List.set_cons_zero, List.set_cons_succ]; rfl) ?_
          refine g_take 2 #[true, true, true, false, false, false, false, false, false, false, false, false, false, false, false, false, false, false] (N := some 63) rfl rfl (by kernel_rfl) (fun _ _ _ h => h) (GP.p (gy_pure (by rfl) (fun w_ => by go_simp; with_reducible rfl))) (by simp only [Act.put, List.setIfInBounds_toArray, List.set_cons_zero, List.set_cons_succ]; rfl) ?_
          refine g_take 3 #[true, true, true, true, false, false, false, false, false, false, false, false, false, false, false, false, false, false] (N := some 64) rfl rfl (by kernel_rfl) (fun _ _ _ h => h) (GP.p (gy_pure (by rfl) (fun w_ => by go_simp; with_reducible rfl))) (by simp only [Act.put, List.setIfInBounds_toArray, List.set_cons_zero, List.set_cons_succ]; rfl) ?_
          refine g_take 4 #[true, true, true, true, true, false, false, false, false, false, false, false, false, false, false, false, false, false] (N := some 65) rfl rfl (by kernel_rfl) (fun _ _ _ h => h) (GP.p (gy_pure (by rfl) (fun w_ => by go_simp; with_reducible rfl))) (by simp only [Act.put, List.setIfInBounds_toArray, List.set_cons_zero, List.set_cons_succ]; rfl) ?_
          refine g_take 5 #[true, true, true, true, true, true, false, false, false, false, false, false, false, false, false, false, false, false] (N := some 66) rfl rfl (by kernel_rfl) (fun _ _ _ h => h) (GP.p (gy_pure (by rfl) (fun w_ => by go_simp; with_reducible rfl))) (by simp only [Act.put, List.setIfInBounds_toArray, List.set_cons_zero, List.set_cons_succ]; rfl) ?_
          refine g_take 6 #[true, true, true, true, true, true, true, false, false, false, false, false, false, false, false, false, false, false] (N := some 67) rfl rfl (by kernel_rfl) (fun _ _ _ h => h) (GP.p (gy_pure (by rfl) (fun w_ => by go_simp; with_reducible rfl))) (by simp only [Act.put, List.setIfInBounds_toArray, List.set_cons_zero, List.set_cons_succ]; rfl) ?_
          refine g_take 7 #[true, true, true, true, true, true, true, true, false, false, false, false, false, false, false, false, false, false] (N := some 68) rfl rfl (by kernel_rfl) (fun _ _ _ h => h) (GP.p (gy_pure (by rfl) (fun w_ => by go_simp; with_reducible rfl))) (by simp only [Act.put, List.setIfInBounds_toArray, List.set_cons_zero, List.set_cons_succ]; rfl) ?_
          refine g_take 8 #[true, true, true, true, true, true, true, true, true, false, false, false, false, false, false, false, false, false] (N := some 69) rfl rfl (by kernel_rfl) (fun _ _ _ h => h) (GP.p (gy_pure (by rfl) (fun w_ => by go_simp; with_reducible rfl))) (by simp only [Act.put, List.setIfInBounds_toArray, List.set_cons_zero, List.set_cons_succ]; rfl) ?_
          refine g_take 9 #[true, true, true, true, true, true, true, true, true, true, false, false, false, false, false, false, false, false] (N := some 70) rfl rfl (by kernel_rfl) (fun _ _ _ h => h) (GP.rd (by rfl) (gy_rowA (by rfl) rfl (by rfl) hay Tryd.isAgg36 Tryd.sizeOf36 (ecells_len y))) (by simp only [Act.put, List.setIfInBounds_toArray, List.set_cons_zero, List.set_cons_succ]; rfl) ?_
          refine g_take 10 #[true, true, true, true, true, true, true, true, true, true, true, false, false, false, false, false, false, false] (N := some 71) rfl rfl (by kernel_rfl) (fun _ _ _ h => h) (GP.p (gy_pure (by rfl) (fun w_ => by go_simp; with_reducible rfl))) (by simp only [Act.put, List.setIfInBounds_toArray, List.set_cons_zero, List.set_cons_succ]; rfl) ?_
          refine g_take 11 #[true, true, true, true, true, true, true, true, true, true, true, true, false, false, false, false, false, false] (N := some 72) rfl rfl (by kernel_rfl) (fun _ _ _ h => h) (GP.p (gy_pure (by rfl) (fun w_ => by go_simp; with_reducible rfl))) (by simp only [Act.put, List.setIfInBounds_toArray, List.set_cons_zero, List.set_cons_succ]; rfl) ?_
          refine g_take 12 #[true, true, true, true, true, true, true, true, true, true, true, true, true, false, false, false, false, false] (N := some 73) rfl rfl (by kernel_rfl) (fun _ _ _ h => h) (GP.p (gy_pure (by rfl) (fun w_ => by go_simp; with_reducible rfl))) (by simp only [Act.put, List.setIfInBounds_toArray, List.set_cons_zero, List.set_cons_succ]; rfl) ?_
          refine g_take 13 #[true, true, true, true, true, true, true, true, true, true, true, true, true, true, false, false, false, false] (N := some 74) rfl rfl (by kernel_rfl) (fun _ _ _ h => h) (GP.rd (by rfl) (gy_rowA (by rfl) rfl (by rfl) hax Tryd.isAgg36 Tryd.sizeOf36 (ecells_len x))) (by simp only [Act.put, List.setIfInBounds_toArray, List.set_cons_zero, List.set_cons_succ]; rfl) ?_
          refine g_take 14 #[true, true, true, true, true, true, true, true, true, true, true, true, true, true, true, false, false, false] (N := some 75) rfl rfl (by kernel_rfl) (fun _ _ _ h => h) (GP.p (gy_pure (by rfl) (fun w_ => by go_simp; with_reducible rfl))) (by simp only [Act.put, List.setIfInBounds_toArray, List.set_cons_zero, List.set_cons_succ]; rfl) ?_
          refine g_barrier 15 #[true, true, true, true, true, true, true, true, true, true, true, true, true, true, true, true, false, false] rfl (by kernel_rfl) (by kernel_rfl) (fun w5 hw5 => ⟨by rfl, ?_⟩)
          refine wp_storeR (i := j) (e := y) rfl (by rfl) (by rfl) (HR1.out.ext hw5) (len_mid1 _ _ _ _ _ HjU.out) (fun w6 hR6 hE6 => ?_)
          have HR6 := Lib.hid hR6
          have HE6 : Hid (ExtB p.block w w6) := Lib.hid ((HEQ.out.trans (ExtB.of hw5)).trans hE6)
          clear hR6 hE6 hw5 hax hay
          refine g_take 16 #[true, true, true, true, true, true, true, true, true, true, true, true, true, true, true, true, true, false] (N := some 76) rfl rfl (by kernel_rfl) (fun _ _ _ h => h) (GP.p (gy_pure (by rfl) (fun w_ => by go_simp; with_reducible rfl))) (by simp only [Act.put, List.setIfInBounds_toArray, List.set_cons_zero, List.set_cons_succ]; rfl) ?_
          refine g_barrier 17 #[true, true, true, true, true, true, true, true, true, true, true, true, true, true, true, true, true, true] rfl (by kernel_rfl) (by kernel_rfl) (fun w7 hw7 => ⟨by rfl, ?_⟩)
          refine wp_storeR (i := J) (e := x) rfl (by rfl) (by rfl) (HR6.out.ext hw7) (len_mid2 _ _ _ _ _ _ HJU.out) (fun w8 hR8 hE8 => ?_)
          refine g_done (by kernel_rfl) (fun w9 hw9 => ?_)
          have HR9 : Hid (Row w9 p _ rest) := Lib.hid (hR8.ext hw9)
          have HE9 : Hid (ExtB p.block w w9) := Lib.hid (((HE6.out.trans (ExtB.of hw7)).trans hE8).trans (ExtB.of hw9))
          rw [swap_mid _ _ _ _ _ HjU.out HJU.out] at HR9
          clear hR8 hE8 hw9 hw7 HR6 HE6
          simp only [Act.put]
          go_wp2
          go_roundg A3.length
          case measure => have h := HK2.out; rw [List.length_cons] at h; omega
          case rel => exact ⟨J, A1 ++ [y], A3, rfl, Lib.hid (by rw [HAA.out]; simp), Lib.hid (by rw [List.length_append, List.length_cons, List.length_nil]; have := HJ.out; have := HJJ.out; omega), Lib.hid rfl, Lib.hid (by have h := HR9.out; simpa using h), HE9⟩
        · have hj1 : ¬ (j : Int) < (i' : Int) := by omega
          have hA0 : A2 = [] := by
            have h := HAL.out
            rw [List.length_append, HA2.out] at h
            exact List.length_eq_zero_iff.1 (by have := HJ.out; have := HI'.out; omega)
          subst hA0
          have hAA : A1 = A := by rw [HAA.out, List.append_nil]
          subst hAA
          go_wp2
          go_end0
          have hs := srt_app.1 HY.out
          refine ⟨A1 ++ x :: C, ?_, ?_, rfl, by have h := HRQ.out; simpa using h, HEQ.out⟩
          · exact List.perm_middle
          · refine srt_app.2 ⟨hs.1, List.pairwise_cons.2 ⟨HD2.out, hs.2.1⟩, fun y hy z hz => ?_⟩
            rcases List.mem_cons.1 hz with rfl | hz
            · exact HT2.out y hy
            · exact hs.2.2 y hy z hz
end Go.Proofs.YthmnohecmmknpaaDoor.Vec
namespace Go.Proofs.YthmnohecmmknpaaDoor.Vec
open Go.RowKit Go.Proofs.YthmnohecmmknpaaDoorW.PrintWords Go.Proofs.YthmnohecmmknpaaDoorW.PrintLast Go.Proofs.YthmnohecmmknpaaDoor.Given Go.Proofs.YthmnohecmmknpaaDoor.PA Go.Proofs.YthmnohecmmknpaaDoor.Val
set_option linter.unusedVariables false
set_option linter.unusedSimpArgs false
set_option maxRecDepth 100000
set_option maxHeartbeats 4000000 in
theorem symMerge_last (P X S : List Ev) (y : Ev) (rest : List Value) (p : Addr) (N c a m b : Nat) (w : World) (hR : Row w p (P ++ (X ++ (y :: S))) rest) (hX : Srt X) (hX1 : X.length ≠ 1)
    (hN : (P ++ (X ++ (y :: S))).length = N) (ha : P.length = a) (hm : a + X.length = m) (hb : m + 1 = b) (hl : N ≤ 1000) :
    Calls Tryd.prog 41 #[.slice (some p) N c, .int .i64 (a : Int), .int .i64 (m : Int), .int .i64 (b : Int), .func (.func 19) #[] #[]] w (SrtPost p P (X ++ [y]) S rest w) := by
  obtain ⟨n0, hn0⟩ : ∃ n, X.length = n := ⟨_, rfl⟩
  have HR := Lib.hid hR
  have HX := Lib.hid hX
  have HXL := Lib.hid hn0
  have HN : Hid (b + S.length = N) := Lib.hid (by rw [← hN]; simp only [List.length_append, List.length_cons]; omega)
  have HA := Lib.hid ha
  have HM : Hid (a + n0 = m) := Lib.hid (hn0 ▸ hm)
  have HB := Lib.hid hb
  have HL := Lib.hid hl
  have hwi : IntKind.i64.wrap ((m : Int) - (a : Int)) = (n0 : Int) := wrap_n _ n0 (by omega) (by have := HN.out; omega)
  have hwj : IntKind.i64.wrap ((b : Int) - (m : Int)) = 1 := wrap_n _ 1 (by omega) (by omega)
  have hne : ((n0 : Int) == 1) = false := by simp; omega
  have hm1 : (m : Int) < (N : Int) := by have := HN.out; omega
  have hm0 : 0 ≤ (m : Int) := by omega
  clear hR hX hN ha hm hb hl hX1 hn0
  go_enter Tryd.func41, Tryd.ntmps41
  go_wp2_with fail
  clear hwi hwj
  go_loopg [14, 15] n0 (fun k v14 v15 wr => ∃ (i j u v : Nat), v14 = .int .i64 (i : Int) ∧ v15 = .int .i64 (j : Int) ∧ Hid (a + u = i) ∧ Hid (a + v = j) ∧ Hid (u + k = v) ∧ Hid (v ≤ X.length) ∧ Hid (∀ z ∈ X.take u, le z y) ∧ Hid (∀ z ∈ X.drop v, le y z) ∧
    Hid (Row wr p (P ++ (X ++ (y :: S))) rest) ∧ Hid (ExtB p.block w wr))
  case atStart => exact ⟨a, m, 0, n0, rfl, rfl, Lib.hid rfl, HM, Lib.hid (by omega), Lib.hid (Nat.le_of_eq HXL.out.symm), Lib.hid (by simp), Lib.hid (by rw [List.drop_of_length_le (Nat.le_of_eq HXL.out)]; simp), HR, Lib.hid (ExtB.refl _ _)⟩
  case round =>
    obtain ⟨i, j, u, v, rfl, rfl, HU, HV, HK, HVL, HTU, HDV, HRR, HE⟩ := hrel
    by_cases hij : i < j
    · have hi1 : (i : Int) < (j : Int) := by omega
      obtain ⟨s, hs⟩ : ∃ s, i + j = s := ⟨_, rfl⟩
      obtain ⟨h, hh⟩ : ∃ h, s / 2 = h := ⟨_, rfl⟩
      obtain ⟨q, hq⟩ : ∃ q, h - a = q := ⟨_, rfl⟩
      have hjN : j ≤ N := by have := HV.out; have := HVL.out; have := HXL.out; have := HM.out; have := HB.out; have := HN.out; omega
      have hws : IntKind.i64.wrap ((i : Int) + (j : Int)) = (s : Int) := wrap_n _ _ (by omega) (by have := HL.out; omega)
      have hwu : IntKind.u64.wrap (s : Int) = (s : Int) := wrap_un s (by have := HL.out; omega)
      have hdh : (s : Int) / 2 = (h : Int) := half s h hh
      have hwb : IntKind.i64.wrap (h : Int) = (h : Int) := wrap_n _ h rfl (by have := HL.out; omega)
      have hwh : IntKind.i64.wrap ((h : Int) + 1) = ((h + 1 : Nat) : Int) := wrap_n _ _ (by omega) (by have := HL.out; omega)
      have HQ : Hid (a + q = h) := Lib.hid (by have := HU.out; omega)
      have HQV : Hid (u ≤ q ∧ q < v) := Lib.hid (by have := HU.out; have := HV.out; have := HQ.out; omega)
      obtain ⟨z, hz⟩ := some_at (l := X) (i := q) (by have := HQV.out; have := HVL.out; omega)
      have HZ := Lib.hid hz
      have hh1 : (h : Int) < (N : Int) := by have := HQ.out; have := HQV.out; have := HVL.out; have := HXL.out; have := HM.out; have := HB.out; have := HN.out; omega
      have hh0 : 0 ≤ (h : Int) := by omega
      have haz : AtR wr (p.add (h * 27)) (ecells z) := HRR.out.at (get_part _ _ _ (by rw [HA.out, HQ.out]) hz)
      have hay : AtR wr (p.add (m * 27)) (ecells y) := by
        have hr := HRR.out
        have e : P ++ (X ++ (y :: S)) = (P ++ X) ++ (y :: S) := by simp
        rw [e] at hr
        exact hr.at (get_mid _ _ _ (by rw [List.length_append, HA.out, HXL.out, HM.out]))
      clear hij hs hh hq hjN hz
      by_cases hlt : pastB y z < 0
      · have HLT : Hid (le y z) := Lib.hid (le_of_lt hlt)
        obtain ⟨t, ht⟩ : ∃ t, pastB y z = t := ⟨_, rfl⟩
        have hcmp : ∀ w', Calls Tryd.prog 19 #[evval y, evval z] w' fun r w'' => r = .returned (.int .i64 t) ∧ Ext w' w'' := fun w' => ht ▸ byPast_calls y z w'
        rw [ht] at hlt
        clear ht
        go_upto_region 17 with (fail)
        refine g_begin (by kernel_rfl) (Ext.refl _) #[false, false, false, false, false, false, false, false, false, false, false, false] 12 rfl rfl ?_
        refine g_take 0 #[true, false, false, false, false, false, false, false, false, false, false, false] (N := some 92) rfl rfl (by kernel_rfl) (fun _ _ _ h => h) (GP.p (gy_pure (by rfl) (fun w_ => by go_simp; with_reducible rfl))) (by simp only [Act.put, List.setIfInBounds_toArray, List.set_cons_zero, List.set_cons_succ]; rfl) ?_
        refine g_take 1 #[true, true, false, false, false, false, false, false, false, false, false, false] (N := some 93) rfl rfl (by kernel_rfl) (fun _ _ _ h => h) (GP.p (gy_pure (by rfl) (fun w_ => by go_simp; with_reducible rfl))) (by simp only [Act.put, List.setIfInBounds_toArray, List.set_cons_zero, List.set_cons_succ]; rfl) ?_
        refine g_take 2 #[true, true, true, false, false, false, false, false, false, false, false, false] (N := some 94) rfl rfl (by kernel_rfl) (fun _ _ _ h => h) (GP.p (gy_pure (by rfl) (fun w_ => by go_simp; with_reducible rfl))) (by simp only [Act.put, List.setIfInBounds_toArray, List.set_cons_zero, List.set_cons_succ]; rfl) ?_
        refine g_take 3 #[true, true, true, true, false, false, false, false, false, false, false, false] (N := some 95) rfl rfl (by kernel_rfl) (fun _ _ _ h => h) (GP.p (gy_pure (by rfl) (fun w_ => by go_simp; with_reducible rfl))) (by simp only [Act.put, List.setIfInBounds_toArray, List.set_cons_zero, List.set_cons_succ]; rfl) ?_
        refine g_take 4 #[true, true, true, true, true, false, false, false, false, false, false, false] (N := some 96) rfl rfl (by kernel_rfl) (fun _ _ _ h => h) (GP.rd (by rfl) (gy_rowA (by rfl) rfl (by rfl) hay Tryd.isAgg36 Tryd.sizeOf36 (ecells_len y))) (by simp only [Act.put, List.setIfInBounds_toArray, List.set_cons_zero, List.set_cons_succ]; rfl) ?_
        refine g_take 5 #[true, true, true, true, true, true, false, false, false, false, false, false] (N := some 97) rfl rfl (by kernel_rfl) (fun _ _ _ h => h) (GP.p (gy_pure (by rfl) (fun w_ => by go_simp; with_reducible rfl))) (by simp only [Act.put, List.setIfInBounds_toArray, List.set_cons_zero, List.set_cons_succ]; rfl) ?_
        refine g_take 6 #[true, true, true, true, true, true, true, false, false, false, false, false] (N := some 98) rfl rfl (by kernel_rfl) (fun _ _ _ h => h) (GP.p (gy_pure (by rfl) (fun w_ => by go_simp; with_reducible rfl))) (by simp only [Act.put, List.setIfInBounds_toArray, List.set_cons_zero, List.set_cons_succ]; rfl) ?_
        refine g_take 7 #[true, true, true, true, true, true, true, true, false, false, false, false] (N := some 99) rfl rfl (by kernel_rfl) (fun _ _ _ h => h) (GP.p (gy_pure (by rfl) (fun w_ => by go_simp; with_reducible rfl))) (by simp only [Act.put, List.setIfInBounds_toArray, List.set_cons_zero, List.set_cons_succ]; rfl) ?_
        refine g_take 8 #[true, true, true, true, true, true, true, true, true, false, false, false] (N := some 100) rfl rfl (by kernel_rfl) (fun _ _ _ h => h) (GP.rd (by rfl) (gy_rowA (by rfl) rfl (by rfl) haz Tryd.isAgg36 Tryd.sizeOf36 (ecells_len z))) (by simp only [Act.put, List.setIfInBounds_toArray, List.set_cons_zero, List.set_cons_succ]; rfl) ?_
        refine g_take 9 #[true, true, true, true, true, true, true, true, true, true, false, false] (N := some 101) rfl rfl (by kernel_rfl) (fun _ _ _ h => h) (GP.rd (by rfl) (gy_callv (by rfl) rfl (by rfl) Tryd.func19 (by kernel_rfl) rfl #[_, _] (by rfl) (fun w _ => hcmp w))) (by simp only [Act.put, List.setIfInBounds_toArray, List.set_cons_zero, List.set_cons_succ]; rfl) ?_
        refine g_take 10 #[true, true, true, true, true, true, true, true, true, true, true, false] (N := some 102) rfl rfl (by kernel_rfl) (fun _ _ _ h => h) (GP.p (gy_pure (by rfl) (fun w_ => by go_simp; with_reducible rfl))) (by simp only [Act.put, List.setIfInBounds_toArray, List.set_cons_zero, List.set_cons_succ]; rfl) ?_
        refine g_take 11 #[true, true, true, true, true, true, true, true, true, true, true, true] (N := some 103) rfl rfl (by kernel_rfl) (fun _ _ _ h => h) (GP.p (gy_pure (by rfl) (fun w_ => by go_simp; with_reducible rfl))) (by simp only [Act.put, List.setIfInBounds_toArray, List.set_cons_zero, List.set_cons_succ]; rfl) ?_
        refine g_done (by kernel_rfl) (fun w1 hw1 => ?_)
        have HE2 : Hid (ExtB p.block w w1) := Lib.hid (HE.out.trans (ExtB.of hw1))
        have HR2 := Lib.hid (HRR.out.ext hw1)
        clear hw1 hcmp hay haz hws hwu
        go_wp2
        go_roundg (q - u)
        case measure => have := HQV.out; have := HK.out; omega
        case rel => exact ⟨i, h, u, q, rfl, rfl, HU, HQ, Lib.hid (by have := HQV.out; omega), Lib.hid (by have := HQV.out; have := HVL.out; omega), HTU, Lib.hid (fun x hx => le_trans' HLT.out (srt_drop HX.out HZ.out x hx)), HR2, HE2⟩
      · have HLT : Hid (le z y) := Lib.hid hlt
        obtain ⟨t, ht⟩ : ∃ t, pastB y z = t := ⟨_, rfl⟩
        have hcmp : ∀ w', Calls Tryd.prog 19 #[evval y, evval z] w' fun r w'' => r = .returned (.int .i64 t) ∧ Ext w' w'' := fun w' => ht ▸ byPast_calls y z w'
        rw [ht] at hlt
        clear ht
        go_upto_region 17 with (fail)
        refine g_begin (by kernel_rfl) (Ext.refl _) #[false, false, false, false, false, false, false, false, false, false, false, false] 12 rfl rfl ?_
        refine g_take 0 #[true, false, false, false, false, false, false, false, false, false, false, false] (N := some 92) rfl rfl (by kernel_rfl) (fun _ _ _ h => h) (GP.p (gy_pure (by rfl) (fun w_ => by go_simp; with_reducible rfl))) (by simp only [Act.put, List.setIfInBounds_toArray, List.set_cons_zero, List.set_cons_succ]; rfl) ?_
        refine g_take 1 #[true, true, false, false, false, false, false, false, false, false, false, false] (N := some 93) rfl rfl (by kernel_rfl) (fun _ _ _ h => h) (GP.p (gy_pure (by rfl) (fun w_ => by go_simp; with_reducible rfl))) (by simp only [Act.put, List.setIfInBounds_toArray, List.set_cons_zero, List.set_cons_succ]; rfl) ?_
        refine g_take 2 #[true, true, true, false, false, false, false, false, false, false, false, false] (N := some 94) rfl rfl (by kernel_rfl) (fun _ _ _ h => h) (GP.p (gy_pure (by rfl) (fun w_ => by go_simp; with_reducible rfl))) (by simp only [Act.put, List.setIfInBounds_toArray, List.set_cons_zero, List.set_cons_succ]; rfl) ?_
        refine g_take 3 #[true, true, true, true, false, false, false, false, false, false, false, false] (N := some 95) rfl rfl (by kernel_rfl) (fun _ _ _ h => h) (GP.p (gy_pure (by rfl) (fun w_ => by go_simp; with_reducible rfl))) (by simp only [Act.put, List.setIfInBounds_toArray, List.set_cons_zero, List.set_cons_succ]; rfl) ?_
        refine g_take 4 #[true, true, true, true, true, false, false, false, false, false, false, false] (N := some 96) rfl rfl (by kernel_rfl) (fun _ _ _ h => h) (GP.rd (by rfl) (gy_rowA (by rfl) rfl (by rfl) hay Tryd.isAgg36 Tryd.sizeOf36 (ecells_len y))) (by simp only [Act.put, List.setIfInBounds_toArray, List.set_cons_zero, List.set_cons_succ]; rfl) ?_
        refine g_take 5 #[true, true, true, true, true, true, false, false, false, false, false, false] (N := some 97) rfl rfl (by kernel_rfl) (fun _ _ _ h => h) (GP.p (gy_pure (by rfl) (fun w_ => by go_simp; with_reducible rfl))) (by simp only [Act.put, List.setIfInBounds_toArray, List.set_cons_zero, List.set_cons_succ]; rfl) ?_
        refine g_take 6 #[true, true, true, true, true, true, true, false, false, false, false, false] (N := some 98) rfl rfl (by kernel_rfl) (fun _ _ _ h => h) (GP.p (gy_pure (by rfl) (fun w_ => by go_simp; with_reducible rfl))) (by simp only [Act.put, List.setIfInBounds_toArray, List.set_cons_zero, List.set_cons_succ]; rfl) ?_
        refine g_take 7 #[true, true, true, true, true, true, true, true, false, false, false, false] (N := some 99) rfl rfl (by kernel_rfl) (fun _ _ _ h => h) (GP.p (gy_pure (by rfl) (fun w_ => by go_simp; with_reducible rfl))) (by simp only [Act.put, List.setIfInBounds_toArray, List.set_cons_zero, List.set_cons_succ]; rfl) ?_
        refine g_take 8 #[true, true, true, true, true, true, true, true, true, false, false, false] (N := some 100) rfl rfl (by kernel_rfl) (fun _ _ _ h => h) (GP.rd (by rfl) (gy_rowA (by rfl) rfl (by rfl) haz Tryd.isAgg36 Tryd.sizeOf36 (ecells_len z))) (by simp only [Act.put, List.setIfInBounds_toArray, List.set_cons_zero, List.set_cons_succ]; rfl) ?_
        refine g_take 9 #[true, true, true, true, true, true, true, true, true, true, false, false] (N := some 101) rfl rfl (by kernel_rfl) (fun _ _ _ h => h) (GP.rd (by rfl) (gy_callv (by rfl) rfl (by rfl) Tryd.func19 (by kernel_rfl) rfl #[_, _] (by rfl) (fun w _ => hcmp w))) (by simp only [Act.put, List.setIfInBounds_toArray, List.set_cons_zero, List.set_cons_succ]; rfl) ?_
        refine g_take 10 #[true, true, true, true, true, true, true, true, true, true, true, false] (N := some 102) rfl rfl (by kernel_rfl) (fun _ _ _ h => h) (GP.p (gy_pure (by rfl) (fun w_ => by go_simp; with_reducible rfl))) (by simp only [Act.put, List.setIfInBounds_toArray, List.set_cons_zero, List.set_cons_succ]; rfl) ?_
        refine g_take 11 #[true, true, true, true, true, true, true, true, true, true, true, true] (N := some 103) rfl rfl (by kernel_rfl) (fun _ _ _ h => h) (GP.p (gy_pure (by rfl) (fun w_ => by go_simp; with_reducible rfl))) (by simp only [Act.put, List.setIfInBounds_toArray, List.set_cons_zero, List.set_cons_succ]; rfl) ?_
        refine g_done (by kernel_rfl) (fun w1 hw1 => ?_)
        have HE2 : Hid (ExtB p.block w w1) := Lib.hid (HE.out.trans (ExtB.of hw1))
        have HR2 := Lib.hid (HRR.out.ext hw1)
        clear hw1 hcmp hay haz hws hwu
        go_wp2
        go_roundg (v - (q + 1))
        case measure => have := HQV.out; have := HK.out; omega
        case rel => exact ⟨h + 1, j, q + 1, v, rfl, rfl, Lib.hid (by have := HQ.out; omega), HV, Lib.hid (by have := HQV.out; omega), HVL, Lib.hid (fun x hx => le_trans' (srt_take HX.out HZ.out x hx) HLT.out), HDV, HR2, HE2⟩
    · have hi1 : ¬ (i : Int) < (j : Int) := by omega
      have huv : v = u := by have := HU.out; have := HV.out; have := HK.out; omega
      subst huv
      obtain ⟨A, B, rfl, hA, hB⟩ := split_at (l := X) (k := v) HVL.out
      have HT2 : Hid (∀ z ∈ A, le z y) := Lib.hid (by have h := HTU.out; rwa [List.take_left' hA] at h)
      have HD2 : Hid (∀ z ∈ B, le y z) := Lib.hid (by have h := HDV.out; rwa [List.drop_left' hA] at h)
      have HA2 := Lib.hid hA
      clear hA hB HTU HDV
      go_wp2_with fail
      go_loopg [17] B.length (fun k v17 wr => ∃ (j : Nat) (B1 B2 : List Ev), v17 = .int .i64 (j : Int) ∧ Hid (B = B1 ++ B2) ∧ Hid (i + B1.length = j) ∧ Hid (B1.length = k) ∧ Hid (Row wr p (P ++ (A ++ (B1 ++ (y :: (B2 ++ S))))) rest) ∧ Hid (ExtB p.block w wr))
      case atStart => exact ⟨m, B, [], rfl, Lib.hid (by simp), Lib.hid (by have h := HXL.out; rw [List.length_append, HA2.out] at h; have := HM.out; have := HU.out; omega), Lib.hid rfl, Lib.hid (by have h := HRR.out; simpa using h), HE⟩
      case round =>
        obtain ⟨j, B1, B2, rfl, HBB, HJ, HK2, HRQ, HEQ⟩ := hrel
        have HBL := Lib.hid (congrArg List.length HBB.out)
        by_cases hj : i < j
        · have hg : (i : Int) < (j : Int) := by omega
          obtain ⟨B0, z, rfl⟩ := snoc_of (l := B1) (by have := HJ.out; omega)
          obtain ⟨J, hJ⟩ : ∃ J, j - 1 = J := ⟨_, rfl⟩
          have hjl := HJ.out
          have hbl := HBL.out
          rw [List.length_append, List.length_cons, List.length_nil] at hjl
          simp only [List.length_append, List.length_cons, List.length_nil] at hbl
          have hjN : j < N := by have h := HXL.out; rw [List.length_append, HA2.out] at h; have := HB.out; have := HN.out; have := HM.out; have := HU.out; omega
          have hwj : IntKind.i64.wrap ((j : Int) - 1) = (J : Int) := wrap_n _ _ (by omega) (by have := HL.out; omega)
          have hjn : (j : Int) < (N : Int) := by omega
          have hj0 : 0 ≤ (j : Int) := by omega
          have hJn : (J : Int) < (N : Int) := by omega
          have hJ0 : 0 ≤ (J : Int) := by omega
          have HJU : Hid (J = (P ++ (A ++ B0)).length) := Lib.hid (by rw [List.length_append, List.length_append, HA.out, HA2.out]; have := HU.out; omega)
          have HjU : Hid (j = (P ++ (A ++ B0)).length + 1 + ([] : List Ev).length) := Lib.hid (by rw [← HJU.out, List.length_nil]; omega)
          have HJJ : Hid (J + 1 = j) := Lib.hid (by omega)
          have HF : Hid (P ++ (A ++ ((B0 ++ [z]) ++ (y :: (B2 ++ S)))) = (P ++ (A ++ B0)) ++ z :: ([] ++ y :: (B2 ++ S))) := Lib.hid (by simp)
          have hr := HRQ.out
          rw [HF.out] at hr
          have HR1 := Lib.hid hr
          have haz : AtR wr (p.add (J * 27)) (ecells z) := hr.at (get_mid1 _ _ _ _ _ HJU.out)
          have hay : AtR wr (p.add (j * 27)) (ecells y) := hr.at (get_mid2 _ _ _ _ _ HjU.out)
          clear hr hJ hjN hj hjl hbl
          go_upto_region 23 with (fail)
          refine g_begin (by kernel_rfl) (Ext.refl _) #[false, false, false, false, false, false, false, false, false, false, false, false, false, false, false, false, false, false] 18 rfl rfl ?_
          refine g_take 0 #[true, false, false, false, false, false, false, false, false, false, false, false, false, false, false, false, false, false] (N := some 113) rfl rfl (by kernel_rfl) (fun _ _ _ h => h) (GP.p (gy_pure (by rfl) (fun w_ => by go_simp; with_reducible rfl))) (by simp only [Act.put, List.setIfInBounds_toArray, List.set_cons_zero, List.set_cons_succ]; rfl) ?_
          refine g_take 1 #[true, true, false, false, false, false, false, false, false, false, false, false, false, false, false, false, false, false] (N := some 114) rfl rfl (by kernel_rfl) (fun _ _ _ h => h) (GP.p (gy_pure (by rfl) (fun w_ => by go_simp; with_reducible rfl))) (by simp only [Act.put, List.setIfInBounds_toArray, List.set_cons_zero, List.set_cons_succ]; rfl) ?_
          refine g_take 2 #[true, true, true, false, false, false, false, false, false, false, false, false, false, false, false, false, false, false] (N := some 115) rfl rfl (by kernel_rfl) (fun _ _ _ h => h) (GP.p (gy_pure (by rfl) (fun w_ => by go_simp; with_reducible rfl))) (by simp only [Act.put, List.setIfInBounds_toArray, List.set_cons_zero, List.set_cons_succ]; rfl) ?_
          refine g_take 3 #[true, true, true, true, false, false, false, false, false, false, false, false, false, false, false, false, false, false] (N := some 116) rfl rfl (by kernel_rfl) (fun _ _ _ h => h) (GP.p (gy_pure (by rfl) (fun w_ => by go_simp; with_reducible rfl))) (by simp only [Act.put, List.setIfInBounds_toArray, List.set_cons_zero, List.set_cons_succ]; rfl) ?_
          refine g_take 4 #[true, true, true, true, true, false, false, false, false, false, false, false, false, false, false, false, false, false] (N := some 117) rfl rfl (by kernel_rfl) (fun _ _ _ h => h) (GP.p (gy_pure (by rfl) (fun w_ => by go_simp; with_reducible rfl))) (by simp only [Act.put, List.setIfInBounds_toArray, List.set_cons_zero, List.set_cons_succ]; rfl) ?_
          refine g_take 5 #[true, true, true, true, true, true, false, false, false, false, false, false, false, false, false, false, false, false] (N := some 118) rfl rfl (by kernel_rfl) (fun _ _ _ h => h) (GP.p (gy_pure (by rfl) (fun w_ => by go_simp; with_reducible rfl))) (by simp only [Act.put, List.setIfInBounds_toArray, List.set_cons_zero, List.set_cons_succ]; rfl) ?_
          refine g_take 6 #[true, true, true, true, true, true, true, false, false, false, false, false, false, false, false, false, false, false] (N := some 119) rfl rfl (by kernel_rfl) (fun _ _ _ h => h) (GP.p (gy_pure (by rfl) (fun w_ => by go_simp; with_reducible rfl))) (by simp only [Act.put, List.setIfInBounds_toArray, List.set_cons_zero, List.set_cons_succ]; rfl) ?_
          refine g_take 7 #[true, true, true, true, true, true, true, true, false, false, false, false, false, false, false, false, false, false] (N := some 120) rfl rfl (by kernel_rfl) (fun _ _ _ h => h) (GP.p (gy_pure (by rfl) (fun w_ => by go_simp; with_reducible rfl))) (by simp only [Act.put, List.setIfInBounds_toArray, List.set_cons_zero, List.set_cons_succ]; rfl) ?_
          refine g_take 8 #[true, true, true, true, true, true, true, true, true, false, false, false, false, false, false, false, false, false] (N := some 121) rfl rfl (by kernel_rfl) (fun _ _ _ h => h) (GP.p (gy_pure (by rfl) (fun w_ => by go_simp; with_reducible rfl))) (by simp only [Act.put, List.setIfInBounds_toArray, List.set_cons_zero, List.set_cons_succ]; rfl) ?_
          refine g_take 9 #[true, true, true, true, true, true, true, true, true, true, false, false, false, false, false, false, false, false] (N := some 122) rfl rfl (by kernel_rfl) (fun _ _ _ h => h) (GP.rd (by rfl) (gy_rowA (by rfl) rfl (by rfl) haz Tryd.isAgg36 Tryd.sizeOf36 (ecells_len z))) (by simp only [Act.put, List.setIfInBounds_toArray, List.set_cons_zero, List.set_cons_succ]; rfl) ?_
          refine g_take 10 #[true, true, true, true, true, true, true, true, true, true, true, false, false, false, false, false, false, false] (N := some 123) rfl rfl (by kernel_rfl) (fun _ _ _ h => h) (GP.p (gy_pure (by rfl) (fun w_ => by go_simp; with_reducible rfl))) (by simp only [Act.put, List.setIfInBounds_toArray, List.set_cons_zero, List.set_cons_succ]; rfl) ?_
          refine g_take 11 #[true, true, true, true, true, true, true, true, true, true, true, true, false, false, false, false, false, false] (N := some 124) rfl rfl (by kernel_rfl) (fun _ _ _ h => h) (GP.p (gy_pure (by rfl) (fun w_ => by go_simp; with_reducible rfl))) (by simp only [Act.put, List.setIfInBounds_toArray, List.set_cons_zero, List.set_cons_succ]; rfl) ?_
          refine g_take 12 #[true, true, true, true, true, true, true, true, true, true, true, true, true, false, false, false, false, false] (N := some 125) rfl rfl (by kernel_rfl) (fun _ _ _ h => h) (GP.p (gy_pure (by rfl) (fun w_ => by go_simp; with_reducible rfl))) (by simp only [Act.put, List.setIfInBounds_toArray, List.set_cons_zero, List.set_cons_succ]; rfl) ?_
          refine g_take 13 #[true, true, true, true, true, true, true, true, true, true, true, true, true, true, false, false, false, false] (N := some 126) rfl rfl (by kernel_rfl) (fun _ _ _ h => h) (GP.rd (by rfl) (gy_rowA (by rfl) rfl (by rfl) hay Tryd.isAgg36 Tryd.sizeOf36 (ecells_len y))) (by simp only [Act.put, List.setIfInBounds_toArray, List.set_cons_zero, List.set_cons_succ]; rfl) ?_
          refine g_take 14 #[true, true, true, true, true, true, true, true, true, true, true, true, true, true, true, false, false, false] (N := some 127) rfl rfl (by kernel_rfl) (fun _ _ _ h => h) (GP.p (gy_pure (by rfl) (fun w_ => by go_simp; with_reducible rfl))) (by simp only [Act.put, List.setIfInBounds_toArray, List.set_cons_zero, List.set_cons_succ]; rfl) ?_
          refine g_barrier 15 #[true, true, true, true, true, true, true, true, true, true, true, true, true, true, true, true, false, false] rfl (by kernel_rfl) (by kernel_rfl) (fun w5 hw5 => ⟨by rfl, ?_⟩)
          refine wp_storeR (i := j) (e := z) rfl (by rfl) (by rfl) (HR1.out.ext hw5) (len_mid2' _ _ _ _ _ HjU.out) (fun w6 hR6 hE6 => ?_)
          have HR6 := Lib.hid hR6
          have HE6 : Hid (ExtB p.block w w6) := Lib.hid ((HEQ.out.trans (ExtB.of hw5)).trans hE6)
          clear hR6 hE6 hw5 haz hay
          refine g_take 16 #[true, true, true, true, true, true, true, true, true, true, true, true, true, true, true, true, true, false] (N := some 128) rfl rfl (by kernel_rfl) (fun _ _ _ h => h) (GP.p (gy_pure (by rfl) (fun w_ => by go_simp; with_reducible rfl))) (by simp only [Act.put, List.setIfInBounds_toArray, List.set_cons_zero, List.set_cons_succ]; rfl) ?_
          refine g_barrier 17 #[true, true, true, true, true, true, true, true, true, true, true, true, true, true, true, true, true, true] rfl (by kernel_rfl) (by kernel_rfl) (fun w7 hw7 => ⟨by rfl, ?_⟩)
          refine wp_storeR (i := J) (e := y) rfl (by rfl) (by rfl) (HR6.out.ext hw7) (len_mid1' _ _ _ _ _ _ HJU.out) (fun w8 hR8 hE8 => ?_)
          refine g_done (by kernel_rfl) (fun w9 hw9 => ?_)
          have HR9 : Hid (Row w9 p _ rest) := Lib.hid (hR8.ext hw9)
          have HE9 : Hid (ExtB p.block w w9) := Lib.hid (((HE6.out.trans (ExtB.of hw7)).trans hE8).trans (ExtB.of hw9))
          rw [swap_mid' _ _ _ _ _ HJU.out HjU.out] at HR9
          clear hR8 hE8 hw9 hw7 HR6 HE6
          simp only [Act.put]
          go_wp2
          go_roundg B0.length
          case measure => have h := HK2.out; rw [List.length_append, List.length_cons, List.length_nil] at h; omega
          case rel => exact ⟨J, B0, z :: B2, rfl, Lib.hid (by rw [HBB.out]; simp), Lib.hid (by have h := HJ.out; rw [List.length_append, List.length_cons, List.length_nil] at h; have := HJJ.out; omega), Lib.hid rfl, Lib.hid (by have h := HR9.out; simpa using h), HE9⟩
        · have hg : ¬ (i : Int) < (j : Int) := by omega
          have hB0 : B1 = [] := List.length_eq_zero_iff.1 (by have := HJ.out; omega)
          subst hB0
          have hBB : B2 = B := by rw [HBB.out, List.nil_append]
          subst hBB
          go_wp2
          go_end0
          have hs := srt_app.1 HX.out
          refine ⟨A ++ y :: B2, ?_, ?_, rfl, by have h := HRQ.out; simpa using h, HEQ.out⟩
          · have h : (A ++ y :: B2).Perm (A ++ (B2 ++ [y])) := List.Perm.append_left A (List.perm_append_singleton y B2).symm
            simpa using h
          · refine srt_app.2 ⟨hs.1, List.pairwise_cons.2 ⟨HD2.out, hs.2.1⟩, fun x hx z hz => ?_⟩
            rcases List.mem_cons.1 hz with rfl | hz
            · exact HT2.out x hx
            · exact hs.2.2 x hx z hz
end Go.Proofs.YthmnohecmmknpaaDoor.Vec
namespace Go.Proofs.YthmnohecmmknpaaDoor.Vec
open Go.RowKit Go.Proofs.YthmnohecmmknpaaDoorW.PrintWords Go.Proofs.YthmnohecmmknpaaDoorW.PrintLast Go.Proofs.YthmnohecmmknpaaDoor.Given Go.Proofs.YthmnohecmmknpaaDoor.PA Go.Proofs.YthmnohecmmknpaaDoor.Val
set_option linter.unusedVariables false
set_option linter.unusedSimpArgs false
set_option maxRecDepth 100000
def MergesTo (K : Nat) : Prop := ∀ (P X Y S : List Ev) (rest : List Value) (p : Addr) (N c a m b : Nat) (w : World), X.length + Y.length ≤ K → Row w p (P ++ (X ++ (Y ++ S))) rest → 0 < X.length → 0 < Y.length → Srt X → Srt Y →
    (P ++ (X ++ (Y ++ S))).length = N → P.length = a → a + X.length = m → m + Y.length = b → N ≤ 1000 →
    Calls Tryd.prog 41 #[.slice (some p) N c, .int .i64 (a : Int), .int .i64 (m : Int), .int .i64 (b : Int), .func (.func 19) #[] #[]] w (SrtPost p P (X ++ Y) S rest w)
set_option maxHeartbeats 8000000 in
theorem symMerge_step (K : Nat) (IH : MergesTo K) (P X Y S : List Ev) (rest : List Value) (p : Addr) (N c a m b nx ny : Nat) (w : World) (hK : X.length + Y.length ≤ K + 1) (hR : Row w p (P ++ (X ++ (Y ++ S))) rest) (hX : Srt X) (hY : Srt Y) (hnx : X.length = nx) (hny : Y.length = ny) (hx2 : 2 ≤ nx) (hy2 : 2 ≤ ny)
    (hN : (P ++ (X ++ (Y ++ S))).length = N) (ha : P.length = a) (hm : a + nx = m) (hb : m + ny = b) (hl : N ≤ 1000) :
    Calls Tryd.prog 41 #[.slice (some p) N c, .int .i64 (a : Int), .int .i64 (m : Int), .int .i64 (b : Int), .func (.func 19) #[] #[]] w (SrtPost p P (X ++ Y) S rest w) := by
  obtain ⟨δ, hd⟩ : ∃ d, (nx + ny) / 2 = d := ⟨_, rfl⟩
  have HIH := Lib.hid IH
  have HKK : Hid (nx + ny ≤ K + 1) := Lib.hid (by rw [← hnx, ← hny]; exact hK)
  have HR := Lib.hid hR
  have HX := Lib.hid hX
  have HY := Lib.hid hY
  have HXL := Lib.hid hnx
  have HYL := Lib.hid hny
  have HX2 := Lib.hid hx2
  have HY2 := Lib.hid hy2
  have HN : Hid (b + S.length = N) := Lib.hid (by rw [← hN]; simp only [List.length_append, List.length_cons]; omega)
  have HA := Lib.hid ha
  have HM := Lib.hid hm
  have HB := Lib.hid hb
  have HL := Lib.hid hl
  have HD := Lib.hid hd
  have hwi : IntKind.i64.wrap ((m : Int) - (a : Int)) = (nx : Int) := wrap_n _ nx (by omega) (by have := HN.out; omega)
  have hwj : IntKind.i64.wrap ((b : Int) - (m : Int)) = (ny : Int) := wrap_n _ ny (by omega) (by have := HN.out; omega)
  have hne : ((nx : Int) == 1) = false := by simp; omega
  have hne2 : ((ny : Int) == 1) = false := by simp; omega
  obtain ⟨d, hdd⟩ : ∃ d, a + δ = d := ⟨_, rfl⟩
  obtain ⟨s, hs⟩ : ∃ s, a + b = s := ⟨_, rfl⟩
  obtain ⟨e, he⟩ : ∃ e, d + m = e := ⟨_, rfl⟩
  have hws : IntKind.i64.wrap ((a : Int) + (b : Int)) = (s : Int) := wrap_n _ _ (by omega) (by have := HN.out; omega)
  have hwu : IntKind.u64.wrap (s : Int) = (s : Int) := wrap_un s (by have := HN.out; omega)
  have hdh : (s : Int) / 2 = (d : Int) := half s d (by omega)
  have hwb : IntKind.i64.wrap (d : Int) = (d : Int) := wrap_n _ d rfl (by have := HN.out; omega)
  have hwe : IntKind.i64.wrap ((d : Int) + (m : Int)) = (e : Int) := wrap_n _ e (by omega) (by have := HN.out; omega)
  have HDD := Lib.hid hdd
  have HE0 := Lib.hid he
  clear hR hX hY hN ha hm hb hl hnx hny hx2 hy2 IH hK hd hdd he hs
  go_enter Tryd.func41, Tryd.ntmps41
  go_upto_if 140 with (fail)
  clear hwi hwj hws hwu hdh hwb hwe
  go_cut [20, 21] from 140 to 146 (fun v20 v21 wx => ∃ (s0 r0 σ0 ρ0 : Nat), v20 = .int .i64 (s0 : Int) ∧ v21 = .int .i64 (r0 : Int) ∧ Hid (a + σ0 = s0) ∧ Hid (a + ρ0 = r0) ∧ Hid (σ0 ≤ ρ0) ∧ Hid (ρ0 ≤ nx) ∧ Hid (ρ0 ≤ δ) ∧ Hid (δ ≤ σ0 + ny) ∧ Hid (σ0 = 0 ∨ δ = σ0 + ny) ∧ Hid (ρ0 = δ ∨ ρ0 = nx) ∧ wx = w)
  case first =>
    by_cases hdm : d < m
    · have hg : (d : Int) < (m : Int) := by omega
      obtain ⟨s0, hs0⟩ : ∃ s0, e - b = s0 := ⟨_, rfl⟩
      have hge : b + a ≤ e := by have := HE0.out; have := HDD.out; have := HD.out; have := HM.out; have := HB.out; omega
      have hws0 : IntKind.i64.wrap ((e : Int) - (b : Int)) = (s0 : Int) := wrap_n _ s0 (by omega) (by have := HE0.out; have := HDD.out; have := HD.out; have := HM.out; have := HB.out; have := HN.out; have := HL.out; omega)
      have HS0 : Hid (a + (δ - ny) = s0) := Lib.hid (by have := HE0.out; have := HDD.out; have := HD.out; have := HM.out; have := HB.out; omega)
      have HG : Hid (ny ≤ δ ∧ δ ≤ nx) := Lib.hid (by have := HD.out; have := HDD.out; have := HM.out; omega)
      clear hdm hs0 hge
      go_wp2_with fail
      go_meet
      case rel => exact ⟨s0, d, δ - ny, δ, rfl, rfl, HS0, HDD, Lib.hid (by omega), Lib.hid (by have := HG.out; omega), Lib.hid (Nat.le_refl _), Lib.hid (by omega), Lib.hid (by have := HG.out; omega), Lib.hid (.inl rfl), rfl⟩
    · have hg : ¬ (d : Int) < (m : Int) := by omega
      have HG : Hid (nx ≤ δ) := Lib.hid (by have := HD.out; have := HDD.out; have := HM.out; omega)
      clear hdm
      go_wp2_with fail
      go_meet
      case rel => exact ⟨a, m, 0, nx, rfl, rfl, Lib.hid rfl, HM, Lib.hid (by omega), Lib.hid (by omega), HG, Lib.hid (by have := HD.out; have := HG.out; omega), Lib.hid (.inl rfl), Lib.hid (.inr rfl), rfl⟩
  case rest =>
    obtain ⟨s0, r0, σ0, ρ0, rfl, rfl, HS0, HR0, HSR, HRX, HRD, HDS, HSO, HRO, hwc⟩ := hcut
    obtain rfl := hwc.symm
    have hpw : IntKind.i64.wrap ((e : Int) - 1) = ((e - 1 : Nat) : Int) := wrap_n _ _ (by have := HE0.out; have := HM.out; have := HX2.out; omega) (by have := HE0.out; have := HDD.out; have := HD.out; have := HM.out; have := HB.out; have := HN.out; have := HL.out; omega)
    obtain ⟨pp, hpp⟩ : ∃ pp, e - 1 = pp := ⟨_, rfl⟩
    rw [hpp] at hpw
    have HPP : Hid (pp + 1 = e) := Lib.hid (by have := HE0.out; have := HM.out; have := HX2.out; omega)
    clear hpp
    go_wp2_with fail
    clear hpw
    go_loopg [20, 21] (ρ0 - σ0) (fun k v20 v21 wr => ∃ (s r σ ρ : Nat), v20 = .int .i64 (s : Int) ∧ v21 = .int .i64 (r : Int) ∧ Hid (a + σ = s) ∧ Hid (a + ρ = r) ∧ Hid (σ + k = ρ) ∧ Hid (σ0 ≤ σ) ∧ Hid (ρ ≤ ρ0) ∧ Hid (σ0 < σ → ∀ x y, X[σ - 1]? = some x → Y[δ - σ]? = some y → le x y) ∧ Hid (ρ < ρ0 → ∀ x y, X[ρ]? = some x → Y[δ - 1 - ρ]? = some y → le y x) ∧
      Hid (Row wr p (P ++ (X ++ (Y ++ S))) rest) ∧ Hid (ExtB p.block w wr))
    case atStart => exact ⟨s0, r0, σ0, ρ0, rfl, rfl, HS0, HR0, Lib.hid (by have := HSR.out; omega), Lib.hid (Nat.le_refl _), Lib.hid (Nat.le_refl _), Lib.hid (fun h => absurd h (Nat.lt_irrefl _)), Lib.hid (fun h => absurd h (Nat.lt_irrefl _)), HR, Lib.hid (ExtB.refl _ _)⟩
    case round =>
      obtain ⟨s, r, σ, ρ, rfl, rfl, HS, HRR, HK, HSL, HRL, HI1, HI2, HRW, HE⟩ := hrel
      have HBOX : Hid (a ≤ 1000 ∧ nx ≤ 1000 ∧ ny ≤ 1000 ∧ δ ≤ 1000 ∧ ρ ≤ nx ∧ ρ ≤ δ ∧ δ ≤ σ + ny ∧ a + nx + ny ≤ N ∧ e = a + δ + (a + nx)) := Lib.hid (by
        have := HE0.out; have := HDD.out; have := HD.out; have := HM.out; have := HB.out; have := HN.out; have := HL.out; have := HRL.out; have := HRX.out; have := HRD.out; have := HDS.out; have := HSL.out
        omega)
      by_cases hij : s < r
      · have hi1 : (s : Int) < (r : Int) := by omega
        obtain ⟨q, hq⟩ : ∃ q, s + r = q := ⟨_, rfl⟩
        obtain ⟨g, hg⟩ : ∃ g, q / 2 = g := ⟨_, rfl⟩
        obtain ⟨γ, hγ⟩ : ∃ γ, g - a = γ := ⟨_, rfl⟩
        obtain ⟨f, hf⟩ : ∃ f, pp - g = f := ⟨_, rfl⟩
        have HG : Hid (a + γ = g ∧ σ ≤ γ ∧ γ < ρ) := Lib.hid (by have := HS.out; have := HRR.out; omega)
        have HF : Hid (m + (δ - 1 - γ) = f ∧ γ + 1 ≤ δ) := Lib.hid (by have := HBOX.out; have := HG.out; have := HPP.out; have := HM.out; omega)
        have hws : IntKind.i64.wrap ((s : Int) + (r : Int)) = (q : Int) := wrap_n _ _ (by omega) (by have := HBOX.out; have := HS.out; have := HRR.out; have := HK.out; omega)
        have hwu : IntKind.u64.wrap (q : Int) = (q : Int) := wrap_un q (by have := HBOX.out; have := HS.out; have := HRR.out; have := HK.out; omega)
        have hdh : (q : Int) / 2 = (g : Int) := half q g hg
        have hwb : IntKind.i64.wrap (g : Int) = (g : Int) := wrap_n _ g rfl (by have := HBOX.out; have := HG.out; omega)
        have hwh : IntKind.i64.wrap ((g : Int) + 1) = ((g + 1 : Nat) : Int) := wrap_n _ _ (by omega) (by have := HBOX.out; have := HG.out; omega)
        have hwf : IntKind.i64.wrap ((pp : Int) - (g : Int)) = (f : Int) := wrap_n _ f (by have := HBOX.out; have := HF.out; have := HG.out; have := HPP.out; have := HM.out; omega) (by have := HBOX.out; have := HF.out; have := HM.out; omega)
        obtain ⟨x, hx⟩ := some_at (l := X) (i := γ) (by have := HBOX.out; have := HG.out; have := HXL.out; omega)
        obtain ⟨y, hy⟩ := some_at (l := Y) (i := δ - 1 - γ) (by have := HBOX.out; have := HG.out; have := HYL.out; omega)
        have HXX := Lib.hid hx
        have HYY := Lib.hid hy
        have hg1 : (g : Int) < (N : Int) := by have := HBOX.out; have := HG.out; omega
        have hg0 : 0 ≤ (g : Int) := by omega
        have hf1 : (f : Int) < (N : Int) := by have := HBOX.out; have := HG.out; have := HF.out; have := HM.out; omega
        have hf0 : 0 ≤ (f : Int) := by omega
        have hax : AtR wr (p.add (g * 27)) (ecells x) := HRW.out.at (get_part _ _ _ (by rw [HA.out]; exact HG.out.1.symm) hx)
        have hay : AtR wr (p.add (f * 27)) (ecells y) := by
          have hr := HRW.out
          rw [← List.append_assoc] at hr
          exact hr.at (get_part _ _ _ (by rw [List.length_append, HA.out, HXL.out, HM.out]; exact HF.out.1.symm) hy)
        clear hij hq hg hγ hf hx hy
        by_cases hlt : pastB y x < 0
        · have HLT : Hid (le y x) := Lib.hid (le_of_lt hlt)
          obtain ⟨t, ht⟩ : ∃ t, pastB y x = t := ⟨_, rfl⟩
          have hcmp : ∀ w', Calls Tryd.prog 19 #[evval y, evval x] w' fun r w'' => r = .returned (.int .i64 t) ∧ Ext w' w'' := fun w' => ht ▸ byPast_calls y x w'
          rw [ht] at hlt
          clear ht
          go_upto_region 35 with (fail)
          refine g_begin (by kernel_rfl) (Ext.refl _) #[false, false, false, false, false, false, false, false, false, false, false, false, false, false] 14 rfl rfl ?_
          refine g_take 0 #[true, false, false, false, false, false, false, false, false, false, false, false, false, false] (N := some 158) rfl rfl (by kernel_rfl) (fun _ _ _ h => h) (GP.p (gy_pure (by rfl) (fun w_ => by go_simp; with_reducible rfl))) (by simp only [Act.put, List.setIfInBounds_toArray, List.set_cons_zero, List.set_cons_succ]; rfl) ?_
          refine g_take 1 #[true, true, false, false, false, false, false, false, false, false, false, false, false, false] (N := some 159) rfl rfl (by kernel_rfl) (fun _ _ _ h => h) (GP.p (gy_pure (by rfl) (fun w_ => by go_simp; with_reducible rfl))) (by simp only [Act.put, List.setIfInBounds_toArray, List.set_cons_zero, List.set_cons_succ]; rfl) ?_
          refine g_take 2 #[true, true, true, false, false, false, false, false, false, false, false, false, false, false] (N := some 160) rfl rfl (by kernel_rfl) (fun _ _ _ h => h) (GP.p (gy_pure (by rfl) (fun w_ => by go_simp; with_reducible rfl))) (by simp only [Act.put, List.setIfInBounds_toArray, List.set_cons_zero, List.set_cons_succ]; rfl) ?_
          refine g_take 3 #[true, true, true, true, false, false, false, false, false, false, false, false, false, false] (N := some 161) rfl rfl (by kernel_rfl) (fun _ _ _ h => h) (GP.p (gy_pure (by rfl) (fun w_ => by go_simp; with_reducible rfl))) (by simp only [Act.put, List.setIfInBounds_toArray, List.set_cons_zero, List.set_cons_succ]; rfl) ?_
          refine g_take 4 #[true, true, true, true, true, false, false, false, false, false, false, false, false, false] (N := some 162) rfl rfl (by kernel_rfl) (fun _ _ _ h => h) (GP.p (gy_pure (by rfl) (fun w_ => by go_simp; with_reducible rfl))) (by simp only [Act.put, List.setIfInBounds_toArray, List.set_cons_zero, List.set_cons_succ]; rfl) ?_
          refine g_take 5 #[true, true, true, true, true, true, false, false, false, false, false, false, false, false] (N := some 163) rfl rfl (by kernel_rfl) (fun _ _ _ h => h) (GP.p (gy_pure (by rfl) (fun w_ => by go_simp; with_reducible rfl))) (by simp only [Act.put, List.setIfInBounds_toArray, List.set_cons_zero, List.set_cons_succ]; rfl) ?_
          refine g_take 6 #[true, true, true, true, true, true, true, false, false, false, false, false, false, false] (N := some 164) rfl rfl (by kernel_rfl) (fun _ _ _ h => h) (GP.rd (by rfl) (gy_rowA (by rfl) rfl (by rfl) hay Tryd.isAgg36 Tryd.sizeOf36 (ecells_len y))) (by simp only [Act.put, List.setIfInBounds_toArray, List.set_cons_zero, List.set_cons_succ]; rfl) ?_
          refine g_take 7 #[true, true, true, true, true, true, true, true, false, false, false, false, false, false] (N := some 165) rfl rfl (by kernel_rfl) (fun _ _ _ h => h) (GP.p (gy_pure (by rfl) (fun w_ => by go_simp; with_reducible rfl))) (by simp only [Act.put, List.setIfInBounds_toArray, List.set_cons_zero, List.set_cons_succ]; rfl) ?_
          refine g_take 8 #[true, true, true, true, true, true, true, true, true, false, false, false, false, false] (N := some 166) rfl rfl (by kernel_rfl) (fun _ _ _ h => h) (GP.p (gy_pure (by rfl) (fun w_ => by go_simp; with_reducible rfl))) (by simp only [Act.put, List.setIfInBounds_toArray, List.set_cons_zero, List.set_cons_succ]; rfl) ?_
          refine g_take 9 #[true, true, true, true, true, true, true, true, true, true, false, false, false, false] (N := some 167) rfl rfl (by kernel_rfl) (fun _ _ _ h => h) (GP.p (gy_pure (by rfl) (fun w_ => by go_simp; with_reducible rfl))) (by simp only [Act.put, List.setIfInBounds_toArray, List.set_cons_zero, List.set_cons_succ]; rfl) ?_
          refine g_take 10 #[true, true, true, true, true, true, true, true, true, true, true, false, false, false] (N := some 168) rfl rfl (by kernel_rfl) (fun _ _ _ h => h) (GP.rd (by rfl) (gy_rowA (by rfl) rfl (by rfl) hax Tryd.isAgg36 Tryd.sizeOf36 (ecells_len x))) (by simp only [Act.put, List.setIfInBounds_toArray, List.set_cons_zero, List.set_cons_succ]; rfl) ?_
          refine g_take 11 #[true, true, true, true, true, true, true, true, true, true, true, true, false, false] (N := some 169) rfl rfl (by kernel_rfl) (fun _ _ _ h => h) (GP.rd (by rfl) (gy_callv (by rfl) rfl (by rfl) Tryd.func19 (by kernel_rfl) rfl #[_, _] (by rfl) (fun w _ => hcmp w))) (by simp only [Act.put, List.setIfInBounds_toArray, List.set_cons_zero, List.set_cons_succ]; rfl) ?_
          refine g_take 12 #[true, true, true, true, true, true, true, true, true, true, true, true, true, false] (N := some 170) rfl rfl (by kernel_rfl) (fun _ _ _ h => h) (GP.p (gy_pure (by rfl) (fun w_ => by go_simp; with_reducible rfl))) (by simp only [Act.put, List.setIfInBounds_toArray, List.set_cons_zero, List.set_cons_succ]; rfl) ?_
          refine g_take 13 #[true, true, true, true, true, true, true, true, true, true, true, true, true, true] (N := some 171) rfl rfl (by kernel_rfl) (fun _ _ _ h => h) (GP.p (gy_pure (by rfl) (fun w_ => by go_simp; with_reducible rfl))) (by simp only [Act.put, List.setIfInBounds_toArray, List.set_cons_zero, List.set_cons_succ]; rfl) ?_
          refine g_done (by kernel_rfl) (fun w1 hw1 => ?_)
          have HE2 : Hid (ExtB p.block w w1) := Lib.hid (HE.out.trans (ExtB.of hw1))
          have HR2 := Lib.hid (HRW.out.ext hw1)
          clear hw1 hcmp hay hax hws hwu
          go_wp2
          go_roundg (γ - σ)
          case measure => have := HG.out; have := HK.out; omega
          case rel => exact ⟨s, g, σ, γ, rfl, rfl, HS, Lib.hid HG.out.1, Lib.hid (by have := HG.out; omega), HSL, Lib.hid (by have := HG.out; have := HRL.out; omega), HI1, Lib.hid (fun _ x' y' h1 h2 => by rw [HXX.out] at h1; rw [HYY.out] at h2; cases h1; cases h2; exact HLT.out), HR2, HE2⟩
        · have HLT : Hid (le x y) := Lib.hid hlt
          obtain ⟨t, ht⟩ : ∃ t, pastB y x = t := ⟨_, rfl⟩
          have hcmp : ∀ w', Calls Tryd.prog 19 #[evval y, evval x] w' fun r w'' => r = .returned (.int .i64 t) ∧ Ext w' w'' := fun w' => ht ▸ byPast_calls y x w'
          rw [ht] at hlt
          clear ht
          go_upto_region 35 with (fail)
          refine g_begin (by kernel_rfl) (Ext.refl _) #[false, false, false, false, false, false, false, false, false, false, false, false, false, false] 14 rfl rfl ?_
          refine g_take 0 #[true, false, false, false, false, false, false, false, false, false, false, false, false, false] (N := some 158) rfl rfl (by kernel_rfl) (fun _ _ _ h => h) (GP.p (gy_pure (by rfl) (fun w_ => by go_simp; with_reducible rfl))) (by simp only [Act.put, List.setIfInBounds_toArray, List.set_cons_zero, List.set_cons_succ]; rfl) ?_
          refine g_take 1 #[true, true, false, false, false, false, false, false, false, false, false, false, false, false] (N := some 159) rfl rfl (by kernel_rfl) (fun _ _ _ h => h) (GP.p (gy_pure (by rfl) (fun w_ => by go_simp; with_reducible rfl))) (by simp only [Act.put, List.setIfInBounds_toArray, List.set_cons_zero, List.set_cons_succ]; rfl) ?_
          refine g_take 2 #[true, true, true, false, false, false, false, false, false, false, false, false, false, false] (N := some 160) rfl rfl (by kernel_rfl) (fun _ _ _ h => h) (GP.p (gy_pure (by rfl) (fun w_ => by go_simp; with_reducible rfl))) (by simp only [Act.put, List.setIfInBounds_toArray, List.set_cons_zero, List.set_cons_succ]; rfl) ?_
          refine g_take 3 #[true, true, true, true, false, false, false, false, false, false, false, false, false, false] (N := some 161) rfl rfl (by kernel_rfl) (fun _ _ _ h => h) (GP.p (gy_pure (by rfl) (fun w_ => by go_simp; with_reducible rfl))) (by simp only [Act.put, List.setIfInBounds_toArray, List.set_cons_zero, List.set_cons_succ]; rfl) ?_
          refine g_take 4 #[true, true, true, true, true, false, false, false, false, false, false, false, false, false] (N := some 162) rfl rfl (by kernel_rfl) (fun _ _ _ h => h) (GP.p (gy_pure (by rfl) (fun w_ => by go_simp; with_reducible rfl))) (by simp only [Act.put, List.setIfInBounds_toArray, List.set_cons_zero, List.set_cons_succ]; rfl) ?_
          refine g_take 5 #[true, true, true, true, true, true, false, false, false, false, false, false, false, false] (N := some 163) rfl rfl (by kernel_rfl) (fun _ _ _ h => h) (GP.p (gy_pure (by rfl) (fun w_ => by go_simp; with_reducible rfl))) (by simp only [Act.put, List.setIfInBounds_toArray, List.set_cons_zero, List.set_cons_succ]; rfl) ?_
          refine g_take 6 #[true, true, true, true, true, true, true, false, false, false, false, false, false, false] (N := some 164) rfl rfl (by kernel_rfl) (fun _ _ _ h => h) (GP.rd (by rfl) (gy_rowA (by rfl) rfl (by rfl) hay Tryd.isAgg36 Tryd.sizeOf36 (ecells_len y))) (by simp only [Act.put, List.setIfInBounds_toArray, List.set_cons_zero, List.set_cons_succ]; rfl) ?_
          refine g_take 7 #[true, true, true, true, true, true, true, true, false, false, false, false, false, false] (N := some 165) rfl rfl (by kernel_rfl) (fun _ _ _ h => h) (GP.p (gy_pure (by rfl) (fun w_ => by go_simp; with_reducible rfl))) (by simp only [Act.put, List.setIfInBounds_toArray, List.set_cons_zero, List.set_cons_succ]; rfl) ?_
          refine g_take 8 #[true, true, true, true, true, true, true, true, true, false, false, false, false, false] (N := some 166) rfl rfl (by kernel_rfl) (fun _ _ _ h => h) (GP.p (gy_pure (by rfl) (fun w_ => by go_simp; with_reducible rfl))) (by simp only [Act.put, List.setIfInBounds_toArray, List.set_cons_zero, List.set_cons_succ]; rfl) ?_
          refine g_take 9 #[true, true, true, true, true, true, true, true, true, true, false, false, false, false] (N := some 167) rfl rfl (by kernel_rfl) (fun _ _ _ h => h) (GP.p (gy_pure (by rfl) (fun w_ => by go_simp; with_reducible rfl))) (by simp only [Act.put, List.setIfInBounds_toArray, List.set_cons_zero, List.set_cons_succ]; rfl) ?_
          refine g_take 10 #[true, true, true, true, true, true, true, true, true, true, true, false, false, false] (N := some 168) rfl rfl (by kernel_rfl) (fun _ _ _ h => h) (GP.rd (by rfl) (gy_rowA (by rfl) rfl (by rfl) hax Tryd.isAgg36 Tryd.sizeOf36 (ecells_len x))) (by simp only [Act.put, List.setIfInBounds_toArray, List.set_cons_zero, List.set_cons_succ]; rfl) ?_
          refine g_take 11 #[true, true, true, true, true, true, true, true, true, true, true, true, false, false] (N := some 169) rfl rfl (by kernel_rfl) (fun _ _ _ h => h) (GP.rd (by rfl) (gy_callv (by rfl) rfl (by rfl) Tryd.func19 (by kernel_rfl) rfl #[_, _] (by rfl) (fun w _ => hcmp w))) (by simp only [Act.put, List.setIfInBounds_toArray, List.set_cons_zero, List.set_cons_succ]; rfl) ?_
          refine g_take 12 #[true, true, true, true, true, true, true, true, true, true, true, true, true, false] (N := some 170) rfl rfl (by kernel_rfl) (fun _ _ _ h => h) (GP.p (gy_pure (by rfl) (fun w_ => by go_simp; with_reducible rfl))) (by simp only [Act.put, List.setIfInBounds_toArray, List.set_cons_zero, List.set_cons_succ]; rfl) ?_
          refine g_take 13 #[true, true, true, true, true, true, true, true, true, true, true, true, true, true] (N := some 171) rfl rfl (by kernel_rfl) (fun _ _ _ h => h) (GP.p (gy_pure (by rfl) (fun w_ => by go_simp; with_reducible rfl))) (by simp only [Act.put, List.setIfInBounds_toArray, List.set_cons_zero, List.set_cons_succ]; rfl) ?_
          refine g_done (by kernel_rfl) (fun w1 hw1 => ?_)
          have HE2 : Hid (ExtB p.block w w1) := Lib.hid (HE.out.trans (ExtB.of hw1))
          have HR2 := Lib.hid (HRW.out.ext hw1)
          clear hw1 hcmp hay hax hws hwu
          go_wp2
          go_roundg (ρ - (γ + 1))
          case measure => have := HG.out; have := HK.out; omega
          case rel => exact ⟨g + 1, r, γ + 1, ρ, rfl, rfl, Lib.hid (by have := HG.out; omega), HRR, Lib.hid (by have := HG.out; omega), Lib.hid (by have := HG.out; have := HSL.out; omega), HRL, Lib.hid (fun _ x' y' h1 h2 => by
              rw [Nat.add_sub_cancel] at h1
              rw [show δ - (γ + 1) = δ - 1 - γ by omega] at h2
              rw [HXX.out] at h1; rw [HYY.out] at h2; cases h1; cases h2; exact HLT.out), HI2, HR2, HE2⟩
      · have hi1 : ¬ (s : Int) < (r : Int) := by omega
        have hσ : ρ = σ := by have := HS.out; have := HRR.out; have := HK.out; omega
        subst hσ
        obtain ⟨t, ht⟩ : ∃ t, e - s = t := ⟨_, rfl⟩
        have HT : Hid (m + (δ - ρ) = t) := Lib.hid (by have := HBOX.out; have := HS.out; have := HM.out; omega)
        have hwt : IntKind.i64.wrap ((e : Int) - (s : Int)) = (t : Int) := wrap_n _ t (by have := HBOX.out; have := HS.out; omega) (by have := HBOX.out; have := HM.out; have := HT.out; omega)
        obtain ⟨X1, X2, rfl, hX1, hX2⟩ := split_at (l := X) (k := ρ) (by have := HBOX.out; have := HXL.out; omega)
        obtain ⟨Y1, Y2, rfl, hY1, hY2⟩ := split_at (l := Y) (k := δ - ρ) (by have := HBOX.out; have := HYL.out; omega)
        rw [HXL.out] at hX2
        rw [HYL.out] at hY2
        have HX1 := Lib.hid hX1
        have HX2L := Lib.hid hX2
        have HY1 := Lib.hid hY1
        have HY2L := Lib.hid hY2
        have hsX := srt_app.1 HX.out
        have hsY := srt_app.1 HY.out
        have HC1 : Hid (∀ x ∈ X1, ∀ y ∈ Y2, le x y) := Lib.hid (cross hsX.1 hsY.2.1 (fun x y h1 h2 => by
          have hx1 : 0 < X1.length := by cases X1 with | nil => cases h1 | cons _ _ => simp
          have hy2 : 0 < Y2.length := by cases Y2 with | nil => cases h2 | cons _ _ => simp
          have hlt : σ0 < ρ := by have := HSL.out; have := HSO.out; omega
          refine HI1.out hlt x y ?_ ?_
          · rw [List.getElem?_append_left (by omega), ← hX1, ← List.getLast?_eq_getElem?]
            exact h1
          · rw [List.getElem?_append_right (by omega), ← hY1, Nat.sub_self, ← List.head?_eq_getElem?]
            exact h2))
        have HC2 : Hid (∀ y ∈ Y1, ∀ x ∈ X2, le y x) := Lib.hid (cross hsY.1 hsX.2.1 (fun y x h1 h2 => by
          have hy1 : 0 < Y1.length := by cases Y1 with | nil => cases h1 | cons _ _ => simp
          have hx2 : 0 < X2.length := by cases X2 with | nil => cases h2 | cons _ _ => simp
          have hlt : ρ < ρ0 := by have := HRL.out; have := HRO.out; omega
          refine HI2.out hlt x y ?_ ?_
          · rw [List.getElem?_append_right (by omega), ← hX1, Nat.sub_self, ← List.head?_eq_getElem?]
            exact h2
          · rw [List.getElem?_append_left (by omega), show δ - 1 - ρ = Y1.length - 1 by omega, ← List.getLast?_eq_getElem?]
            exact h1))
        have HSX1 := Lib.hid hsX.1
        have HSX2 := Lib.hid hsX.2.1
        have HSY1 := Lib.hid hsY.1
        have HSY2 := Lib.hid hsY.2.1
        have HSM : Hid (s = a + ρ) := Lib.hid HS.out.symm
        have HB2 : Hid (b = m + ny ∧ m = a + nx ∧ d = a + δ) := Lib.hid ⟨HB.out.symm, HM.out.symm, HDD.out.symm⟩
        clear hX1 hX2 hY1 hY2 hsX hsY ht HI1 HI2 hij

        go_upto_region 39 with (fail)
        clear hwt
        go_cut [185] from 178 to 185 (fun v185 wx => ∃ β : Bool, v185 = .bool β ∧ Hid (β = decide (ρ < nx ∧ ρ < δ)) ∧ wx = wr)
        case first =>
          by_cases h1 : ρ < nx
          · have hg1 : (s : Int) < (m : Int) := by have := HSM.out; have := HB2.out; omega
            by_cases h2 : ρ < δ
            · have hg2 : (m : Int) < (t : Int) := by have := HT.out; omega
              go_wp2_with fail
              go_meet
              case rel => exact ⟨_, rfl, Lib.hid (by simp [h1, h2]), rfl⟩
            · have hg2 : ¬ (m : Int) < (t : Int) := by have := HT.out; omega
              go_wp2_with fail
              go_meet
              case rel => exact ⟨_, rfl, Lib.hid (by simp [h1, h2]), rfl⟩
          · have hg1 : ¬ (s : Int) < (m : Int) := by have := HSM.out; have := HB2.out; omega
            go_wp2_with fail
            go_meet
            case rel => exact ⟨_, rfl, Lib.hid (by simp [h1]), rfl⟩
        case rest =>
          obtain ⟨β, rfl, HBE, hwc⟩ := hcut
          obtain rfl := hwc.symm
          go_upto_if 185 with (fail)
          go_cut [] from 185 to 191 (fun wx => Hid (Row wx p (P ++ (X1 ++ (Y1 ++ (X2 ++ (Y2 ++ S))))) rest) ∧ Hid (ExtB p.block w wx))
          case first =>
            rcases Bool.eq_false_or_eq_true β with rfl | rfl
            · have HH : Hid (ρ < nx ∧ ρ < δ) := Lib.hid (of_decide_eq_true HBE.out.symm)
              have HR1 : Hid (Row wr p ((P ++ X1) ++ (X2 ++ (Y1 ++ (Y2 ++ S)))) rest) := Lib.hid (by have h := HRW.out; simpa using h)
              go_upto_region 40 with (fail)
              refine gl_begin (Ext.refl _) ?_
              refine gl_take (N := some 186) rfl (Yields.gy (gy_pure (by rfl) (fun w_ => by go_simp; with_reducible rfl))) (by simp only [Act.put, List.setIfInBounds_toArray, List.set_cons_zero, List.set_cons_succ]; rfl) ?_
              refine gl_take (N := some 187) rfl (Yields.gy (gy_pure (by rfl) (fun w_ => by go_simp; with_reducible rfl))) (by simp only [Act.put, List.setIfInBounds_toArray, List.set_cons_zero, List.set_cons_succ]; rfl) ?_
              refine gl_take (N := some 188) rfl (Yields.gy (gy_pure (by rfl) (fun w_ => by go_simp; with_reducible rfl))) (by simp only [Act.put, List.setIfInBounds_toArray, List.set_cons_zero, List.set_cons_succ]; rfl) ?_
              refine gl_take (N := some 189) rfl (Yields.gy (gy_pure (by rfl) (fun w_ => by go_simp; with_reducible rfl))) (by simp only [Act.put, List.setIfInBounds_toArray, List.set_cons_zero, List.set_cons_succ]; rfl) ?_
              refine gl_take (N := some 190) rfl (Yields.gy (gy_pure (by rfl) (fun w_ => by go_simp; with_reducible rfl))) (by simp only [Act.put, List.setIfInBounds_toArray, List.set_cons_zero, List.set_cons_succ]; rfl) ?_
              refine gl_eff (by rfl) (fun w2 hw2 => ?_)
              refine wp_callF rfl Tryd.func49 (by kernel_rfl) rfl #[.slice (some p) N c, .int .i64 (s : Int), .int .i64 (m : Int), .int .i64 (t : Int), .func (.func 19) #[] #[]] (by rfl) ((rotate_calls (P ++ X1) X2 Y1 (Y2 ++ S) rest p N c s m t _ w2 (HR1.out.ext hw2) (by rw [HX2L.out]; have := HH.out; omega) (by rw [HY1.out]; have := HH.out; omega) ?_ (by rw [List.length_append, HA.out, HX1.out, HSM.out]) (by rw [HX2L.out, HSM.out]; have := HB2.out; have := HBOX.out; omega) (by rw [HY1.out]; exact HT.out) HL.out).mono ?_)
              · simp only [List.length_append]
                rw [HX1.out, HX2L.out, HY1.out, HY2L.out, HA.out]
                have := HB2.out; have := HBOX.out; have := HN.out
                omega
              rintro r w3 ⟨rfl, hR3, hE3⟩
              refine ⟨_, rfl, wpl_nil ?_⟩
              have HR3 : Hid (Row w3 p (P ++ (X1 ++ (Y1 ++ (X2 ++ (Y2 ++ S))))) rest) := Lib.hid (by simpa using hR3)
              have HE3 : Hid (ExtB p.block w w3) := Lib.hid ((HE.out.trans (ExtB.of hw2)).trans hE3)
              clear hR3 hE3 hw2 HR1
              go_wp2_with fail
              go_meet
              case rel => exact ⟨HR3, HE3⟩
            · have hh : ¬ (ρ < nx ∧ ρ < δ) := of_decide_eq_false HBE.out.symm
              have HR3 : Hid (Row wr p (P ++ (X1 ++ (Y1 ++ (X2 ++ (Y2 ++ S))))) rest) := Lib.hid (by
                have h := HRW.out
                by_cases h1 : ρ < nx
                · have : Y1 = [] := List.length_eq_zero_iff.1 (by rw [HY1.out]; omega)
                  subst this
                  simpa using h
                · have : X2 = [] := List.length_eq_zero_iff.1 (by rw [HX2L.out]; omega)
                  subst this
                  simpa using h)
              clear hh
              go_wp2_with fail
              go_meet
              case rel => exact ⟨HR3, HE⟩
          case rest =>
            obtain ⟨HR4, HE4⟩ := hcut
            clear HE HRW HR

            go_upto_region 41 with (fail)
            go_cut [199] from 192 to 199 (fun v199 wx => ∃ β : Bool, v199 = .bool β ∧ Hid (β = decide (0 < ρ ∧ ρ < δ)) ∧ wx = wc)
            case first =>
              by_cases h1 : 0 < ρ
              · have hg1 : (a : Int) < (s : Int) := by have := HSM.out; omega
                by_cases h2 : ρ < δ
                · have hg2 : (s : Int) < (d : Int) := by have := HSM.out; have := HB2.out; omega
                  go_wp2_with fail
                  go_meet
                  case rel => exact ⟨_, rfl, Lib.hid (by simp [h1, h2]), rfl⟩
                · have hg2 : ¬ (s : Int) < (d : Int) := by have := HSM.out; have := HB2.out; omega
                  go_wp2_with fail
                  go_meet
                  case rel => exact ⟨_, rfl, Lib.hid (by simp [h1, h2]), rfl⟩
              · have hg1 : ¬ (a : Int) < (s : Int) := by have := HSM.out; omega
                go_wp2_with fail
                go_meet
                case rel => exact ⟨_, rfl, Lib.hid (by simp [h1]), rfl⟩
            case rest =>
              obtain ⟨β, rfl, HBE, hwc⟩ := hcut
              obtain rfl := hwc.symm
              go_upto_if 199 with (fail)
              go_cut [] from 199 to 205 (fun wx => ∃ M1, Hid (M1.Perm (X1 ++ Y1)) ∧ Hid (Srt M1) ∧ Hid (Row wx p (P ++ (M1 ++ (X2 ++ (Y2 ++ S)))) rest) ∧ Hid (ExtB p.block w wx))
              case first =>
                rcases Bool.eq_false_or_eq_true β with rfl | rfl
                · have HH : Hid (0 < ρ ∧ ρ < δ) := Lib.hid (of_decide_eq_true HBE.out.symm)
                  go_upto_region 42 with (fail)
                  refine gl_begin (Ext.refl _) ?_
                  refine gl_take (N := some 200) rfl (Yields.gy (gy_pure (by rfl) (fun w_ => by go_simp; with_reducible rfl))) (by simp only [Act.put, List.setIfInBounds_toArray, List.set_cons_zero, List.set_cons_succ]; rfl) ?_
                  refine gl_take (N := some 201) rfl (Yields.gy (gy_pure (by rfl) (fun w_ => by go_simp; with_reducible rfl))) (by simp only [Act.put, List.setIfInBounds_toArray, List.set_cons_zero, List.set_cons_succ]; rfl) ?_
                  refine gl_take (N := some 202) rfl (Yields.gy (gy_pure (by rfl) (fun w_ => by go_simp; with_reducible rfl))) (by simp only [Act.put, List.setIfInBounds_toArray, List.set_cons_zero, List.set_cons_succ]; rfl) ?_
                  refine gl_take (N := some 203) rfl (Yields.gy (gy_pure (by rfl) (fun w_ => by go_simp; with_reducible rfl))) (by simp only [Act.put, List.setIfInBounds_toArray, List.set_cons_zero, List.set_cons_succ]; rfl) ?_
                  refine gl_take (N := some 204) rfl (Yields.gy (gy_pure (by rfl) (fun w_ => by go_simp; with_reducible rfl))) (by simp only [Act.put, List.setIfInBounds_toArray, List.set_cons_zero, List.set_cons_succ]; rfl) ?_
                  refine gl_eff (by rfl) (fun w2 hw2 => ?_)
                  refine wp_callF rfl Tryd.func41 (by kernel_rfl) rfl #[.slice (some p) N c, .int .i64 (a : Int), .int .i64 (s : Int), .int .i64 (d : Int), .func (.func 19) #[] #[]] (by rfl) ((HIH.out P X1 Y1 (X2 ++ (Y2 ++ S)) rest p N c a s d w2 ?_ (HR4.out.ext hw2) (by rw [HX1.out]; exact HH.out.1) (by rw [HY1.out]; have := HH.out; omega) HSX1.out HSY1.out ?_ HA.out (by rw [HX1.out, HSM.out]) (by rw [HY1.out, HSM.out]; have := HB2.out; have := HBOX.out; omega) HL.out).mono ?_)
                  · rw [HX1.out, HY1.out]
                    have := HKK.out; have := HD.out; have := HX2.out; have := HY2.out; have := HBOX.out
                    omega
                  · simp only [List.length_append]
                    rw [HX1.out, HX2L.out, HY1.out, HY2L.out, HA.out]
                    have := HB2.out; have := HBOX.out; have := HN.out
                    omega
                  rintro r w3 ⟨M1, hp1, hs1, rfl, hR3, hE3⟩
                  refine ⟨_, rfl, wpl_nil ?_⟩
                  have HP1 := Lib.hid hp1
                  have HS1 := Lib.hid hs1
                  have HR3 := Lib.hid hR3
                  have HE3 : Hid (ExtB p.block w w3) := Lib.hid ((HE4.out.trans (ExtB.of hw2)).trans hE3)
                  clear hR3 hE3 hw2 hp1 hs1
                  go_wp2_with fail
                  go_meet
                  case rel => exact ⟨M1, HP1, HS1, HR3, HE3⟩
                · have hh : ¬ (0 < ρ ∧ ρ < δ) := of_decide_eq_false HBE.out.symm
                  have HS1 : Hid (Srt (X1 ++ Y1)) := Lib.hid (by
                    by_cases h1 : 0 < ρ
                    · have : Y1 = [] := List.length_eq_zero_iff.1 (by rw [HY1.out]; omega)
                      subst this
                      simpa using HSX1.out
                    · have : X1 = [] := List.length_eq_zero_iff.1 (by rw [HX1.out]; omega)
                      subst this
                      simpa using HSY1.out)
                  clear hh
                  go_wp2_with fail
                  go_meet
                  case rel => exact ⟨X1 ++ Y1, Lib.hid (List.Perm.refl _), HS1, Lib.hid (by have h := HR4.out; simpa using h), HE4⟩
              case rest =>
                obtain ⟨M1, HP1, HS1, HR5, HE5⟩ := hcut
                have HML : Hid (M1.length = δ) := Lib.hid (by rw [HP1.out.length_eq, List.length_append, HX1.out, HY1.out]; have := HBOX.out; omega)
                clear HE4 HR4

                go_upto_region 43 with (fail)
                go_cut [213] from 206 to 213 (fun v213 wx => ∃ β : Bool, v213 = .bool β ∧ Hid (β = decide (ρ < nx ∧ δ < ρ + ny)) ∧ wx = wc)
                case first =>
                  by_cases h1 : ρ < nx
                  · have hg1 : (d : Int) < (t : Int) := by have := HT.out; have := HB2.out; have := HBOX.out; omega
                    by_cases h2 : δ < ρ + ny
                    · have hg2 : (t : Int) < (b : Int) := by have := HT.out; have := HB2.out; have := HBOX.out; omega
                      go_wp2_with fail
                      go_meet
                      case rel => exact ⟨_, rfl, Lib.hid (by simp [h1, h2]), rfl⟩
                    · have hg2 : ¬ (t : Int) < (b : Int) := by have := HT.out; have := HB2.out; have := HBOX.out; omega
                      go_wp2_with fail
                      go_meet
                      case rel => exact ⟨_, rfl, Lib.hid (by simp [h1, h2]), rfl⟩
                  · have hg1 : ¬ (d : Int) < (t : Int) := by have := HT.out; have := HB2.out; have := HBOX.out; omega
                    go_wp2_with fail
                    go_meet
                    case rel => exact ⟨_, rfl, Lib.hid (by simp [h1]), rfl⟩
                case rest =>
                  obtain ⟨β, rfl, HBE, hwc⟩ := hcut
                  obtain rfl := hwc.symm
                  have FIN : Hid (∀ (M2 : List Ev), M2.Perm (X2 ++ Y2) → Srt M2 → (M1 ++ M2).Perm ((X1 ++ X2) ++ (Y1 ++ Y2)) ∧ Srt (M1 ++ M2)) := Lib.hid (by
                    intro M2 hp2 hs2
                    refine ⟨?_, srt_app.2 ⟨HS1.out, hs2, fun x hx y hy => ?_⟩⟩
                    · refine (HP1.out.append hp2).trans ?_
                      have h : ((X1 ++ Y1) ++ (X2 ++ Y2)).Perm (X1 ++ (X2 ++ (Y1 ++ Y2))) := by
                        rw [List.append_assoc]
                        refine List.Perm.append_left X1 ?_
                        rw [← List.append_assoc, ← List.append_assoc]
                        exact List.Perm.append_right Y2 List.perm_append_comm
                      simpa using h
                    · have hx' := HP1.out.mem_iff.1 hx
                      have hy' := hp2.mem_iff.1 hy
                      rcases List.mem_append.1 hx' with hx' | hx' <;> rcases List.mem_append.1 hy' with hy' | hy'
                      · exact (srt_app.1 HX.out).2.2 x hx' y hy'
                      · exact HC1.out x hx' y hy'
                      · exact HC2.out x hx' y hy'
                      · exact (srt_app.1 HY.out).2.2 x hx' y hy')
                  rcases Bool.eq_false_or_eq_true β with rfl | rfl
                  · have HH : Hid (ρ < nx ∧ δ < ρ + ny) := Lib.hid (of_decide_eq_true HBE.out.symm)
                    have HR6 : Hid (Row wc p ((P ++ M1) ++ (X2 ++ (Y2 ++ S))) rest) := Lib.hid (by have h := HR5.out; simpa using h)
                    go_upto_region 44 with (fail)
                    refine gl_begin (Ext.refl _) ?_
                    refine gl_take (N := some 214) rfl (Yields.gy (gy_pure (by rfl) (fun w_ => by go_simp; with_reducible rfl))) (by simp only [Act.put, List.setIfInBounds_toArray, List.set_cons_zero, List.set_cons_succ]; rfl) ?_
                    refine gl_take (N := some 215) rfl (Yields.gy (gy_pure (by rfl) (fun w_ => by go_simp; with_reducible rfl))) (by simp only [Act.put, List.setIfInBounds_toArray, List.set_cons_zero, List.set_cons_succ]; rfl) ?_
                    refine gl_take (N := some 216) rfl (Yields.gy (gy_pure (by rfl) (fun w_ => by go_simp; with_reducible rfl))) (by simp only [Act.put, List.setIfInBounds_toArray, List.set_cons_zero, List.set_cons_succ]; rfl) ?_
                    refine gl_take (N := some 217) rfl (Yields.gy (gy_pure (by rfl) (fun w_ => by go_simp; with_reducible rfl))) (by simp only [Act.put, List.setIfInBounds_toArray, List.set_cons_zero, List.set_cons_succ]; rfl) ?_
                    refine gl_take (N := some 218) rfl (Yields.gy (gy_pure (by rfl) (fun w_ => by go_simp; with_reducible rfl))) (by simp only [Act.put, List.setIfInBounds_toArray, List.set_cons_zero, List.set_cons_succ]; rfl) ?_
                    refine gl_eff (by rfl) (fun w2 hw2 => ?_)
                    refine wp_callF rfl Tryd.func41 (by kernel_rfl) rfl #[.slice (some p) N c, .int .i64 (d : Int), .int .i64 (t : Int), .int .i64 (b : Int), .func (.func 19) #[] #[]] (by rfl) ((HIH.out (P ++ M1) X2 Y2 S rest p N c d t b w2 ?_ (HR6.out.ext hw2) (by rw [HX2L.out]; have := HH.out; omega) (by rw [HY2L.out]; have := HH.out; have := HBOX.out; have := HY2.out; omega) HSX2.out HSY2.out ?_ (by rw [List.length_append, HA.out, HML.out]; exact HB2.out.2.2.symm) (by rw [HX2L.out]; have := HT.out; have := HB2.out; have := HBOX.out; omega) (by rw [HY2L.out]; have := HT.out; have := HB2.out; have := HBOX.out; omega) HL.out).mono ?_)
                    · rw [HX2L.out, HY2L.out]
                      have := HKK.out; have := HD.out; have := HX2.out; have := HY2.out; have := HBOX.out
                      omega
                    · simp only [List.length_append]
                      rw [HML.out, HX2L.out, HY2L.out, HA.out]
                      have := HB2.out; have := HBOX.out; have := HN.out
                      omega
                    rintro r w3 ⟨M2, hp2, hs2, rfl, hR3, hE3⟩
                    refine ⟨_, rfl, wpl_nil ?_⟩
                    have HFF := Lib.hid (FIN.out M2 hp2 hs2)
                    have HR3 := Lib.hid hR3
                    have HE3 : Hid (ExtB p.block w w3) := Lib.hid ((HE5.out.trans (ExtB.of hw2)).trans hE3)
                    clear hR3 hE3 hw2 hp2 hs2
                    go_wp2
                    go_end0
                    exact ⟨M1 ++ M2, by have h := HFF.out.1; simpa using h, HFF.out.2, rfl, by have h := HR3.out; simpa using h, HE3.out⟩
                  · have hh : ¬ (ρ < nx ∧ δ < ρ + ny) := of_decide_eq_false HBE.out.symm
                    have HFF : Hid _ := Lib.hid (FIN.out (X2 ++ Y2) (List.Perm.refl _) (by
                      by_cases h1 : ρ < nx
                      · have : Y2 = [] := List.length_eq_zero_iff.1 (by rw [HY2L.out]; omega)
                        subst this
                        simpa using HSX2.out
                      · have : X2 = [] := List.length_eq_zero_iff.1 (by rw [HX2L.out]; omega)
                        subst this
                        simpa using HSY2.out))
                    clear hh
                    go_wp2
                    go_end0
                    exact ⟨M1 ++ (X2 ++ Y2), by have h := HFF.out.1; simpa using h, HFF.out.2, rfl, by have h := HR5.out; simpa using h, HE5.out⟩
theorem merges : ∀ K, MergesTo K
  | 0 => fun P X Y S rest p N c a m b w hK _ h1 h2 _ _ _ _ _ _ _ => absurd hK (by omega)
  | K + 1 => by
    intro P X Y S rest p N c a m b w hK hR h1 h2 hX hY hN ha hm hb hl
    by_cases hx : X.length = 1
    · obtain ⟨x, rfl⟩ := List.length_eq_one_iff.1 hx
      exact symMerge_one P Y S x rest p N c a m b w hR hY hN ha hm hb hl
    · by_cases hy : Y.length = 1
      · obtain ⟨y, rfl⟩ := List.length_eq_one_iff.1 hy
        exact symMerge_last P X S y rest p N c a m b w hR hX hx hN ha hm hb hl
      · exact symMerge_step K (merges K) P X Y S rest p N c a m b X.length Y.length w hK hR hX hY rfl rfl (by omega) (by omega) hN ha hm hb hl
end Go.Proofs.YthmnohecmmknpaaDoor.Vec
namespace Go.Proofs.YthmnohecmmknpaaDoor.Vec
open Go.RowKit Go.Proofs.YthmnohecmmknpaaDoorW.PrintWords Go.Proofs.YthmnohecmmknpaaDoorW.PrintLast Go.Proofs.YthmnohecmmknpaaDoor.Given Go.Proofs.YthmnohecmmknpaaDoor.PA Go.Proofs.YthmnohecmmknpaaDoor.Val
set_option linter.unusedVariables false
set_option linter.unusedSimpArgs false
set_option maxRecDepth 100000
inductive Bl (q : Nat) : List Ev → Prop
  | nil : Bl q []
  | cons {X l : List Ev} : X.length = q → Srt X → Bl q l → Bl q (X ++ l)
theorem Bl.one {q : Nat} {X : List Ev} (h : X.length = q) (hs : Srt X) : Bl q X := by
  have := Bl.cons h hs Bl.nil
  rwa [List.append_nil] at this
theorem Bl.snoc {q : Nat} {l X : List Ev} (h : Bl q l) (hX : X.length = q) (hs : Srt X) : Bl q (l ++ X) := by
  induction h with
  | nil => exact Bl.one hX hs
  | cons h1 h2 _ ih =>
    rw [List.append_assoc]
    exact Bl.cons h1 h2 ih
theorem Bl.split {q : Nat} {l : List Ev} (h : Bl q l) (hl : 0 < l.length) : ∃ X l', l = X ++ l' ∧ X.length = q ∧ Srt X ∧ Bl q l' := by
  cases h with
  | nil => cases hl
  | cons h1 h2 h3 => exact ⟨_, _, rfl, h1, h2, h3⟩
def StPost (p : Addr) (l : List Ev) (rest : List Value) (w : World) (r : Ending) (w' : World) : Prop := ∃ l', l'.Perm l ∧ Srt l' ∧ RowPost p l' rest w r w'
set_option maxHeartbeats 8000000 in
theorem stable_calls (l : List Ev) (rest : List Value) (p : Addr) (n c : Nat) (w : World) (hR : Row w p l rest) (hn : l.length = n) (hl : n ≤ 1000) :
    Calls Tryd.prog 28 #[.slice (some p) n c, .int .i64 (n : Int), .func (.func 19) #[] #[]] w (StPost p l rest w) := by
  have HR := Lib.hid hR
  have HN := Lib.hid hn
  have HL := Lib.hid hl
  clear hR hn hl
  go_enter Tryd.func28, Tryd.ntmps28
  go_wp2_with fail
  go_loopg [7, 8] n (fun k v7 v8 wr => ∃ (a b : Nat) (D R : List Ev), v7 = .int .i64 (a : Int) ∧ v8 = .int .i64 (b : Int) ∧ Hid (D.length = a) ∧ Hid (a + 20 = b) ∧ Hid (R.length = k) ∧ Hid (Bl 20 D) ∧ Hid ((D ++ R).Perm l) ∧ Hid (Row wr p (D ++ R) rest) ∧ Hid (ExtB p.block w wr))
  case atStart => exact ⟨0, 20, [], l, rfl, rfl, Lib.hid rfl, Lib.hid rfl, HN, Lib.hid Bl.nil, Lib.hid (List.Perm.refl _), HR, Lib.hid (ExtB.refl _ _)⟩
  case round =>
    obtain ⟨a, b, D, R, rfl, rfl, HA, HB, HK, HBL, HP, HRW, HE⟩ := hrel
    have HLEN : Hid (a + R.length = n) := Lib.hid (by have h := HP.out.length_eq; rw [List.length_append, HA.out, HN.out] at h; exact h)
    by_cases hb : b ≤ n
    · have hb1 : (b : Int) ≤ (n : Int) := by omega
      obtain ⟨X, R2, rfl, hX, hR2⟩ := split_at (l := R) (k := 20) (by have := HLEN.out; have := HB.out; omega)
      have HX := Lib.hid hX
      have HBN := Lib.hid hb
      have hwb : IntKind.i64.wrap ((b : Int) + 20) = ((b + 20 : Nat) : Int) := wrap_n _ _ (by omega) (by have := HL.out; omega)
      clear hX hR2 hb
      go_upto_region 3 with (fail)
      refine gl_begin (Ext.refl _) ?_
      refine gl_take (N := some 14) rfl (Yields.gy (gy_pure (by rfl) (fun w_ => by go_simp; with_reducible rfl))) (by simp only [Act.put, List.setIfInBounds_toArray, List.set_cons_zero, List.set_cons_succ]; rfl) ?_
      refine gl_take (N := some 15) rfl (Yields.gy (gy_pure (by rfl) (fun w_ => by go_simp; with_reducible rfl))) (by simp only [Act.put, List.setIfInBounds_toArray, List.set_cons_zero, List.set_cons_succ]; rfl) ?_
      refine gl_take (N := some 16) rfl (Yields.gy (gy_pure (by rfl) (fun w_ => by go_simp; with_reducible rfl))) (by simp only [Act.put, List.setIfInBounds_toArray, List.set_cons_zero, List.set_cons_succ]; rfl) ?_
      refine gl_take (N := some 17) rfl (Yields.gy (gy_pure (by rfl) (fun w_ => by go_simp; with_reducible rfl))) (by simp only [Act.put, List.setIfInBounds_toArray, List.set_cons_zero, List.set_cons_succ]; rfl) ?_
      refine gl_eff (by rfl) (fun w2 hw2 => ?_)
      refine wp_callF rfl Tryd.func40 (by kernel_rfl) rfl #[.slice (some p) n c, .int .i64 (a : Int), .int .i64 (b : Int), .func (.func 19) #[] #[]] (by rfl) ((insertionSort_calls D X R2 rest p n c a b w2 (HRW.out.ext hw2) (by have h := HLEN.out; simp only [List.length_append] at h ⊢; rw [HA.out]; omega) HA.out (by rw [HX.out]; exact HB.out) HL.out).mono ?_)
      rintro r w3 ⟨M, hp, hs, rfl, hR3, hE3⟩
      refine ⟨_, rfl, wpl_nil ?_⟩
      have HP3 := Lib.hid hp
      have HS3 := Lib.hid hs
      have HR3 := Lib.hid hR3
      have HE3 : Hid (ExtB p.block w w3) := Lib.hid ((HE.out.trans (ExtB.of hw2)).trans hE3)
      have HML : Hid (M.length = 20) := Lib.hid (by rw [HP3.out.length_eq, HX.out])
      clear hR3 hE3 hw2 hp hs
      go_wp2
      go_roundg R2.length
      case measure => have h := HK.out; rw [List.length_append, HX.out] at h; omega
      case rel => exact ⟨b, b + 20, D ++ M, R2, rfl, rfl, Lib.hid (by rw [List.length_append, HA.out, HML.out]; exact HB.out), Lib.hid rfl, Lib.hid rfl, Lib.hid (HBL.out.snoc HML.out HS3.out), Lib.hid (by
          refine List.Perm.trans ?_ HP.out
          rw [List.append_assoc]
          exact List.Perm.append_left D (List.Perm.append_right R2 HP3.out)), Lib.hid (by have h := HR3.out; simpa using h), HE3⟩
    · have hb1 : ¬ (b : Int) ≤ (n : Int) := by omega
      have HRS : Hid (R.length < 20) := Lib.hid (by have := HLEN.out; have := HB.out; omega)
      have HR1 : Hid (Row wr p (D ++ (R ++ [])) rest) := Lib.hid (by have h := HRW.out; simpa using h)
      clear hb
      go_upto_region 6 with (fail)
      refine gl_begin (Ext.refl _) ?_
      refine gl_take (N := some 23) rfl (Yields.gy (gy_pure (by rfl) (fun w_ => by go_simp; with_reducible rfl))) (by simp only [Act.put, List.setIfInBounds_toArray, List.set_cons_zero, List.set_cons_succ]; rfl) ?_
      refine gl_take (N := some 24) rfl (Yields.gy (gy_pure (by rfl) (fun w_ => by go_simp; with_reducible rfl))) (by simp only [Act.put, List.setIfInBounds_toArray, List.set_cons_zero, List.set_cons_succ]; rfl) ?_
      refine gl_take (N := some 25) rfl (Yields.gy (gy_pure (by rfl) (fun w_ => by go_simp; with_reducible rfl))) (by simp only [Act.put, List.setIfInBounds_toArray, List.set_cons_zero, List.set_cons_succ]; rfl) ?_
      refine gl_take (N := some 26) rfl (Yields.gy (gy_pure (by rfl) (fun w_ => by go_simp; with_reducible rfl))) (by simp only [Act.put, List.setIfInBounds_toArray, List.set_cons_zero, List.set_cons_succ]; rfl) ?_
      refine gl_eff (by rfl) (fun w2 hw2 => ?_)
      refine wp_callF rfl Tryd.func40 (by kernel_rfl) rfl #[.slice (some p) n c, .int .i64 (a : Int), .int .i64 (n : Int), .func (.func 19) #[] #[]] (by rfl) ((insertionSort_calls D R [] rest p n c a n w2 (HR1.out.ext hw2) (by have h := HLEN.out; simp only [List.length_append, List.length_nil]; rw [HA.out]; omega) HA.out HLEN.out HL.out).mono ?_)
      rintro r w3 ⟨M, hp, hs, rfl, hR3, hE3⟩
      refine ⟨_, rfl, wpl_nil ?_⟩
      have HS3 := Lib.hid hs
      have HR3 : Hid (Row w3 p (D ++ M) rest) := Lib.hid (by simpa using hR3)
      have HE3 : Hid (ExtB p.block w w3) := Lib.hid ((HE.out.trans (ExtB.of hw2)).trans hE3)
      have HML : Hid (M.length < 20) := Lib.hid (by rw [hp.length_eq]; exact HRS.out)
      have HP3 : Hid ((D ++ M).Perm l) := Lib.hid ((List.Perm.append_left D hp).trans HP.out)
      clear hR3 hE3 hw2 hp hs HR1
      simp only [Act.put, List.setIfInBounds_toArray, List.set_cons_zero, List.set_cons_succ]
      go_wp2_with fail
      go_loopg [6] n (fun k v6 wr => ∃ (q : Nat) (D R : List Ev), v6 = .int .i64 (q : Int) ∧ Hid (n - q ≤ k) ∧ Hid (20 ≤ q) ∧ Hid (Bl q D) ∧ Hid (Srt R) ∧ Hid (R.length < q) ∧ Hid ((D ++ R).Perm l) ∧ Hid (Row wr p (D ++ R) rest) ∧ Hid (ExtB p.block w wr))
      case atStart => exact ⟨20, D, M, rfl, Lib.hid (by omega), Lib.hid (Nat.le_refl _), HBL, HS3, HML, HP3, HR3, HE3⟩
      case round =>
        clear HBL HS3 HML HP3 HR3 HE3 HP HRW HE HA HB HK HLEN HRS
        obtain ⟨q, D, R, rfl, HK, HQ, HBL, HS, HRL, HP, HRW, HE⟩ := hrel
        have HLEN : Hid (D.length + R.length = n) := Lib.hid (by have h := HP.out.length_eq; rw [List.length_append, HN.out] at h; exact h)
        by_cases hq : q < n
        · have hq1 : (q : Int) < (n : Int) := by omega
          have HQN := Lib.hid hq
          obtain ⟨q2, hq2⟩ : ∃ q2, 2 * q = q2 := ⟨_, rfl⟩
          have HQ2 := Lib.hid hq2
          have hwq : IntKind.i64.wrap (2 * (q : Int)) = (q2 : Int) := wrap_n _ _ (by omega) (by have := HL.out; omega)
          have hwq' : IntKind.i64.wrap ((q : Int) * 2) = (q2 : Int) := wrap_n _ _ (by omega) (by have := HL.out; omega)
          clear hq hq2
          go_wp2_with fail
          go_loopg [7, 8] D.length (fun k v7 v8 wr => ∃ (a b : Nat) (D' E : List Ev), v7 = .int .i64 (a : Int) ∧ v8 = .int .i64 (b : Int) ∧ Hid (D'.length = a) ∧ Hid (a + q2 = b) ∧ Hid (E.length = k) ∧ Hid (Bl q2 D') ∧ Hid (Bl q E) ∧ Hid ((D' ++ (E ++ R)).Perm l) ∧ Hid (Row wr p (D' ++ (E ++ R)) rest) ∧ Hid (ExtB p.block w wr))
          case atStart => exact ⟨0, q2, [], D, rfl, rfl, Lib.hid rfl, Lib.hid (by omega), Lib.hid rfl, Lib.hid Bl.nil, HBL, HP, HRW, HE⟩
          case round =>
            clear HLEN HP HRW HE HBL
            obtain ⟨a, b, D', E, rfl, rfl, HA, HB, HKE, HBD, HBE, HP, HRW, HE⟩ := hrel
            have HLEN : Hid (a + E.length + R.length = n) := Lib.hid (by have h := HP.out.length_eq; rw [List.length_append, List.length_append, HA.out, HN.out] at h; omega)
            have hwm : IntKind.i64.wrap ((a : Int) + (q : Int)) = ((a + q : Nat) : Int) := wrap_n _ _ (by omega) (by have := HLEN.out; have := HQN.out; have := HL.out; omega)
            obtain ⟨m, hm⟩ : ∃ m, a + q = m := ⟨_, rfl⟩
            rw [hm] at hwm
            have HM := Lib.hid hm
            clear hm
            by_cases hb : b ≤ n
            · have hb1 : (b : Int) ≤ (n : Int) := by omega
              have hwb : IntKind.i64.wrap ((b : Int) + (q2 : Int)) = ((b + q2 : Nat) : Int) := wrap_n _ _ (by omega) (by have := HQ2.out; have := HQN.out; have := HL.out; omega)
              obtain ⟨X, E1, rfl, hX, hsX, hE1⟩ := HBE.out.split (by have := HLEN.out; have := HB.out; have := HQ2.out; have := HRL.out; omega)
              have hl1 := HLEN.out
              rw [List.length_append] at hl1
              obtain ⟨Y, E2, rfl, hY, hsY, hE2⟩ := hE1.split (by have := HB.out; have := HQ2.out; have := HRL.out; omega)
              have HX := Lib.hid hX
              have HY := Lib.hid hY
              have HSX := Lib.hid hsX
              have HSY := Lib.hid hsY
              have HE2 := Lib.hid hE2
              have HBN := Lib.hid hb
              have HR1 : Hid (Row wr p (D' ++ (X ++ (Y ++ (E2 ++ R)))) rest) := Lib.hid (by have h := HRW.out; simpa using h)
              clear hX hY hsX hsY hE1 hE2 hl1 hb
              go_upto_region 10 with (fail)
              refine gl_begin (Ext.refl _) ?_
              refine gl_take (N := some 36) rfl (Yields.gy (gy_pure (by rfl) (fun w_ => by go_simp; with_reducible rfl))) (by simp only [Act.put, List.setIfInBounds_toArray, List.set_cons_zero, List.set_cons_succ]; rfl) ?_
              refine gl_take (N := some 37) rfl (Yields.gy (gy_pure (by rfl) (fun w_ => by go_simp; with_reducible rfl))) (by simp only [Act.put, List.setIfInBounds_toArray, List.set_cons_zero, List.set_cons_succ]; rfl) ?_
              refine gl_take (N := some 38) rfl (Yields.gy (gy_pure (by rfl) (fun w_ => by go_simp; with_reducible rfl))) (by simp only [Act.put, List.setIfInBounds_toArray, List.set_cons_zero, List.set_cons_succ]; rfl) ?_
              refine gl_take (N := some 39) rfl (Yields.gy (gy_pure (by rfl) (fun w_ => by go_simp; with_reducible rfl))) (by simp only [Act.put, List.setIfInBounds_toArray, List.set_cons_zero, List.set_cons_succ]; rfl) ?_
              refine gl_take (N := some 40) rfl (Yields.gy (gy_pure (by rfl) (fun w_ => by go_simp; with_reducible rfl))) (by simp only [Act.put, List.setIfInBounds_toArray, List.set_cons_zero, List.set_cons_succ]; rfl) ?_
              refine gl_take (N := some 41) rfl (Yields.gy (gy_pure (by rfl) (fun w_ => by go_simp; with_reducible rfl))) (by simp only [Act.put, List.setIfInBounds_toArray, List.set_cons_zero, List.set_cons_succ]; rfl) ?_
              refine gl_take (N := some 42) rfl (Yields.gy (gy_pure (by rfl) (fun w_ => by go_simp; with_reducible rfl))) (by simp only [Act.put, List.setIfInBounds_toArray, List.set_cons_zero, List.set_cons_succ]; rfl) ?_
              refine gl_eff (by rfl) (fun w2 hw2 => ?_)
              refine wp_callF rfl Tryd.func41 (by kernel_rfl) rfl #[.slice (some p) n c, .int .i64 (a : Int), .int .i64 (m : Int), .int .i64 (b : Int), .func (.func 19) #[] #[]] (by rfl) ((merges _ D' X Y (E2 ++ R) rest p n c a m b w2 (Nat.le_refl _) (HR1.out.ext hw2) (by rw [HX.out]; have := HQ.out; omega) (by rw [HY.out]; have := HQ.out; omega) HSX.out HSY.out (by have h := HLEN.out; simp only [List.length_append] at h ⊢; rw [HA.out]; omega) HA.out (by rw [HX.out]; exact HM.out) (by rw [HY.out]; have := HM.out; have := HB.out; have := HQ2.out; omega) HL.out).mono ?_)
              rintro r w3 ⟨M, hp, hs, rfl, hR3, hE3⟩
              refine ⟨_, rfl, wpl_nil ?_⟩
              have HP3 := Lib.hid hp
              have HS3 := Lib.hid hs
              have HR3 := Lib.hid hR3
              have HE3 : Hid (ExtB p.block w w3) := Lib.hid ((HE.out.trans (ExtB.of hw2)).trans hE3)
              have HML : Hid (M.length = q2) := Lib.hid (by rw [HP3.out.length_eq, List.length_append, HX.out, HY.out]; have := HQ2.out; omega)
              clear hR3 hE3 hw2 hp hs HR1
              go_wp2
              go_roundg E2.length
              case measure => have h := HKE.out; rw [List.length_append, HX.out] at h; have := HQ.out; rw [List.length_append] at h; omega
              case rel => exact ⟨b, b + q2, D' ++ M, E2, rfl, rfl, Lib.hid (by rw [List.length_append, HA.out, HML.out]; exact HB.out), Lib.hid rfl, Lib.hid rfl, Lib.hid (HBD.out.snoc HML.out HS3.out), HE2, Lib.hid (by
                  refine List.Perm.trans ?_ HP.out
                  rw [List.append_assoc]
                  refine List.Perm.append_left D' ?_
                  have h := List.Perm.append_right (E2 ++ R) HP3.out
                  simpa using h), Lib.hid (by have h := HR3.out; simpa using h), HE3⟩
            · have hb1 : ¬ (b : Int) ≤ (n : Int) := by omega
              have hER : E.length + R.length < q2 := by have := HLEN.out; have := HB.out; omega
              by_cases hmn : m < n
              · have hm1 : (m : Int) < (n : Int) := by omega
                obtain ⟨X, E1, rfl, hX, hsX, hE1⟩ := HBE.out.split (by have := HLEN.out; have := HM.out; have := HRL.out; omega)
                have h0 : E1 = [] := by
                  by_cases h1 : 0 < E1.length
                  · obtain ⟨Y, E2, rfl, hY, _, _⟩ := hE1.split h1
                    simp only [List.length_append] at hER
                    have := HQ2.out
                    omega
                  · exact List.length_eq_zero_iff.1 (by omega)
                subst h0
                have HX := Lib.hid hX
                have HSX := Lib.hid hsX
                have HR1 : Hid (Row wr p (D' ++ (X ++ (R ++ []))) rest) := Lib.hid (by have h := HRW.out; simpa using h)
                have HNN : Hid (m + R.length = n) := Lib.hid (by have h := HLEN.out; rw [List.length_append, List.length_nil, hX] at h; have := HM.out; omega)
                have HRP : Hid (0 < R.length) := Lib.hid (by have := HNN.out; omega)
                clear hX hsX hE1 hER hmn hb
                go_upto_region 15 with (fail)
                refine gl_begin (Ext.refl _) ?_
                refine gl_take (N := some 55) rfl (Yields.gy (gy_pure (by rfl) (fun w_ => by go_simp; with_reducible rfl))) (by simp only [Act.put, List.setIfInBounds_toArray, List.set_cons_zero, List.set_cons_succ]; rfl) ?_
                refine gl_take (N := some 56) rfl (Yields.gy (gy_pure (by rfl) (fun w_ => by go_simp; with_reducible rfl))) (by simp only [Act.put, List.setIfInBounds_toArray, List.set_cons_zero, List.set_cons_succ]; rfl) ?_
                refine gl_take (N := some 57) rfl (Yields.gy (gy_pure (by rfl) (fun w_ => by go_simp; with_reducible rfl))) (by simp only [Act.put, List.setIfInBounds_toArray, List.set_cons_zero, List.set_cons_succ]; rfl) ?_
                refine gl_take (N := some 58) rfl (Yields.gy (gy_pure (by rfl) (fun w_ => by go_simp; with_reducible rfl))) (by simp only [Act.put, List.setIfInBounds_toArray, List.set_cons_zero, List.set_cons_succ]; rfl) ?_
                refine gl_take (N := some 59) rfl (Yields.gy (gy_pure (by rfl) (fun w_ => by go_simp; with_reducible rfl))) (by simp only [Act.put, List.setIfInBounds_toArray, List.set_cons_zero, List.set_cons_succ]; rfl) ?_
                refine gl_eff (by rfl) (fun w2 hw2 => ?_)
                refine wp_callF rfl Tryd.func41 (by kernel_rfl) rfl #[.slice (some p) n c, .int .i64 (a : Int), .int .i64 (m : Int), .int .i64 (n : Int), .func (.func 19) #[] #[]] (by rfl) ((merges _ D' X R [] rest p n c a m n w2 (Nat.le_refl _) (HR1.out.ext hw2) (by rw [HX.out]; have := HQ.out; omega) HRP.out HSX.out HS.out (by simp only [List.length_append, List.length_nil]; rw [HA.out, HX.out]; have := HNN.out; have := HM.out; omega) HA.out (by rw [HX.out]; exact HM.out) HNN.out HL.out).mono ?_)
                rintro r w3 ⟨M, hp, hs, rfl, hR3, hE3⟩
                refine ⟨_, rfl, wpl_nil ?_⟩
                have HP3 := Lib.hid hp
                have HS3 := Lib.hid hs
                have HR3 := Lib.hid hR3
                have HE3 : Hid (ExtB p.block w w3) := Lib.hid ((HE.out.trans (ExtB.of hw2)).trans hE3)
                have HML : Hid (M.length < q2) := Lib.hid (by rw [HP3.out.length_eq, List.length_append, HX.out]; have := HQ2.out; have := HRL.out; omega)
                clear hR3 hE3 hw2 hp hs HR1
                go_wp2
                go_roundg (n - q2)
                case measure => have := HK.out; have := HQ.out; have := HQN.out; have := HQ2.out; omega
                case rel => exact ⟨q2, D', M, rfl, Lib.hid (Nat.le_refl _), Lib.hid (by have := HQ.out; have := HQ2.out; omega), HBD, HS3, HML, Lib.hid (by
                    refine List.Perm.trans ?_ HP.out
                    refine List.Perm.append_left D' ?_
                    have h := HP3.out
                    simpa using h), Lib.hid (by have h := HR3.out; simpa using h), HE3⟩
              · have hm1 : ¬ (m : Int) < (n : Int) := by omega
                have HSE : Hid (Srt (E ++ R) ∧ (E ++ R).length < q2) := Lib.hid (by
                  refine ⟨?_, by rw [List.length_append]; exact hER⟩
                  by_cases h1 : 0 < E.length
                  · obtain ⟨X, E1, rfl, hX, hsX, hE1⟩ := HBE.out.split h1
                    have hl1 := HLEN.out
                    rw [List.length_append] at hl1
                    have := HM.out
                    have h2 : E1 = [] := List.length_eq_zero_iff.1 (by omega)
                    have h3 : R = [] := List.length_eq_zero_iff.1 (by omega)
                    subst h2
                    subst h3
                    simpa using hsX
                  · have h2 : E = [] := List.length_eq_zero_iff.1 (by omega)
                    subst h2
                    exact HS.out)
                clear hER hmn hb
                go_wp2
                go_roundg (n - q2)
                case measure => have := HK.out; have := HQ.out; have := HQN.out; have := HQ2.out; omega
                case rel => exact ⟨q2, D', E ++ R, rfl, Lib.hid (Nat.le_refl _), Lib.hid (by have := HQ.out; have := HQ2.out; omega), HBD, Lib.hid HSE.out.1, Lib.hid HSE.out.2, HP, HRW, HE⟩
        · have hq1 : ¬ (q : Int) < (n : Int) := by omega
          have hsr : Srt (D ++ R) := by
            by_cases hd : 0 < D.length
            · obtain ⟨X, D2, rfl, hx, hs, _⟩ := HBL.out.split hd
              have h := HLEN.out
              rw [List.length_append] at h
              have h1 : D2 = [] := List.length_eq_zero_iff.1 (by omega)
              have h2 : R = [] := List.length_eq_zero_iff.1 (by omega)
              subst h1
              subst h2
              simpa using hs
            · have h1 : D = [] := List.length_eq_zero_iff.1 (by omega)
              subst h1
              exact HS.out
          have HSR := Lib.hid hsr
          clear hsr hq
          go_wp2
          go_end0
          exact ⟨D ++ R, HP.out, HSR.out, rfl, HRW.out, HE.out⟩
end Go.Proofs.YthmnohecmmknpaaDoor.Vec
