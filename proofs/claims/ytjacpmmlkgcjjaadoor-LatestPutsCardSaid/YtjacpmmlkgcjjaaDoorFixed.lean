/- The fixed facts, walked. -/
import Derived.Test.YtjacpmmlkgcjjaaDoorJoin
import Derived.Deep.RegionHeld3
namespace Go.Proofs.YtjacpmmlkgcjjaaDoor.Latest
open Go.RowKit Go.ChangeMaps Go.Shelf Go.Sort Go.Proofs.YtjacpmmlkgcjjaaDoorW.PrintWords Go.Proofs.YtjacpmmlkgcjjaaDoorW.PrintLast Go.Proofs.YtjacpmmlkgcjjaaDoor.Given Go.Proofs.YtjacpmmlkgcjjaaDoor.PA Go.Proofs.YtjacpmmlkgcjjaaDoor.Val
open Go.Maps (Keyed string_keyed)
open Go.WideMaps
set_option linter.unusedVariables false
set_option linter.unusedSimpArgs false
def cA : S33 := ⟨⟨#[120]⟩, ⟨5, 0⟩, ⟨2, 1, ⟨#[]⟩⟩⟩
def cB : S33 := ⟨⟨#[120]⟩, ⟨3, 9⟩, ⟨0, 0, ⟨#[]⟩⟩⟩
theorem okA : Cok cA := ⟨by decide, by decide, by decide, by decide⟩
theorem okB : Cok cB := ⟨by decide, by decide, by decide, by decide⟩
theorem okZ : Cok z33 := ⟨by decide, by decide, by decide, by decide⟩
theorem rZ : rightC z33 = false := by kernel_rfl
theorem ctA : counts none cA = true := by kernel_rfl
theorem ctB : counts (some cA) cB = false := by kernel_rfl
theorem ctZ (o : Option S33) : counts o z33 = false := by
  unfold counts
  rw [rZ]
  rfl
theorem eA : errC cA = 0 := by kernel_rfl
theorem eB : errC cB = 0 := by kernel_rfl
theorem eZ : errC z33 = 1 := by kernel_rfl
set_option maxHeartbeats 4000000 in
set_option maxRecDepth 100000 in
theorem fixed_calls (w : World) : Calls Tryd.prog 7 #[] w fun e w' => e = .returned (.bool true) ∧ Below w.heap.size w w' := by
  go_enter Tryd.func7, Tryd.ntmps7
  go_wp2_with fail
  refine (New_calls _).mono ?_
  rintro e w1 ⟨rfl, hw1⟩
  have hR1 : RegAt w1 (w.heap.size + 1) w.heap.size [] := by
    subst hw1
    exact ⟨by rw [show w.heap.size + 1 = (w.alloc (.map #[] 0)).heap.size from by simp]; exact (MapKept.heap_alloc _ _).1, MapAt.same (MapAt.made w) ((MapKept.heap_alloc _ _).2 _ (by simp))⟩
  have hB1 : Below w.heap.size w w1 := by subst hw1; exact below_alloc (below_alloc (Below.refl _ _) _) _
  have hs1 : w1.heap.size = w.heap.size + 2 := by subst hw1; simp
  have R1 := Lib.hid hR1
  have B1 := Lib.hid hB1
  have Z1 := Lib.hid hs1
  clear hR1 hB1 hw1 hs1
  go_wp2_with fail
  refine (Put_calls (w.heap.size + 1) w.heap.size [] cA _ (R1.out.alloc _) okA).mono ?_
  rintro e w2 ⟨rfl, L1, hr, hk, hg, -, -, hl⟩
  rw [show getL [] cA.f0 = none from rfl, ctA] at hg ⊢
  rw [eA]
  have R2 := Lib.hid hr
  have V2 := Lib.hid (hk.blk (heap_alloc_new w1 _) (by have := Z1.out; omega))
  have B2 := Lib.hid (hk.below (below_alloc B1.out _) (Nat.le_refl _) (by simp [Z1.out]; omega))
  have G2 := Lib.hid (show getL L1 ⟨#[120]⟩ = some cA from (hg _).trans (by rw [if_pos ⟨rfl, rfl⟩]))
  have LL2 : Hid (L1.length ≤ 1) := Lib.hid hl
  clear hr hk hg hl
  have hv : w.heap.size + 2 ≤ w1.heap.size := by rw [Z1.out]; exact Nat.le_refl _
  generalize w1.heap.size = v at V2 hv ⊢
  have HV := Lib.hid hv
  clear R1 B1 Z1 hv
  go_wp2_with fail
  refine (Put_calls (w.heap.size + 1) w.heap.size L1 cB _ R2.out okB).mono ?_
  rintro e w3 ⟨rfl, L2, hr, hk, hg, -, -, hl⟩
  rw [show getL L1 cB.f0 = some cA from G2.out, ctB] at hg ⊢
  rw [eB]
  have R3 := Lib.hid hr
  have V3 := Lib.hid (hk.blk V2.out (by have := HV.out; omega))
  have B3 := Lib.hid (hk.below B2.out (Nat.le_refl _) B2.out.size)
  have G3 := Lib.hid (show getL L2 ⟨#[120]⟩ = some cA from (hg _).trans (by rw [if_neg (by simp)]; exact G2.out))
  have LL4 : Hid (L2.length ≤ 2) := Lib.hid (by have := LL2.out; omega)
  clear hr hk hg hl R2 V2 B2 G2 LL2
  go_wp2_with fail
  refine (Get_calls (w.heap.size + 1) w.heap.size L2 ⟨#[120]⟩ _ R3.out (by decide)).mono ?_
  rintro e w4 ⟨rfl, hb⟩
  rw [G3.out]
  have R4 := Lib.hid (R3.out.below hb)
  have V4 := Lib.hid (blk_below V3.out hb)
  have B4 := Lib.hid (below_step B3.out hb)
  clear hb R3 V3 B3 G3
  simp only [Option.getD_some, Option.isSome_some, val33, cA]
  go_wp2_with fail
  refine (Put_calls (w.heap.size + 1) w.heap.size L2 z33 _ (R4.out.alloc _) okZ).mono ?_
  rintro e w5 ⟨rfl, L3, hr, hk, hg, -, -, hl⟩
  rw [ctZ] at hg ⊢
  rw [eZ]
  have hc : w.heap.size + 2 ≤ w4.heap.size := by have := R4.out.lt; have := blk_lt V4.out; have := HV.out; omega
  have R5 := Lib.hid hr
  have V5 := Lib.hid (hk.blk (blk_alloc V4.out _) (by have := HV.out; omega))
  have C5 := Lib.hid (hk.blk (heap_alloc_new w4 _) (by omega))
  have B5 := Lib.hid (hk.below (below_alloc B4.out _) (Nat.le_refl _) (by simp; have := B4.out.size; omega))
  generalize w4.heap.size = c at C5 hc ⊢
  have HC := Lib.hid hc
  have LL := Lib.hid (show L3.length < 500000 from by have := LL4.out; omega)
  clear hr hk hg hl R4 V4 B4 LL4 hc
  go_wp2_with fail
  refine (latest_Tick.calls 3 0 7 0 2 8 2 _ (by kernel_rfl)).mono ?_
  rintro e w6 ⟨rfl, hb⟩
  have R6 := Lib.hid (R5.out.below hb)
  have V6 := Lib.hid (blk_below V5.out hb)
  have C6 := Lib.hid (blk_below C5.out hb)
  have B6 := Lib.hid (below_step B5.out hb)
  clear hb R5 V5 C5 B5
  have hR7 := R6.out.alloc (.cells #[.int .i64 8, .int .i64 2] 29)
  have hV7 := blk_alloc V6.out (.cells #[.int .i64 8, .int .i64 2] 29)
  have hC7 := blk_alloc C6.out (.cells #[.int .i64 8, .int .i64 2] 29)
  have hT7 := heap_alloc_new w6 (.cells #[.int .i64 8, .int .i64 2] 29)
  have hB7 := below_alloc B6.out (.cells #[.int .i64 8, .int .i64 2] 29)
  have cv0 : (w6.alloc (.cells #[.int .i64 8, .int .i64 2] 29)).cell? ⟨v, 0, none⟩ = some (.int .i64 2) := (blk_cell hV7 0).trans rfl
  have cv1 : (w6.alloc (.cells #[.int .i64 8, .int .i64 2] 29)).cell? ⟨v, 1, none⟩ = some (.int .i64 1) := (blk_cell hV7 1).trans rfl
  have cv2 : (w6.alloc (.cells #[.int .i64 8, .int .i64 2] 29)).cell? ⟨v, 2, none⟩ = some (.string ⟨#[]⟩) := (blk_cell hV7 2).trans rfl
  have cc0 : (w6.alloc (.cells #[.int .i64 8, .int .i64 2] 29)).cell? ⟨c, 0, none⟩ = some (.string ⟨#[120]⟩) := (blk_cell hC7 0).trans rfl
  have cc1 : (w6.alloc (.cells #[.int .i64 8, .int .i64 2] 29)).cell? ⟨c, 1, none⟩ = some (.int .i64 5) := (blk_cell hC7 1).trans rfl
  have cc2 : (w6.alloc (.cells #[.int .i64 8, .int .i64 2] 29)).cell? ⟨c, 2, none⟩ = some (.int .i64 0) := (blk_cell hC7 2).trans rfl
  have cc3 : (w6.alloc (.cells #[.int .i64 8, .int .i64 2] 29)).cell? ⟨c, 3, none⟩ = some (.int .i64 2) := (blk_cell hC7 3).trans rfl
  have cc4 : (w6.alloc (.cells #[.int .i64 8, .int .i64 2] 29)).cell? ⟨c, 4, none⟩ = some (.int .i64 1) := (blk_cell hC7 4).trans rfl
  have cc5 : (w6.alloc (.cells #[.int .i64 8, .int .i64 2] 29)).cell? ⟨c, 5, none⟩ = some (.string ⟨#[]⟩) := (blk_cell hC7 5).trans rfl
  have ct0 : (w6.alloc (.cells #[.int .i64 8, .int .i64 2] 29)).cell? ⟨w6.heap.size, 0, none⟩ = some (.int .i64 8) := (blk_cell hT7 0).trans rfl
  have ct1 : (w6.alloc (.cells #[.int .i64 8, .int .i64 2] 29)).cell? ⟨w6.heap.size, 1, none⟩ = some (.int .i64 2) := (blk_cell hT7 1).trans rfl
  have R7 := Lib.hid hR7
  have V7 := Lib.hid hV7
  have C7 := Lib.hid hC7
  have T7 := Lib.hid hT7
  have B7 := Lib.hid hB7
  clear hR7 hV7 hC7 hT7 hB7 R6 V6 C6 B6
  go_wp2_with fail
  refine (latest_Later.calls 100 8 2 5 0 true _ (by kernel_rfl)).mono ?_
  rintro e w7 ⟨rfl, hb⟩
  have R8 := Lib.hid (R7.out.below hb)
  have B8 := Lib.hid (below_step B7.out hb)
  clear hb R7 B7 V7 C7 T7
  go_wp2_with fail
  refine (AllN_calls _).mono ?_
  rintro e w8 ⟨rfl, rfl⟩
  go_wp2_with fail
  refine (JoinN_calls _ _ _ _ R8.out LL.out).mono ?_
  rintro e w9 ⟨rfl, hb⟩
  have B9 := Lib.hid (below_step B8.out hb)
  clear hb R8 B8
  go_wp2
  go_ret
  exact ⟨rfl, B9.out⟩
end Go.Proofs.YtjacpmmlkgcjjaaDoor.Latest
