/- LatestGrows, walked: it answers true. -/
import Derived.Test.YtjacpmmlkgcjjaaDoorFew
namespace Go.Proofs.YtjacpmmlkgcjjaaDoor.Latest
open Go.RowKit Go.ChangeMaps Go.Shelf Go.Sort Go.Proofs.YtjacpmmlkgcjjaaDoorW.PrintWords Go.Proofs.YtjacpmmlkgcjjaaDoorW.PrintLast Go.Proofs.YtjacpmmlkgcjjaaDoor.Given Go.Proofs.YtjacpmmlkgcjjaaDoor.PA Go.Proofs.YtjacpmmlkgcjjaaDoor.Val
open Go.Maps (Keyed string_keyed)
open Go.WideMaps
set_option linter.unusedVariables false
set_option linter.unusedSimpArgs false

set_option maxHeartbeats 4000000 in
set_option maxRecDepth 100000 in
theorem Grows_calls (l : List S33) (A : Option Addr) (cc : Nat) (w : World) (hC : Kd.C k33 w A l.length l) (hcc : l.length ≤ cc) (hll : l.length ≤ 4611686018427387904) (hin : ∀ c ∈ l, Cin c) :
    Calls Tryd.prog 6 #[.slice A l.length cc] w fun e w' => e = .returned (.bool true) ∧ Below w.heap.size w w' := by
  have HC := Lib.hid hC
  have HCC := Lib.hid hcc
  have HIN := Lib.hid hin
  have HLL := Lib.hid hll
  clear hC hcc hin hll
  go_enter Tryd.func6, Tryd.ntmps6
  go_wp2_with fail
  refine (fixed_calls _).mono ?_
  rintro e w1 ⟨rfl, hb⟩
  have B1 := Lib.hid hb
  clear hb
  go_wp2_with fail
  refine (hedgerowlaw36_few.calls (l.length + 1) A cc l (fewB l) _ (Kd.C_below HC.out B1.out) HCC.out (few_is l HLL.out HIN.out)).mono ?_
  rintro e w2 ⟨rfl, hb⟩
  have B2 := Lib.hid (below_step B1.out hb)
  clear hb B1
  cases hf : fewB l with
  | false =>
    clear hf
    go_wp2
    go_ret
    exact ⟨rfl, B2.out⟩
  | true =>
    have HF := Lib.hid hf
    clear hf
    go_wp2_with fail
    refine (New_calls _).mono ?_
    rintro e w3 ⟨rfl, hw3⟩
    have hR : RegAt w3 (w2.heap.size + 1) w2.heap.size [] := by
      subst hw3
      exact ⟨by rw [show w2.heap.size + 1 = (w2.alloc (.map #[] 0)).heap.size from by simp]; exact (MapKept.heap_alloc _ _).1, MapAt.same (MapAt.made w2) ((MapKept.heap_alloc _ _).2 _ (by simp))⟩
    have R3 := Lib.hid hR
    have B3 : Hid (Below w.heap.size w w3) := Lib.hid (by subst hw3; exact below_alloc (below_alloc B2.out _) _)
    have hg : w.heap.size ≤ w2.heap.size := B2.out.size
    have HG := Lib.hid hg
    generalize w2.heap.size = b at R3 HG hg ⊢
    clear hR hw3 B2 hg
    go_wp2
    go_loopg [23] l.length (fun k v23 wr => ∃ (i : Nat) (L : List S33), v23 = .int .i64 (i : Int) ∧ Hid (i ≤ l.length) ∧ Hid (l.length ≤ i + k) ∧ Hid (RegAt wr (b + 1) b L) ∧ Hid (L.length ≤ 2 * i) ∧ Hid (Below w.heap.size w wr))
    case atStart => exact ⟨0, [], rfl, Lib.hid (Nat.zero_le _), Lib.hid (by omega), R3, Lib.hid (Nat.le_refl _), B3⟩
    case round =>
      clear R3 B3
      obtain ⟨i, L, rfl, HI, HK, HR, HLN, HB⟩ := hrel
      by_cases hi : (i : Int) < (l.length : Int)
      · have hil : i < l.length := by omega
        have p1 : 0 ≤ (i : Int) := by omega
        obtain ⟨ad, e1, hx0, hx1, hx2, hx3, hx4, hx5⟩ := at_T33 (Kd.C_below HC.out HB.out) (i : Int) p1 hi
        cases e1
        have hrd : rd_T33 l (i : Int) = l[i] := by simp [rd_T33, hil]
        rw [hrd] at hx0 hx1 hx2 hx3 hx4 hx5
        simp only [Int.toNat_natCast] at hx0 hx1 hx2 hx3 hx4 hx5
        have HCK := Lib.hid (fewB_ok HF.out HIN.out (List.getElem_mem hil))
        have HIL := Lib.hid hil
        have HL8 := Lib.hid (fewB_len HF.out)
        generalize l[i] = c at hx0 hx1 hx2 hx3 hx4 hx5 HCK hrd
        clear hrd hil
        replace p1 := eq_true p1
        replace hi := eq_true hi
        have hw1 : IntKind.i64.wrap ((i : Int) + 1) = (i : Int) + 1 := by
          rw [IntKind.wrap_i64]
          have := HIL.out
          have := HL8.out
          omega
        have hnm : c.f0.size ≤ maxLen := by have := HCK.out.name; unfold maxLen; omega
        have HNM := Lib.hid hnm
        clear hnm
        go_wp2_with fail
        refine (Get_calls (b + 1) b L c.f0 _ (HR.out.alloc (.cells #[.string c.f0, .int .i64 c.f1.f0, .int .i64 c.f1.f1, .int .i64 c.f2.f0, .int .i64 c.f2.f1, .string c.f2.f2] 33)) HNM.out).mono ?_
        rintro e w4 ⟨rfl, hb⟩
        have R4 := Lib.hid ((HR.out.alloc (.cells #[.string c.f0, .int .i64 c.f1.f0, .int .i64 c.f1.f1, .int .i64 c.f2.f0, .int .i64 c.f2.f1, .string c.f2.f2] 33)).below hb)
        have C4 := Lib.hid (blk_below (heap_alloc_new wr (.cells #[.string c.f0, .int .i64 c.f1.f0, .int .i64 c.f1.f1, .int .i64 c.f2.f0, .int .i64 c.f2.f1, .string c.f2.f2] 33)) hb)
        have B4 := Lib.hid (below_step (below_alloc HB.out (.cells #[.string c.f0, .int .i64 c.f1.f0, .int .i64 c.f1.f1, .int .i64 c.f2.f0, .int .i64 c.f2.f1, .string c.f2.f2] 33)) hb)
        have N5 := Lib.hid (show b < wr.heap.size from HR.out.lt.2)
        generalize wr.heap.size = a5 at C4 N5 ⊢
        clear hb HB HR hx0 hx1 hx2 hx3 hx4 hx5
        obtain ⟨was, hwas⟩ : ∃ x, (getL L c.f0).getD z33 = x := ⟨_, rfl⟩
        obtain ⟨there, hth⟩ : ∃ x, (getL L c.f0).isSome = x := ⟨_, rfl⟩
        rw [hwas, hth]
        have HWAS := Lib.hid hwas
        have HTH := Lib.hid hth
        clear hwas hth
        simp only [val33]
        go_wp2_with fail
        refine (All_calls (b + 1) b L _ (R4.out.alloc (.cells #[.string was.f0, .int .i64 was.f1.f0, .int .i64 was.f1.f1, .int .i64 was.f2.f0, .int .i64 was.f2.f1, .string was.f2.f2] 33)) (by have := HLN.out; have := HI.out; have := HL8.out; omega)).mono ?_
        rintro e w5 ⟨v5, O5, rfl, hp, -, ho, hb⟩
        obtain ⟨A5, c5, rfl⟩ := Kd.R_slice ho
        rw [hp.length_eq]
        have R5 := Lib.hid ((R4.out.alloc (.cells #[.string was.f0, .int .i64 was.f1.f0, .int .i64 was.f1.f1, .int .i64 was.f2.f0, .int .i64 was.f2.f1, .string was.f2.f2] 33)).below hb)
        have C5 := Lib.hid (blk_below (blk_alloc C4.out (.cells #[.string was.f0, .int .i64 was.f1.f0, .int .i64 was.f1.f1, .int .i64 was.f2.f0, .int .i64 was.f2.f1, .string was.f2.f2] 33)) hb)
        have D5 := Lib.hid (blk_below (heap_alloc_new w4 (.cells #[.string was.f0, .int .i64 was.f1.f0, .int .i64 was.f1.f1, .int .i64 was.f2.f0, .int .i64 was.f2.f1, .string was.f2.f2] 33)) hb)
        have B5 := Lib.hid (below_step (below_alloc B4.out (.cells #[.string was.f0, .int .i64 was.f1.f0, .int .i64 was.f1.f1, .int .i64 was.f2.f0, .int .i64 was.f2.f1, .string was.f2.f2] 33)) hb)
        have N6 := Lib.hid (show b < w4.heap.size from R4.out.lt.2)
        generalize w4.heap.size = a6 at D5 N6 ⊢
        clear hb hp ho R4 C4 B4
        have k0 : w5.cell? ⟨a5, 0, none⟩ = some (.string c.f0) := (blk_cell C5.out 0).trans rfl
        have k1 : w5.cell? ⟨a5, 1, none⟩ = some (.int .i64 c.f1.f0) := (blk_cell C5.out 1).trans rfl
        have k2 : w5.cell? ⟨a5, 2, none⟩ = some (.int .i64 c.f1.f1) := (blk_cell C5.out 2).trans rfl
        have k3 : w5.cell? ⟨a5, 3, none⟩ = some (.int .i64 c.f2.f0) := (blk_cell C5.out 3).trans rfl
        have k4 : w5.cell? ⟨a5, 4, none⟩ = some (.int .i64 c.f2.f1) := (blk_cell C5.out 4).trans rfl
        have k5 : w5.cell? ⟨a5, 5, none⟩ = some (.string c.f2.f2) := (blk_cell C5.out 5).trans rfl
        go_wp2_with fail
        refine (Put_calls (b + 1) b L c _ R5.out HCK.out).mono ?_
        rintro e w6 ⟨rfl, L', hr, hk, hg, -, hl1, hl2⟩
        have R6 := Lib.hid hr
        have C6 := Lib.hid (hk.blk C5.out (by have := N5.out; omega))
        have D6 := Lib.hid (hk.blk D5.out (by have := N6.out; omega))
        have B6 := Lib.hid (hk.below B5.out HG.out B5.out.size)
        have G6 := Lib.hid (hg c.f0)
        have LL6 := Lib.hid hl1
        have LM6 := Lib.hid hl2
        clear hr hk hg hl1 hl2 R5 C5 D5 B5 k0 k1 k2 k3 k4 k5
        have k0 : w6.cell? ⟨a5, 0, none⟩ = some (.string c.f0) := (blk_cell C6.out 0).trans rfl
        generalize errC c = en
        go_wp2_with fail
        refine (Get_calls (b + 1) b L' c.f0 _ R6.out HNM.out).mono ?_
        rintro e w7 ⟨rfl, hb⟩
        have R7 := Lib.hid (R6.out.below hb)
        have C7 := Lib.hid (blk_below C6.out hb)
        have D7 := Lib.hid (blk_below D6.out hb)
        have B7 := Lib.hid (below_step B6.out hb)
        have N7 := Lib.hid (show b < w7.heap.size from R7.out.lt.2)
        clear hb R6 C6 D6 B6 k0
        have hge := G6.out
        cases hct : counts (getL L c.f0) c with
        | true =>
          have hno : getL L' c.f0 = some c := by rw [hge, if_pos ⟨hct, trivial⟩]
          have HNC := Lib.hid (show counts (getL L' c.f0) c = false by rw [hno]; exact counts_again _ c hct)
          have HNL0 : there = true → ordI was.f1.f0 was.f1.f1 c.f1.f0 c.f1.f1 ≤ 0 := fun ht => by
            have h1 := HTH.out
            have h2 := HWAS.out
            rw [ht] at h1
            obtain ⟨d, hd⟩ := Option.isSome_iff_exists.1 h1
            rw [hd] at h2 hct
            have h3 : d = was := h2
            subst h3
            have h4 : (rightC c && decide (0 < beats c d)) = true := hct
            simp only [Bool.and_eq_true, decide_eq_true_eq] at h4
            exact Int.not_lt.1 (beats_ord h4.2)
          rw [hno]
          simp only [Option.getD_some, Option.isSome_some, val33]
          clear hno hge hct G6
          cases there with
          | false =>
            clear HNL0
            have hC8 := blk_alloc C7.out (.cells #[.string c.f0, .int .i64 c.f1.f0, .int .i64 c.f1.f1, .int .i64 c.f2.f0, .int .i64 c.f2.f1, .string c.f2.f2] 33)
            have hD8 := blk_alloc D7.out (.cells #[.string c.f0, .int .i64 c.f1.f0, .int .i64 c.f1.f1, .int .i64 c.f2.f0, .int .i64 c.f2.f1, .string c.f2.f2] 33)
            have hE8 := heap_alloc_new w7 (.cells #[.string c.f0, .int .i64 c.f1.f0, .int .i64 c.f1.f1, .int .i64 c.f2.f0, .int .i64 c.f2.f1, .string c.f2.f2] 33)
            have R8 := Lib.hid (R7.out.alloc (.cells #[.string c.f0, .int .i64 c.f1.f0, .int .i64 c.f1.f1, .int .i64 c.f2.f0, .int .i64 c.f2.f1, .string c.f2.f2] 33))
            have B8 := Lib.hid (below_alloc B7.out (.cells #[.string c.f0, .int .i64 c.f1.f0, .int .i64 c.f1.f1, .int .i64 c.f2.f0, .int .i64 c.f2.f1, .string c.f2.f2] 33))
            have k0 : (w7.alloc (.cells #[.string c.f0, .int .i64 c.f1.f0, .int .i64 c.f1.f1, .int .i64 c.f2.f0, .int .i64 c.f2.f1, .string c.f2.f2] 33)).cell? ⟨a5, 0, none⟩ = some (.string c.f0) := (blk_cell hC8 0).trans rfl
            have k1 : (w7.alloc (.cells #[.string c.f0, .int .i64 c.f1.f0, .int .i64 c.f1.f1, .int .i64 c.f2.f0, .int .i64 c.f2.f1, .string c.f2.f2] 33)).cell? ⟨a5, 1, none⟩ = some (.int .i64 c.f1.f0) := (blk_cell hC8 1).trans rfl
            have k2 : (w7.alloc (.cells #[.string c.f0, .int .i64 c.f1.f0, .int .i64 c.f1.f1, .int .i64 c.f2.f0, .int .i64 c.f2.f1, .string c.f2.f2] 33)).cell? ⟨a5, 2, none⟩ = some (.int .i64 c.f1.f1) := (blk_cell hC8 2).trans rfl
            have k3 : (w7.alloc (.cells #[.string c.f0, .int .i64 c.f1.f0, .int .i64 c.f1.f1, .int .i64 c.f2.f0, .int .i64 c.f2.f1, .string c.f2.f2] 33)).cell? ⟨a5, 3, none⟩ = some (.int .i64 c.f2.f0) := (blk_cell hC8 3).trans rfl
            have k4 : (w7.alloc (.cells #[.string c.f0, .int .i64 c.f1.f0, .int .i64 c.f1.f1, .int .i64 c.f2.f0, .int .i64 c.f2.f1, .string c.f2.f2] 33)).cell? ⟨a5, 4, none⟩ = some (.int .i64 c.f2.f1) := (blk_cell hC8 4).trans rfl
            have k5 : (w7.alloc (.cells #[.string c.f0, .int .i64 c.f1.f0, .int .i64 c.f1.f1, .int .i64 c.f2.f0, .int .i64 c.f2.f1, .string c.f2.f2] 33)).cell? ⟨a5, 5, none⟩ = some (.string c.f2.f2) := (blk_cell hC8 5).trans rfl
            have m0 : (w7.alloc (.cells #[.string c.f0, .int .i64 c.f1.f0, .int .i64 c.f1.f1, .int .i64 c.f2.f0, .int .i64 c.f2.f1, .string c.f2.f2] 33)).cell? ⟨a6, 0, none⟩ = some (.string was.f0) := (blk_cell hD8 0).trans rfl
            have m1 : (w7.alloc (.cells #[.string c.f0, .int .i64 c.f1.f0, .int .i64 c.f1.f1, .int .i64 c.f2.f0, .int .i64 c.f2.f1, .string c.f2.f2] 33)).cell? ⟨a6, 1, none⟩ = some (.int .i64 was.f1.f0) := (blk_cell hD8 1).trans rfl
            have m2 : (w7.alloc (.cells #[.string c.f0, .int .i64 c.f1.f0, .int .i64 c.f1.f1, .int .i64 c.f2.f0, .int .i64 c.f2.f1, .string c.f2.f2] 33)).cell? ⟨a6, 2, none⟩ = some (.int .i64 was.f1.f1) := (blk_cell hD8 2).trans rfl
            have m3 : (w7.alloc (.cells #[.string c.f0, .int .i64 c.f1.f0, .int .i64 c.f1.f1, .int .i64 c.f2.f0, .int .i64 c.f2.f1, .string c.f2.f2] 33)).cell? ⟨a6, 3, none⟩ = some (.int .i64 was.f2.f0) := (blk_cell hD8 3).trans rfl
            have m4 : (w7.alloc (.cells #[.string c.f0, .int .i64 c.f1.f0, .int .i64 c.f1.f1, .int .i64 c.f2.f0, .int .i64 c.f2.f1, .string c.f2.f2] 33)).cell? ⟨a6, 4, none⟩ = some (.int .i64 was.f2.f1) := (blk_cell hD8 4).trans rfl
            have m5 : (w7.alloc (.cells #[.string c.f0, .int .i64 c.f1.f0, .int .i64 c.f1.f1, .int .i64 c.f2.f0, .int .i64 c.f2.f1, .string c.f2.f2] 33)).cell? ⟨a6, 5, none⟩ = some (.string was.f2.f2) := (blk_cell hD8 5).trans rfl
            have n0 : (w7.alloc (.cells #[.string c.f0, .int .i64 c.f1.f0, .int .i64 c.f1.f1, .int .i64 c.f2.f0, .int .i64 c.f2.f1, .string c.f2.f2] 33)).cell? ⟨w7.heap.size, 0, none⟩ = some (.string c.f0) := (blk_cell hE8 0).trans rfl
            have n1 : (w7.alloc (.cells #[.string c.f0, .int .i64 c.f1.f0, .int .i64 c.f1.f1, .int .i64 c.f2.f0, .int .i64 c.f2.f1, .string c.f2.f2] 33)).cell? ⟨w7.heap.size, 1, none⟩ = some (.int .i64 c.f1.f0) := (blk_cell hE8 1).trans rfl
            have n2 : (w7.alloc (.cells #[.string c.f0, .int .i64 c.f1.f0, .int .i64 c.f1.f1, .int .i64 c.f2.f0, .int .i64 c.f2.f1, .string c.f2.f2] 33)).cell? ⟨w7.heap.size, 2, none⟩ = some (.int .i64 c.f1.f1) := (blk_cell hE8 2).trans rfl
            have n3 : (w7.alloc (.cells #[.string c.f0, .int .i64 c.f1.f0, .int .i64 c.f1.f1, .int .i64 c.f2.f0, .int .i64 c.f2.f1, .string c.f2.f2] 33)).cell? ⟨w7.heap.size, 3, none⟩ = some (.int .i64 c.f2.f0) := (blk_cell hE8 3).trans rfl
            have n4 : (w7.alloc (.cells #[.string c.f0, .int .i64 c.f1.f0, .int .i64 c.f1.f1, .int .i64 c.f2.f0, .int .i64 c.f2.f1, .string c.f2.f2] 33)).cell? ⟨w7.heap.size, 4, none⟩ = some (.int .i64 c.f2.f1) := (blk_cell hE8 4).trans rfl
            have n5 : (w7.alloc (.cells #[.string c.f0, .int .i64 c.f1.f0, .int .i64 c.f1.f1, .int .i64 c.f2.f0, .int .i64 c.f2.f1, .string c.f2.f2] 33)).cell? ⟨w7.heap.size, 5, none⟩ = some (.string c.f2.f2) := (blk_cell hE8 5).trans rfl
            have C8 := Lib.hid hC8
            clear hC8 hD8 hE8 R7 B7 C7 D7
            go_wp2_with fail
            refine (Put_calls (b + 1) b L' c _ R8.out HCK.out).mono ?_
            rintro e w10 ⟨rfl, L2, hr, hk, -, -, hl1, hl2⟩
            have hl3 := LL6.out
            have hl4 := LM6.out
            rw [HNC.out]
            have R10 := Lib.hid hr
            have B10 := Lib.hid (hk.below B8.out HG.out B8.out.size)
            have HL2 : Hid (L2.length ≤ L.length + 2 ∧ L.length ≤ L2.length) := Lib.hid ⟨by omega, by omega⟩
            clear hr hk hl1 hl2 hl3 hl4
            generalize errC c = en2
            go_wp2_with fail
            refine (All_calls (b + 1) b L2 _ R10.out (by have := HL2.out; have := HLN.out; have := HI.out; have := HL8.out; omega)).mono ?_
            rintro e w11 ⟨v11, O11, rfl, hp, -, ho, hb⟩
            obtain ⟨A11, c11, rfl⟩ := Kd.R_slice ho
            rw [hp.length_eq]
            have R11 := Lib.hid (R10.out.below hb)
            have B11 := Lib.hid (below_step B10.out hb)
            have hlt : decide ((L2.length : Int) < (L.length : Int)) = false := decide_eq_false (by have := HL2.out; omega)
            have hlt2 : (L2.length < L.length) = False := eq_false (by have := HL2.out; omega)
            clear hb hp ho R10 B10
            go_wp2
            go_roundg (l.length - (i + 1))
            case measure => have := HK.out; have := HIL.out; omega
            case rel => exact ⟨i + 1, L2, by simp, Lib.hid HIL.out, Lib.hid (by omega), R11, Lib.hid (by have := HL2.out; have := HLN.out; omega), B11⟩
          | true =>
            have HNL := Lib.hid (HNL0 rfl)
            clear HNL0
            have hC8 := blk_alloc C7.out (.cells #[.string c.f0, .int .i64 c.f1.f0, .int .i64 c.f1.f1, .int .i64 c.f2.f0, .int .i64 c.f2.f1, .string c.f2.f2] 33)
            have hD8 := blk_alloc D7.out (.cells #[.string c.f0, .int .i64 c.f1.f0, .int .i64 c.f1.f1, .int .i64 c.f2.f0, .int .i64 c.f2.f1, .string c.f2.f2] 33)
            have hE8 := heap_alloc_new w7 (.cells #[.string c.f0, .int .i64 c.f1.f0, .int .i64 c.f1.f1, .int .i64 c.f2.f0, .int .i64 c.f2.f1, .string c.f2.f2] 33)
            have R8 := Lib.hid (R7.out.alloc (.cells #[.string c.f0, .int .i64 c.f1.f0, .int .i64 c.f1.f1, .int .i64 c.f2.f0, .int .i64 c.f2.f1, .string c.f2.f2] 33))
            have B8 := Lib.hid (below_alloc B7.out (.cells #[.string c.f0, .int .i64 c.f1.f0, .int .i64 c.f1.f1, .int .i64 c.f2.f0, .int .i64 c.f2.f1, .string c.f2.f2] 33))
            have k0 : (w7.alloc (.cells #[.string c.f0, .int .i64 c.f1.f0, .int .i64 c.f1.f1, .int .i64 c.f2.f0, .int .i64 c.f2.f1, .string c.f2.f2] 33)).cell? ⟨a5, 0, none⟩ = some (.string c.f0) := (blk_cell hC8 0).trans rfl
            have k1 : (w7.alloc (.cells #[.string c.f0, .int .i64 c.f1.f0, .int .i64 c.f1.f1, .int .i64 c.f2.f0, .int .i64 c.f2.f1, .string c.f2.f2] 33)).cell? ⟨a5, 1, none⟩ = some (.int .i64 c.f1.f0) := (blk_cell hC8 1).trans rfl
            have k2 : (w7.alloc (.cells #[.string c.f0, .int .i64 c.f1.f0, .int .i64 c.f1.f1, .int .i64 c.f2.f0, .int .i64 c.f2.f1, .string c.f2.f2] 33)).cell? ⟨a5, 2, none⟩ = some (.int .i64 c.f1.f1) := (blk_cell hC8 2).trans rfl
            have k3 : (w7.alloc (.cells #[.string c.f0, .int .i64 c.f1.f0, .int .i64 c.f1.f1, .int .i64 c.f2.f0, .int .i64 c.f2.f1, .string c.f2.f2] 33)).cell? ⟨a5, 3, none⟩ = some (.int .i64 c.f2.f0) := (blk_cell hC8 3).trans rfl
            have k4 : (w7.alloc (.cells #[.string c.f0, .int .i64 c.f1.f0, .int .i64 c.f1.f1, .int .i64 c.f2.f0, .int .i64 c.f2.f1, .string c.f2.f2] 33)).cell? ⟨a5, 4, none⟩ = some (.int .i64 c.f2.f1) := (blk_cell hC8 4).trans rfl
            have k5 : (w7.alloc (.cells #[.string c.f0, .int .i64 c.f1.f0, .int .i64 c.f1.f1, .int .i64 c.f2.f0, .int .i64 c.f2.f1, .string c.f2.f2] 33)).cell? ⟨a5, 5, none⟩ = some (.string c.f2.f2) := (blk_cell hC8 5).trans rfl
            have m0 : (w7.alloc (.cells #[.string c.f0, .int .i64 c.f1.f0, .int .i64 c.f1.f1, .int .i64 c.f2.f0, .int .i64 c.f2.f1, .string c.f2.f2] 33)).cell? ⟨a6, 0, none⟩ = some (.string was.f0) := (blk_cell hD8 0).trans rfl
            have m1 : (w7.alloc (.cells #[.string c.f0, .int .i64 c.f1.f0, .int .i64 c.f1.f1, .int .i64 c.f2.f0, .int .i64 c.f2.f1, .string c.f2.f2] 33)).cell? ⟨a6, 1, none⟩ = some (.int .i64 was.f1.f0) := (blk_cell hD8 1).trans rfl
            have m2 : (w7.alloc (.cells #[.string c.f0, .int .i64 c.f1.f0, .int .i64 c.f1.f1, .int .i64 c.f2.f0, .int .i64 c.f2.f1, .string c.f2.f2] 33)).cell? ⟨a6, 2, none⟩ = some (.int .i64 was.f1.f1) := (blk_cell hD8 2).trans rfl
            have m3 : (w7.alloc (.cells #[.string c.f0, .int .i64 c.f1.f0, .int .i64 c.f1.f1, .int .i64 c.f2.f0, .int .i64 c.f2.f1, .string c.f2.f2] 33)).cell? ⟨a6, 3, none⟩ = some (.int .i64 was.f2.f0) := (blk_cell hD8 3).trans rfl
            have m4 : (w7.alloc (.cells #[.string c.f0, .int .i64 c.f1.f0, .int .i64 c.f1.f1, .int .i64 c.f2.f0, .int .i64 c.f2.f1, .string c.f2.f2] 33)).cell? ⟨a6, 4, none⟩ = some (.int .i64 was.f2.f1) := (blk_cell hD8 4).trans rfl
            have m5 : (w7.alloc (.cells #[.string c.f0, .int .i64 c.f1.f0, .int .i64 c.f1.f1, .int .i64 c.f2.f0, .int .i64 c.f2.f1, .string c.f2.f2] 33)).cell? ⟨a6, 5, none⟩ = some (.string was.f2.f2) := (blk_cell hD8 5).trans rfl
            have n0 : (w7.alloc (.cells #[.string c.f0, .int .i64 c.f1.f0, .int .i64 c.f1.f1, .int .i64 c.f2.f0, .int .i64 c.f2.f1, .string c.f2.f2] 33)).cell? ⟨w7.heap.size, 0, none⟩ = some (.string c.f0) := (blk_cell hE8 0).trans rfl
            have n1 : (w7.alloc (.cells #[.string c.f0, .int .i64 c.f1.f0, .int .i64 c.f1.f1, .int .i64 c.f2.f0, .int .i64 c.f2.f1, .string c.f2.f2] 33)).cell? ⟨w7.heap.size, 1, none⟩ = some (.int .i64 c.f1.f0) := (blk_cell hE8 1).trans rfl
            have n2 : (w7.alloc (.cells #[.string c.f0, .int .i64 c.f1.f0, .int .i64 c.f1.f1, .int .i64 c.f2.f0, .int .i64 c.f2.f1, .string c.f2.f2] 33)).cell? ⟨w7.heap.size, 2, none⟩ = some (.int .i64 c.f1.f1) := (blk_cell hE8 2).trans rfl
            have n3 : (w7.alloc (.cells #[.string c.f0, .int .i64 c.f1.f0, .int .i64 c.f1.f1, .int .i64 c.f2.f0, .int .i64 c.f2.f1, .string c.f2.f2] 33)).cell? ⟨w7.heap.size, 3, none⟩ = some (.int .i64 c.f2.f0) := (blk_cell hE8 3).trans rfl
            have n4 : (w7.alloc (.cells #[.string c.f0, .int .i64 c.f1.f0, .int .i64 c.f1.f1, .int .i64 c.f2.f0, .int .i64 c.f2.f1, .string c.f2.f2] 33)).cell? ⟨w7.heap.size, 4, none⟩ = some (.int .i64 c.f2.f1) := (blk_cell hE8 4).trans rfl
            have n5 : (w7.alloc (.cells #[.string c.f0, .int .i64 c.f1.f0, .int .i64 c.f1.f1, .int .i64 c.f2.f0, .int .i64 c.f2.f1, .string c.f2.f2] 33)).cell? ⟨w7.heap.size, 5, none⟩ = some (.string c.f2.f2) := (blk_cell hE8 5).trans rfl
            have C8 := Lib.hid hC8
            have D8 := Lib.hid hD8
            have E8 := Lib.hid hE8
            clear hC8 hD8 hE8 R7 B7 C7 D7
            go_wp2_with fail
            refine (latest_Later.calls 100 was.f1.f0 was.f1.f1 c.f1.f0 c.f1.f1 false _ ((later_is _ _ _ _ 100 (by omega)).trans (congrArg some (decide_eq_false (Int.not_lt.2 HNL.out))))).mono ?_
            rintro e w9 ⟨rfl, hb⟩
            have R9 := Lib.hid (R8.out.below hb)
            have hC9 := blk_below C8.out hb
            have hD9 := blk_below (g := a6) (o := (.cells #[.string was.f0, .int .i64 was.f1.f0, .int .i64 was.f1.f1, .int .i64 was.f2.f0, .int .i64 was.f2.f1, .string was.f2.f2] 33)) D8.out hb
            have hE9 := blk_below (o := (.cells #[.string c.f0, .int .i64 c.f1.f0, .int .i64 c.f1.f1, .int .i64 c.f2.f0, .int .i64 c.f2.f1, .string c.f2.f2] 33)) E8.out hb
            have B9 := Lib.hid (below_step B8.out hb)
            have p0 : w9.cell? ⟨a5, 0, none⟩ = some (.string c.f0) := (blk_cell hC9 0).trans rfl
            have p1 : w9.cell? ⟨a5, 1, none⟩ = some (.int .i64 c.f1.f0) := (blk_cell hC9 1).trans rfl
            have p2 : w9.cell? ⟨a5, 2, none⟩ = some (.int .i64 c.f1.f1) := (blk_cell hC9 2).trans rfl
            have p3 : w9.cell? ⟨a5, 3, none⟩ = some (.int .i64 c.f2.f0) := (blk_cell hC9 3).trans rfl
            have p4 : w9.cell? ⟨a5, 4, none⟩ = some (.int .i64 c.f2.f1) := (blk_cell hC9 4).trans rfl
            have p5 : w9.cell? ⟨a5, 5, none⟩ = some (.string c.f2.f2) := (blk_cell hC9 5).trans rfl
            have q0 : w9.cell? ⟨a6, 0, none⟩ = some (.string was.f0) := (blk_cell hD9 0).trans rfl
            have q1 : w9.cell? ⟨a6, 1, none⟩ = some (.int .i64 was.f1.f0) := (blk_cell hD9 1).trans rfl
            have q2 : w9.cell? ⟨a6, 2, none⟩ = some (.int .i64 was.f1.f1) := (blk_cell hD9 2).trans rfl
            have q3 : w9.cell? ⟨a6, 3, none⟩ = some (.int .i64 was.f2.f0) := (blk_cell hD9 3).trans rfl
            have q4 : w9.cell? ⟨a6, 4, none⟩ = some (.int .i64 was.f2.f1) := (blk_cell hD9 4).trans rfl
            have q5 : w9.cell? ⟨a6, 5, none⟩ = some (.string was.f2.f2) := (blk_cell hD9 5).trans rfl
            have r0 : w9.cell? ⟨w7.heap.size, 0, none⟩ = some (.string c.f0) := (blk_cell hE9 0).trans rfl
            have r1 : w9.cell? ⟨w7.heap.size, 1, none⟩ = some (.int .i64 c.f1.f0) := (blk_cell hE9 1).trans rfl
            have r2 : w9.cell? ⟨w7.heap.size, 2, none⟩ = some (.int .i64 c.f1.f1) := (blk_cell hE9 2).trans rfl
            have r3 : w9.cell? ⟨w7.heap.size, 3, none⟩ = some (.int .i64 c.f2.f0) := (blk_cell hE9 3).trans rfl
            have r4 : w9.cell? ⟨w7.heap.size, 4, none⟩ = some (.int .i64 c.f2.f1) := (blk_cell hE9 4).trans rfl
            have r5 : w9.cell? ⟨w7.heap.size, 5, none⟩ = some (.string c.f2.f2) := (blk_cell hE9 5).trans rfl
            have C9 := Lib.hid hC9
            clear hb hC9 hD9 hE9 R8 B8 C8 D8 E8 k0 k1 k2 k3 k4 k5 m0 m1 m2 m3 m4 m5 n0 n1 n2 n3 n4 n5
            go_wp2_with fail
            refine (Put_calls (b + 1) b L' c _ R9.out HCK.out).mono ?_
            rintro e w10 ⟨rfl, L2, hr, hk, -, -, hl1, hl2⟩
            have hl3 := LL6.out
            have hl4 := LM6.out
            rw [HNC.out]
            have R10 := Lib.hid hr
            have B10 := Lib.hid (hk.below B9.out HG.out B9.out.size)
            have HL2 : Hid (L2.length ≤ L.length + 2 ∧ L.length ≤ L2.length) := Lib.hid ⟨by omega, by omega⟩
            clear hr hk hl1 hl2 hl3 hl4
            generalize errC c = en2
            go_wp2_with fail
            refine (All_calls (b + 1) b L2 _ R10.out (by have := HL2.out; have := HLN.out; have := HI.out; have := HL8.out; omega)).mono ?_
            rintro e w11 ⟨v11, O11, rfl, hp, -, ho, hb⟩
            obtain ⟨A11, c11, rfl⟩ := Kd.R_slice ho
            rw [hp.length_eq]
            have R11 := Lib.hid (R10.out.below hb)
            have B11 := Lib.hid (below_step B10.out hb)
            have hlt : decide ((L2.length : Int) < (L.length : Int)) = false := decide_eq_false (by have := HL2.out; omega)
            have hlt2 : (L2.length < L.length) = False := eq_false (by have := HL2.out; omega)
            clear hb hp ho R10 B10
            go_wp2
            go_roundg (l.length - (i + 1))
            case measure => have := HK.out; have := HIL.out; omega
            case rel => exact ⟨i + 1, L2, by simp, Lib.hid HIL.out, Lib.hid (by omega), R11, Lib.hid (by have := HL2.out; have := HLN.out; omega), B11⟩
        | false =>
          have hno : getL L' c.f0 = getL L c.f0 := by rw [hge, if_neg (by rw [hct]; simp)]
          have HNC := Lib.hid (show counts (getL L' c.f0) c = false by rw [hno]; exact hct)
          rw [hno, HWAS.out, HTH.out]
          simp only [val33]
          clear hno hge hct G6
          cases there with
          | false =>
            have hC8 := blk_alloc C7.out (.cells #[.string was.f0, .int .i64 was.f1.f0, .int .i64 was.f1.f1, .int .i64 was.f2.f0, .int .i64 was.f2.f1, .string was.f2.f2] 33)
            have hD8 := blk_alloc D7.out (.cells #[.string was.f0, .int .i64 was.f1.f0, .int .i64 was.f1.f1, .int .i64 was.f2.f0, .int .i64 was.f2.f1, .string was.f2.f2] 33)
            have hE8 := heap_alloc_new w7 (.cells #[.string was.f0, .int .i64 was.f1.f0, .int .i64 was.f1.f1, .int .i64 was.f2.f0, .int .i64 was.f2.f1, .string was.f2.f2] 33)
            have R8 := Lib.hid (R7.out.alloc (.cells #[.string was.f0, .int .i64 was.f1.f0, .int .i64 was.f1.f1, .int .i64 was.f2.f0, .int .i64 was.f2.f1, .string was.f2.f2] 33))
            have B8 := Lib.hid (below_alloc B7.out (.cells #[.string was.f0, .int .i64 was.f1.f0, .int .i64 was.f1.f1, .int .i64 was.f2.f0, .int .i64 was.f2.f1, .string was.f2.f2] 33))
            have k0 : (w7.alloc (.cells #[.string was.f0, .int .i64 was.f1.f0, .int .i64 was.f1.f1, .int .i64 was.f2.f0, .int .i64 was.f2.f1, .string was.f2.f2] 33)).cell? ⟨a5, 0, none⟩ = some (.string c.f0) := (blk_cell hC8 0).trans rfl
            have k1 : (w7.alloc (.cells #[.string was.f0, .int .i64 was.f1.f0, .int .i64 was.f1.f1, .int .i64 was.f2.f0, .int .i64 was.f2.f1, .string was.f2.f2] 33)).cell? ⟨a5, 1, none⟩ = some (.int .i64 c.f1.f0) := (blk_cell hC8 1).trans rfl
            have k2 : (w7.alloc (.cells #[.string was.f0, .int .i64 was.f1.f0, .int .i64 was.f1.f1, .int .i64 was.f2.f0, .int .i64 was.f2.f1, .string was.f2.f2] 33)).cell? ⟨a5, 2, none⟩ = some (.int .i64 c.f1.f1) := (blk_cell hC8 2).trans rfl
            have k3 : (w7.alloc (.cells #[.string was.f0, .int .i64 was.f1.f0, .int .i64 was.f1.f1, .int .i64 was.f2.f0, .int .i64 was.f2.f1, .string was.f2.f2] 33)).cell? ⟨a5, 3, none⟩ = some (.int .i64 c.f2.f0) := (blk_cell hC8 3).trans rfl
            have k4 : (w7.alloc (.cells #[.string was.f0, .int .i64 was.f1.f0, .int .i64 was.f1.f1, .int .i64 was.f2.f0, .int .i64 was.f2.f1, .string was.f2.f2] 33)).cell? ⟨a5, 4, none⟩ = some (.int .i64 c.f2.f1) := (blk_cell hC8 4).trans rfl
            have k5 : (w7.alloc (.cells #[.string was.f0, .int .i64 was.f1.f0, .int .i64 was.f1.f1, .int .i64 was.f2.f0, .int .i64 was.f2.f1, .string was.f2.f2] 33)).cell? ⟨a5, 5, none⟩ = some (.string c.f2.f2) := (blk_cell hC8 5).trans rfl
            have m0 : (w7.alloc (.cells #[.string was.f0, .int .i64 was.f1.f0, .int .i64 was.f1.f1, .int .i64 was.f2.f0, .int .i64 was.f2.f1, .string was.f2.f2] 33)).cell? ⟨a6, 0, none⟩ = some (.string was.f0) := (blk_cell hD8 0).trans rfl
            have m1 : (w7.alloc (.cells #[.string was.f0, .int .i64 was.f1.f0, .int .i64 was.f1.f1, .int .i64 was.f2.f0, .int .i64 was.f2.f1, .string was.f2.f2] 33)).cell? ⟨a6, 1, none⟩ = some (.int .i64 was.f1.f0) := (blk_cell hD8 1).trans rfl
            have m2 : (w7.alloc (.cells #[.string was.f0, .int .i64 was.f1.f0, .int .i64 was.f1.f1, .int .i64 was.f2.f0, .int .i64 was.f2.f1, .string was.f2.f2] 33)).cell? ⟨a6, 2, none⟩ = some (.int .i64 was.f1.f1) := (blk_cell hD8 2).trans rfl
            have m3 : (w7.alloc (.cells #[.string was.f0, .int .i64 was.f1.f0, .int .i64 was.f1.f1, .int .i64 was.f2.f0, .int .i64 was.f2.f1, .string was.f2.f2] 33)).cell? ⟨a6, 3, none⟩ = some (.int .i64 was.f2.f0) := (blk_cell hD8 3).trans rfl
            have m4 : (w7.alloc (.cells #[.string was.f0, .int .i64 was.f1.f0, .int .i64 was.f1.f1, .int .i64 was.f2.f0, .int .i64 was.f2.f1, .string was.f2.f2] 33)).cell? ⟨a6, 4, none⟩ = some (.int .i64 was.f2.f1) := (blk_cell hD8 4).trans rfl
            have m5 : (w7.alloc (.cells #[.string was.f0, .int .i64 was.f1.f0, .int .i64 was.f1.f1, .int .i64 was.f2.f0, .int .i64 was.f2.f1, .string was.f2.f2] 33)).cell? ⟨a6, 5, none⟩ = some (.string was.f2.f2) := (blk_cell hD8 5).trans rfl
            have n0 : (w7.alloc (.cells #[.string was.f0, .int .i64 was.f1.f0, .int .i64 was.f1.f1, .int .i64 was.f2.f0, .int .i64 was.f2.f1, .string was.f2.f2] 33)).cell? ⟨w7.heap.size, 0, none⟩ = some (.string was.f0) := (blk_cell hE8 0).trans rfl
            have n1 : (w7.alloc (.cells #[.string was.f0, .int .i64 was.f1.f0, .int .i64 was.f1.f1, .int .i64 was.f2.f0, .int .i64 was.f2.f1, .string was.f2.f2] 33)).cell? ⟨w7.heap.size, 1, none⟩ = some (.int .i64 was.f1.f0) := (blk_cell hE8 1).trans rfl
            have n2 : (w7.alloc (.cells #[.string was.f0, .int .i64 was.f1.f0, .int .i64 was.f1.f1, .int .i64 was.f2.f0, .int .i64 was.f2.f1, .string was.f2.f2] 33)).cell? ⟨w7.heap.size, 2, none⟩ = some (.int .i64 was.f1.f1) := (blk_cell hE8 2).trans rfl
            have n3 : (w7.alloc (.cells #[.string was.f0, .int .i64 was.f1.f0, .int .i64 was.f1.f1, .int .i64 was.f2.f0, .int .i64 was.f2.f1, .string was.f2.f2] 33)).cell? ⟨w7.heap.size, 3, none⟩ = some (.int .i64 was.f2.f0) := (blk_cell hE8 3).trans rfl
            have n4 : (w7.alloc (.cells #[.string was.f0, .int .i64 was.f1.f0, .int .i64 was.f1.f1, .int .i64 was.f2.f0, .int .i64 was.f2.f1, .string was.f2.f2] 33)).cell? ⟨w7.heap.size, 4, none⟩ = some (.int .i64 was.f2.f1) := (blk_cell hE8 4).trans rfl
            have n5 : (w7.alloc (.cells #[.string was.f0, .int .i64 was.f1.f0, .int .i64 was.f1.f1, .int .i64 was.f2.f0, .int .i64 was.f2.f1, .string was.f2.f2] 33)).cell? ⟨w7.heap.size, 5, none⟩ = some (.string was.f2.f2) := (blk_cell hE8 5).trans rfl
            have C8 := Lib.hid hC8
            clear hC8 hD8 hE8 R7 B7 C7 D7
            go_wp2_with fail
            refine (Put_calls (b + 1) b L' c _ R8.out HCK.out).mono ?_
            rintro e w10 ⟨rfl, L2, hr, hk, -, -, hl1, hl2⟩
            have hl3 := LL6.out
            have hl4 := LM6.out
            rw [HNC.out]
            have R10 := Lib.hid hr
            have B10 := Lib.hid (hk.below B8.out HG.out B8.out.size)
            have HL2 : Hid (L2.length ≤ L.length + 2 ∧ L.length ≤ L2.length) := Lib.hid ⟨by omega, by omega⟩
            clear hr hk hl1 hl2 hl3 hl4
            generalize errC c = en2
            go_wp2_with fail
            refine (All_calls (b + 1) b L2 _ R10.out (by have := HL2.out; have := HLN.out; have := HI.out; have := HL8.out; omega)).mono ?_
            rintro e w11 ⟨v11, O11, rfl, hp, -, ho, hb⟩
            obtain ⟨A11, c11, rfl⟩ := Kd.R_slice ho
            rw [hp.length_eq]
            have R11 := Lib.hid (R10.out.below hb)
            have B11 := Lib.hid (below_step B10.out hb)
            have hlt : decide ((L2.length : Int) < (L.length : Int)) = false := decide_eq_false (by have := HL2.out; omega)
            have hlt2 : (L2.length < L.length) = False := eq_false (by have := HL2.out; omega)
            clear hb hp ho R10 B10
            go_wp2
            go_roundg (l.length - (i + 1))
            case measure => have := HK.out; have := HIL.out; omega
            case rel => exact ⟨i + 1, L2, by simp, Lib.hid HIL.out, Lib.hid (by omega), R11, Lib.hid (by have := HL2.out; have := HLN.out; omega), B11⟩
          | true =>
            have HNL : Hid (ordI was.f1.f0 was.f1.f1 was.f1.f0 was.f1.f1 ≤ 0) := Lib.hid (by rw [ord_self]; omega)
            have hC8 := blk_alloc C7.out (.cells #[.string was.f0, .int .i64 was.f1.f0, .int .i64 was.f1.f1, .int .i64 was.f2.f0, .int .i64 was.f2.f1, .string was.f2.f2] 33)
            have hD8 := blk_alloc D7.out (.cells #[.string was.f0, .int .i64 was.f1.f0, .int .i64 was.f1.f1, .int .i64 was.f2.f0, .int .i64 was.f2.f1, .string was.f2.f2] 33)
            have hE8 := heap_alloc_new w7 (.cells #[.string was.f0, .int .i64 was.f1.f0, .int .i64 was.f1.f1, .int .i64 was.f2.f0, .int .i64 was.f2.f1, .string was.f2.f2] 33)
            have R8 := Lib.hid (R7.out.alloc (.cells #[.string was.f0, .int .i64 was.f1.f0, .int .i64 was.f1.f1, .int .i64 was.f2.f0, .int .i64 was.f2.f1, .string was.f2.f2] 33))
            have B8 := Lib.hid (below_alloc B7.out (.cells #[.string was.f0, .int .i64 was.f1.f0, .int .i64 was.f1.f1, .int .i64 was.f2.f0, .int .i64 was.f2.f1, .string was.f2.f2] 33))
            have k0 : (w7.alloc (.cells #[.string was.f0, .int .i64 was.f1.f0, .int .i64 was.f1.f1, .int .i64 was.f2.f0, .int .i64 was.f2.f1, .string was.f2.f2] 33)).cell? ⟨a5, 0, none⟩ = some (.string c.f0) := (blk_cell hC8 0).trans rfl
            have k1 : (w7.alloc (.cells #[.string was.f0, .int .i64 was.f1.f0, .int .i64 was.f1.f1, .int .i64 was.f2.f0, .int .i64 was.f2.f1, .string was.f2.f2] 33)).cell? ⟨a5, 1, none⟩ = some (.int .i64 c.f1.f0) := (blk_cell hC8 1).trans rfl
            have k2 : (w7.alloc (.cells #[.string was.f0, .int .i64 was.f1.f0, .int .i64 was.f1.f1, .int .i64 was.f2.f0, .int .i64 was.f2.f1, .string was.f2.f2] 33)).cell? ⟨a5, 2, none⟩ = some (.int .i64 c.f1.f1) := (blk_cell hC8 2).trans rfl
            have k3 : (w7.alloc (.cells #[.string was.f0, .int .i64 was.f1.f0, .int .i64 was.f1.f1, .int .i64 was.f2.f0, .int .i64 was.f2.f1, .string was.f2.f2] 33)).cell? ⟨a5, 3, none⟩ = some (.int .i64 c.f2.f0) := (blk_cell hC8 3).trans rfl
            have k4 : (w7.alloc (.cells #[.string was.f0, .int .i64 was.f1.f0, .int .i64 was.f1.f1, .int .i64 was.f2.f0, .int .i64 was.f2.f1, .string was.f2.f2] 33)).cell? ⟨a5, 4, none⟩ = some (.int .i64 c.f2.f1) := (blk_cell hC8 4).trans rfl
            have k5 : (w7.alloc (.cells #[.string was.f0, .int .i64 was.f1.f0, .int .i64 was.f1.f1, .int .i64 was.f2.f0, .int .i64 was.f2.f1, .string was.f2.f2] 33)).cell? ⟨a5, 5, none⟩ = some (.string c.f2.f2) := (blk_cell hC8 5).trans rfl
            have m0 : (w7.alloc (.cells #[.string was.f0, .int .i64 was.f1.f0, .int .i64 was.f1.f1, .int .i64 was.f2.f0, .int .i64 was.f2.f1, .string was.f2.f2] 33)).cell? ⟨a6, 0, none⟩ = some (.string was.f0) := (blk_cell hD8 0).trans rfl
            have m1 : (w7.alloc (.cells #[.string was.f0, .int .i64 was.f1.f0, .int .i64 was.f1.f1, .int .i64 was.f2.f0, .int .i64 was.f2.f1, .string was.f2.f2] 33)).cell? ⟨a6, 1, none⟩ = some (.int .i64 was.f1.f0) := (blk_cell hD8 1).trans rfl
            have m2 : (w7.alloc (.cells #[.string was.f0, .int .i64 was.f1.f0, .int .i64 was.f1.f1, .int .i64 was.f2.f0, .int .i64 was.f2.f1, .string was.f2.f2] 33)).cell? ⟨a6, 2, none⟩ = some (.int .i64 was.f1.f1) := (blk_cell hD8 2).trans rfl
            have m3 : (w7.alloc (.cells #[.string was.f0, .int .i64 was.f1.f0, .int .i64 was.f1.f1, .int .i64 was.f2.f0, .int .i64 was.f2.f1, .string was.f2.f2] 33)).cell? ⟨a6, 3, none⟩ = some (.int .i64 was.f2.f0) := (blk_cell hD8 3).trans rfl
            have m4 : (w7.alloc (.cells #[.string was.f0, .int .i64 was.f1.f0, .int .i64 was.f1.f1, .int .i64 was.f2.f0, .int .i64 was.f2.f1, .string was.f2.f2] 33)).cell? ⟨a6, 4, none⟩ = some (.int .i64 was.f2.f1) := (blk_cell hD8 4).trans rfl
            have m5 : (w7.alloc (.cells #[.string was.f0, .int .i64 was.f1.f0, .int .i64 was.f1.f1, .int .i64 was.f2.f0, .int .i64 was.f2.f1, .string was.f2.f2] 33)).cell? ⟨a6, 5, none⟩ = some (.string was.f2.f2) := (blk_cell hD8 5).trans rfl
            have n0 : (w7.alloc (.cells #[.string was.f0, .int .i64 was.f1.f0, .int .i64 was.f1.f1, .int .i64 was.f2.f0, .int .i64 was.f2.f1, .string was.f2.f2] 33)).cell? ⟨w7.heap.size, 0, none⟩ = some (.string was.f0) := (blk_cell hE8 0).trans rfl
            have n1 : (w7.alloc (.cells #[.string was.f0, .int .i64 was.f1.f0, .int .i64 was.f1.f1, .int .i64 was.f2.f0, .int .i64 was.f2.f1, .string was.f2.f2] 33)).cell? ⟨w7.heap.size, 1, none⟩ = some (.int .i64 was.f1.f0) := (blk_cell hE8 1).trans rfl
            have n2 : (w7.alloc (.cells #[.string was.f0, .int .i64 was.f1.f0, .int .i64 was.f1.f1, .int .i64 was.f2.f0, .int .i64 was.f2.f1, .string was.f2.f2] 33)).cell? ⟨w7.heap.size, 2, none⟩ = some (.int .i64 was.f1.f1) := (blk_cell hE8 2).trans rfl
            have n3 : (w7.alloc (.cells #[.string was.f0, .int .i64 was.f1.f0, .int .i64 was.f1.f1, .int .i64 was.f2.f0, .int .i64 was.f2.f1, .string was.f2.f2] 33)).cell? ⟨w7.heap.size, 3, none⟩ = some (.int .i64 was.f2.f0) := (blk_cell hE8 3).trans rfl
            have n4 : (w7.alloc (.cells #[.string was.f0, .int .i64 was.f1.f0, .int .i64 was.f1.f1, .int .i64 was.f2.f0, .int .i64 was.f2.f1, .string was.f2.f2] 33)).cell? ⟨w7.heap.size, 4, none⟩ = some (.int .i64 was.f2.f1) := (blk_cell hE8 4).trans rfl
            have n5 : (w7.alloc (.cells #[.string was.f0, .int .i64 was.f1.f0, .int .i64 was.f1.f1, .int .i64 was.f2.f0, .int .i64 was.f2.f1, .string was.f2.f2] 33)).cell? ⟨w7.heap.size, 5, none⟩ = some (.string was.f2.f2) := (blk_cell hE8 5).trans rfl
            have C8 := Lib.hid hC8
            have D8 := Lib.hid hD8
            have E8 := Lib.hid hE8
            clear hC8 hD8 hE8 R7 B7 C7 D7
            go_wp2_with fail
            refine (latest_Later.calls 100 was.f1.f0 was.f1.f1 was.f1.f0 was.f1.f1 false _ ((later_is _ _ _ _ 100 (by omega)).trans (congrArg some (decide_eq_false (Int.not_lt.2 HNL.out))))).mono ?_
            rintro e w9 ⟨rfl, hb⟩
            have R9 := Lib.hid (R8.out.below hb)
            have hC9 := blk_below C8.out hb
            have hD9 := blk_below (g := a6) (o := (.cells #[.string was.f0, .int .i64 was.f1.f0, .int .i64 was.f1.f1, .int .i64 was.f2.f0, .int .i64 was.f2.f1, .string was.f2.f2] 33)) D8.out hb
            have hE9 := blk_below (o := (.cells #[.string was.f0, .int .i64 was.f1.f0, .int .i64 was.f1.f1, .int .i64 was.f2.f0, .int .i64 was.f2.f1, .string was.f2.f2] 33)) E8.out hb
            have B9 := Lib.hid (below_step B8.out hb)
            have p0 : w9.cell? ⟨a5, 0, none⟩ = some (.string c.f0) := (blk_cell hC9 0).trans rfl
            have p1 : w9.cell? ⟨a5, 1, none⟩ = some (.int .i64 c.f1.f0) := (blk_cell hC9 1).trans rfl
            have p2 : w9.cell? ⟨a5, 2, none⟩ = some (.int .i64 c.f1.f1) := (blk_cell hC9 2).trans rfl
            have p3 : w9.cell? ⟨a5, 3, none⟩ = some (.int .i64 c.f2.f0) := (blk_cell hC9 3).trans rfl
            have p4 : w9.cell? ⟨a5, 4, none⟩ = some (.int .i64 c.f2.f1) := (blk_cell hC9 4).trans rfl
            have p5 : w9.cell? ⟨a5, 5, none⟩ = some (.string c.f2.f2) := (blk_cell hC9 5).trans rfl
            have q0 : w9.cell? ⟨a6, 0, none⟩ = some (.string was.f0) := (blk_cell hD9 0).trans rfl
            have q1 : w9.cell? ⟨a6, 1, none⟩ = some (.int .i64 was.f1.f0) := (blk_cell hD9 1).trans rfl
            have q2 : w9.cell? ⟨a6, 2, none⟩ = some (.int .i64 was.f1.f1) := (blk_cell hD9 2).trans rfl
            have q3 : w9.cell? ⟨a6, 3, none⟩ = some (.int .i64 was.f2.f0) := (blk_cell hD9 3).trans rfl
            have q4 : w9.cell? ⟨a6, 4, none⟩ = some (.int .i64 was.f2.f1) := (blk_cell hD9 4).trans rfl
            have q5 : w9.cell? ⟨a6, 5, none⟩ = some (.string was.f2.f2) := (blk_cell hD9 5).trans rfl
            have r0 : w9.cell? ⟨w7.heap.size, 0, none⟩ = some (.string was.f0) := (blk_cell hE9 0).trans rfl
            have r1 : w9.cell? ⟨w7.heap.size, 1, none⟩ = some (.int .i64 was.f1.f0) := (blk_cell hE9 1).trans rfl
            have r2 : w9.cell? ⟨w7.heap.size, 2, none⟩ = some (.int .i64 was.f1.f1) := (blk_cell hE9 2).trans rfl
            have r3 : w9.cell? ⟨w7.heap.size, 3, none⟩ = some (.int .i64 was.f2.f0) := (blk_cell hE9 3).trans rfl
            have r4 : w9.cell? ⟨w7.heap.size, 4, none⟩ = some (.int .i64 was.f2.f1) := (blk_cell hE9 4).trans rfl
            have r5 : w9.cell? ⟨w7.heap.size, 5, none⟩ = some (.string was.f2.f2) := (blk_cell hE9 5).trans rfl
            have C9 := Lib.hid hC9
            clear hb hC9 hD9 hE9 R8 B8 C8 D8 E8 k0 k1 k2 k3 k4 k5 m0 m1 m2 m3 m4 m5 n0 n1 n2 n3 n4 n5
            go_wp2_with fail
            refine (Put_calls (b + 1) b L' c _ R9.out HCK.out).mono ?_
            rintro e w10 ⟨rfl, L2, hr, hk, -, -, hl1, hl2⟩
            have hl3 := LL6.out
            have hl4 := LM6.out
            rw [HNC.out]
            have R10 := Lib.hid hr
            have B10 := Lib.hid (hk.below B9.out HG.out B9.out.size)
            have HL2 : Hid (L2.length ≤ L.length + 2 ∧ L.length ≤ L2.length) := Lib.hid ⟨by omega, by omega⟩
            clear hr hk hl1 hl2 hl3 hl4
            generalize errC c = en2
            go_wp2_with fail
            refine (All_calls (b + 1) b L2 _ R10.out (by have := HL2.out; have := HLN.out; have := HI.out; have := HL8.out; omega)).mono ?_
            rintro e w11 ⟨v11, O11, rfl, hp, -, ho, hb⟩
            obtain ⟨A11, c11, rfl⟩ := Kd.R_slice ho
            rw [hp.length_eq]
            have R11 := Lib.hid (R10.out.below hb)
            have B11 := Lib.hid (below_step B10.out hb)
            have hlt : decide ((L2.length : Int) < (L.length : Int)) = false := decide_eq_false (by have := HL2.out; omega)
            have hlt2 : (L2.length < L.length) = False := eq_false (by have := HL2.out; omega)
            clear hb hp ho R10 B10
            go_wp2
            go_roundg (l.length - (i + 1))
            case measure => have := HK.out; have := HIL.out; omega
            case rel => exact ⟨i + 1, L2, by simp, Lib.hid HIL.out, Lib.hid (by omega), R11, Lib.hid (by have := HL2.out; have := HLN.out; omega), B11⟩
      · go_wp2
        go_ret
        exact ⟨rfl, HB.out⟩
end Go.Proofs.YtjacpmmlkgcjjaaDoor.Latest
