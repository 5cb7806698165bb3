/- LatestPuts, walked: it answers true. -/
import Derived.Test.YtjacpmmlkgcjjaaDoorAhead
import Derived.Deep.RegionHeld3
namespace Go.Proofs.YtjacpmmlkgcjjaaDoor.Latest
open Go.RowKit Go.ChangeMaps Go.Shelf Go.Sort Go.Proofs.YtjacpmmlkgcjjaaDoorW.PrintWords Go.Proofs.YtjacpmmlkgcjjaaDoorW.PrintLast Go.Proofs.YtjacpmmlkgcjjaaDoor.Given Go.Proofs.YtjacpmmlkgcjjaaDoor.PA Go.Proofs.YtjacpmmlkgcjjaaDoor.Val
open Go.Maps (Keyed string_keyed)
open Go.WideMaps
set_option linter.unusedVariables false
set_option linter.unusedSimpArgs false
theorem new_reg {w w1 : World} (h : (w.alloc (.map #[] 0)).alloc (.cells #[.map (some w.heap.size)] 50) = w1) : RegAt w1 (w.heap.size + 1) w.heap.size [] ∧ Below w.heap.size w w1 ∧ w1.heap.size = w.heap.size + 2 := by
  subst h
  exact ⟨⟨by rw [show w.heap.size + 1 = (w.alloc (.map #[] 0)).heap.size from by simp]; exact (MapKept.heap_alloc _ _).1, MapAt.same (MapAt.made w) ((MapKept.heap_alloc _ _).2 _ (by simp))⟩, below_alloc (below_alloc (Below.refl _ _) _) _, by simp⟩
abbrev MapM (w : World) (b : Nat) (M : List S33) : Prop := MapAt Tryd.prog 9 w b (ents M)
theorem mapm_nodup {w : World} {b : Nat} {M : List S33} (h : MapM w b M) : (M.map (·.f0)).Nodup := by
  have h1 := h.nodup
  rw [ents, List.map_map] at h1
  have h2 : (M.map (Value.string ∘ fun c : S33 => c.f0)).Nodup := h1
  rw [← List.map_map] at h2
  exact (List.pairwise_map.1 h2).imp fun h e => h (by rw [e])
set_option maxRecDepth 100000 in
theorem map_look {w : World} {b : Nat} {M : List S33} (h : MapM w b M) {s : ByteArray} (hs : s.size ≤ maxLen) : ∀ y : World, y.heap[b]? = w.heap[b]? → ∀ c, (Instr.lookup 27 (.map (some b)) (.string s) c).run Tryd.prog y = .ok (if c then .tuple #[val33 ((getL M s).getD z33), .bool (getL M s).isSome] else val33 ((getL M s).getD z33)) y := by
  intro y hy c
  rcases h.look law9 Tryd.underlying27 zero33 (keyOf_string_mk Tryd.underlying9 hs) with ⟨hno, hrun⟩ | ⟨u, hu, hrun⟩
  · have : getL M s = none := by
      cases h : getL M s with
      | none => rfl
      | some d =>
        obtain ⟨h1, h2⟩ := getL_some h
        exact absurd (by rw [h2]) (hno (.string d.f0, val33 d) (List.mem_map.2 ⟨d, h1, rfl⟩))
    rw [this]
    cases c
    · exact hrun y hy false
    · exact hrun y hy true
  · obtain ⟨d, hd, e⟩ := List.mem_map.1 hu
    obtain ⟨e1, rfl⟩ := Prod.mk.inj e
    injection e1 with e2
    subst e2
    rw [getL_mem (mapm_nodup h) hd]
    cases c
    · exact hrun y hy false
    · exact hrun y hy true
theorem map_put {w : World} {b : Nat} {M : List S33} (h : MapM w b M) (c : S33) (hs : c.f0.size ≤ maxLen) : ∃ o M', PutL M c M' ∧ (Instr.mapUpdate 27 (.map (some b)) (.string c.f0) (val33 c)).run Tryd.prog w = .ok () (setBlock w b o) ∧ MapM (setBlock w b o) b M' := by
  obtain ⟨o, l', hp, hr⟩ := h.put law9 Tryd.underlying27 (keyOf_string_mk Tryd.underlying9 hs) (val33 c)
  obtain ⟨M', hM', rfl⟩ := PutL.of hp
  exact ⟨o, M', hM', hr w rfl⟩
theorem KeptBut.map {w1 w2 : World} {b b2 : Nat} {M : List S33} (h : KeptBut w1 w2 b) (hm : MapM w1 b2 M) (hne : b2 ≠ b) : MapM w2 b2 M := hm.same (h.block b2 hm.lt hne)
theorem mapm_below {w1 w2 : World} {b : Nat} {M : List S33} (hm : MapM w1 b M) (h : Below w1.heap.size w1 w2) : MapM w2 b M := hm.same (h.block b hm.lt)
theorem kept_set (w : World) (b : Nat) (o : Obj) : KeptBut w (setBlock w b o) b := ⟨rfl, rfl, rfl, by simp [setBlock], fun i _ hne => heap_set_ne hne⟩
def pt22.T : Bool × List (List Nat × List Nat) := (true, [([], []), ([], []), ([1], [1]), ([0, 2], [0, 2]), ([], []), ([3, 4], [3, 4]), ([5], [5]), ([6], [6]), ([7, 6], [6, 7]), ([8, 6, 6], [6, 8]), ([9], [9]), ([9], [9]), ([11, 9], [9, 11]), ([10, 12, 9], [9, 10, 12]), ([13, 9], [9, 13]), ([14, 9], [9, 14]), ([9], [9]), ([16, 9], [9, 16]), ([15, 17, 9], [9, 15, 17]), ([9, 18, 6], [6, 9, 18]), ([6, 19], [6, 19])])
def pt22.B : List Nat := [0, 0, 2, 7, 0, 31, 63, 127, 255, 511, 1023, 1023, 3071, 8191, 16383, 32767, 1023, 66559, 262143, 524287, 1048575]
theorem pt22.tab : rtab .any (opsOf Tryd.f3 22) = pt22.T := by kernel_rfl
theorem pt22.bits : waitsOk pt22.T.2 pt22.B = true := by kernel_rfl
theorem put_mem {L L' l : List S33} {c : S33} (h : ∀ x ∈ L', x ∈ L ∨ (x = c ∧ rightC c = true)) (hL : ∀ x ∈ L, x ∈ l) (hc : c ∈ l) : ∀ x ∈ L', x ∈ l := fun x hx => by
  rcases h x hx with h | ⟨rfl, _⟩
  · exact hL x h
  · exact hc
set_option maxHeartbeats 8000000 in
set_option maxRecDepth 100000 in
theorem Puts_calls (l : List S33) (name : ByteArray) (A : Option Addr) (cc : Nat) (w : World) (hC : Kd.C k33 w A l.length l) (hcc : l.length ≤ cc) (hll : l.length ≤ 4611686018427387904) (hin : ∀ c ∈ l, Cin c) (hname : name.size ≤ reachBytes) :
    Calls Tryd.prog 3 #[.slice A l.length cc, .string name] w fun e w' => e = .returned (.bool true) ∧ Below w.heap.size w w' := by
  have HC := Lib.hid hC
  have HCC := Lib.hid hcc
  have HIN := Lib.hid hin
  have HLL := Lib.hid hll
  have hmm := @run_makeMap Tryd.prog
  clear hC hcc hin hll
  go_enter Tryd.func3, Tryd.ntmps3
  go_wp2_with fail
  refine (fixed_calls _).mono ?_
  rintro e w1 ⟨rfl, hb⟩
  have B1 := Lib.hid hb
  clear hb
  go_wp2_with fail
  refine (hedgerowlaw36_few.calls (l.length + 1) A cc l (fewB l) _ (Kd.C_below HC.out B1.out) HCC.out (few_is l HLL.out HIN.out)).mono ?_
  rintro e w2 ⟨rfl, hb⟩
  have B2 := Lib.hid (below_step B1.out hb)
  clear hb B1
  cases hf : fewB l with
  | false =>
    clear hf
    go_wp2
    go_ret
    exact ⟨rfl, B2.out⟩
  | true =>
    have HF := Lib.hid hf
    have HL8 := Lib.hid (fewB_len hf)
    clear hf
    by_cases hn100 : (100 : Int) < (name.size : Int)
    · replace hn100 := eq_true hn100
      go_wp2
      go_ret
      exact ⟨rfl, B2.out⟩
    · have HNM : Hid (name.size ≤ maxLen) := Lib.hid (by unfold maxLen; omega)
      clear hname
      replace hn100 := eq_false hn100
      go_wp2_with fail
      refine (New_calls _).mono ?_
      rintro e w3 ⟨rfl, hw3⟩
      have hrn := new_reg hw3
      have hg : w.heap.size ≤ w2.heap.size := B2.out.size
      have RA := Lib.hid (hrn.1.alloc (.map #[] 0))
      have MA : Hid (MapM (w3.alloc (.map #[] 0)) (w2.heap.size + 2) []) := Lib.hid (by have h := MapAt.made (P := Tryd.prog) (k := 9) w3; rw [hrn.2.2] at h; exact h)
      have BA := Lib.hid (below_alloc (below_step B2.out hrn.2.1) (.map #[] 0))
      have Z3 := Lib.hid hrn.2.2
      have HG := Lib.hid hg
      clear hrn hw3 hg B2
      go_wp2_with fail
      rw [Z3.out]
      generalize w2.heap.size = n at RA MA HG ⊢
      clear Z3
      go_loopg [35] l.length (fun k v35 wr => ∃ (i : Nat) (L M : List S33), v35 = .int .i64 (i : Int) ∧ Hid (i ≤ l.length) ∧ Hid (l.length ≤ i + k) ∧ Hid (RegAt wr (n + 1) n L) ∧ Hid (MapM wr (n + 2) M) ∧ Hid (getL L = getL M) ∧
        Hid ((∀ x ∈ L, x ∈ l) ∧ (∀ x ∈ M, x ∈ l) ∧ L.length ≤ i) ∧ Hid (Below w.heap.size w wr))
      case atStart => exact ⟨0, [], [], rfl, Lib.hid (Nat.zero_le _), Lib.hid (by omega), RA, MA, Lib.hid rfl, Lib.hid ⟨by simp, by simp, by simp⟩, BA⟩
      case round =>
        clear RA MA BA
        obtain ⟨i, L, M, rfl, HI, HK, HR, HM, HE, HMM, HB⟩ := hrel
        by_cases hi : (i : Int) < (l.length : Int)
        · have hil : i < l.length := by omega
          have p1 : 0 ≤ (i : Int) := by omega
          obtain ⟨ad, e1, hx0, hx1, hx2, hx3, hx4, hx5⟩ := at_T33 (Kd.C_below HC.out HB.out) (i : Int) p1 hi
          subst e1
          have hrd : rd_T33 l (i : Int) = l[i] := by simp [rd_T33, hil]
          rw [hrd] at hx0 hx1 hx2 hx3 hx4 hx5
          simp only [Int.toNat_natCast] at hx0 hx1 hx2 hx3 hx4 hx5
          have HCK := Lib.hid (fewB_ok HF.out HIN.out (List.getElem_mem hil))
          have HSZ := Lib.hid (fewB_size HF.out (List.getElem_mem hil))
          have HCL := Lib.hid (List.getElem_mem hil)
          have HIL := Lib.hid hil
          generalize l[i] = c at hx0 hx1 hx2 hx3 hx4 hx5 HCK HSZ HCL hrd
          clear hrd hil
          replace p1 := eq_true p1
          replace hi := eq_true hi
          have hw1 : IntKind.i64.wrap ((i : Int) + 1) = (i : Int) + 1 := by
            rw [IntKind.wrap_i64]
            have := HI.out
            have := HL8.out
            omega
          have HNC : Hid (c.f0.size ≤ maxLen) := Lib.hid (by have := HCK.out.name; unfold maxLen; omega)
          have hlk := map_look HM.out HNC.out (wr.alloc (.cells #[.string c.f0, .int .i64 c.f1.f0, .int .i64 c.f1.f1, .int .i64 c.f2.f0, .int .i64 c.f2.f1, .string c.f2.f2] 33)) (Below.heap_alloc _ _ _ HM.out.lt) true
          obtain ⟨was, hwas⟩ : ∃ x, (getL M c.f0).getD z33 = x := ⟨_, rfl⟩
          obtain ⟨there, hth⟩ : ∃ x, (getL M c.f0).isSome = x := ⟨_, rfl⟩
          rw [hwas, hth, if_pos rfl] at hlk
          unfold val33 at hlk
          have HWAS := Lib.hid hwas
          have HTH := Lib.hid hth
          clear hwas hth
          go_wp2_with fail
          have hsz : c.f0.size ≤ 1000 ∧ c.f2.f2.size ≤ 1000 := by have := HSZ.out; omega
          have HS2 := Lib.hid hsz
          clear hsz
          have HLR := Lib.hid (lawright_is HS2.out.1 HS2.out.2 5000 (by omega))
          refine (hedgerowlaw36_right.calls 5000 c.f0 c.f1.f0 c.f1.f1 c.f2.f0 c.f2.f1 c.f2.f2 (rightC c) _ HLR.out).mono ?_
          rintro e w4 ⟨rfl, hb⟩
          have R4 := Lib.hid (((HR.out.alloc (.cells #[.string c.f0, .int .i64 c.f1.f0, .int .i64 c.f1.f1, .int .i64 c.f2.f0, .int .i64 c.f2.f1, .string c.f2.f2] 33)).alloc (.cells #[.string was.f0, .int .i64 was.f1.f0, .int .i64 was.f1.f1, .int .i64 was.f2.f0, .int .i64 was.f2.f1, .string was.f2.f2] 33)).below hb)
          have M4 := Lib.hid (mapm_below (mapm_below (mapm_below HM.out (below_alloc (Below.refl _ _) (.cells #[.string c.f0, .int .i64 c.f1.f0, .int .i64 c.f1.f1, .int .i64 c.f2.f0, .int .i64 c.f2.f1, .string c.f2.f2] 33))) (below_alloc (Below.refl _ _) (.cells #[.string was.f0, .int .i64 was.f1.f0, .int .i64 was.f1.f1, .int .i64 was.f2.f0, .int .i64 was.f2.f1, .string was.f2.f2] 33))) hb)
          have C4 := Lib.hid (blk_below (blk_alloc (heap_alloc_new wr (.cells #[.string c.f0, .int .i64 c.f1.f0, .int .i64 c.f1.f1, .int .i64 c.f2.f0, .int .i64 c.f2.f1, .string c.f2.f2] 33)) (.cells #[.string was.f0, .int .i64 was.f1.f0, .int .i64 was.f1.f1, .int .i64 was.f2.f0, .int .i64 was.f2.f1, .string was.f2.f2] 33)) hb)
          have hd4 := blk_below (heap_alloc_new (wr.alloc (.cells #[.string c.f0, .int .i64 c.f1.f0, .int .i64 c.f1.f1, .int .i64 c.f2.f0, .int .i64 c.f2.f1, .string c.f2.f2] 33)) (.cells #[.string was.f0, .int .i64 was.f1.f0, .int .i64 was.f1.f1, .int .i64 was.f2.f0, .int .i64 was.f2.f1, .string was.f2.f2] 33)) hb
          rw [show (wr.alloc (.cells #[.string c.f0, .int .i64 c.f1.f0, .int .i64 c.f1.f1, .int .i64 c.f2.f0, .int .i64 c.f2.f1, .string c.f2.f2] 33)).heap.size = wr.heap.size + 1 from by simp] at hd4
          have D4 := Lib.hid hd4
          have B4 := Lib.hid (below_step (below_alloc (below_alloc HB.out (.cells #[.string c.f0, .int .i64 c.f1.f0, .int .i64 c.f1.f1, .int .i64 c.f2.f0, .int .i64 c.f2.f1, .string c.f2.f2] 33)) (.cells #[.string was.f0, .int .i64 was.f1.f0, .int .i64 was.f1.f1, .int .i64 was.f2.f0, .int .i64 was.f2.f1, .string was.f2.f2] 33)) hb)
          have N8 : Hid (n + 2 < wr.heap.size) := Lib.hid HM.out.lt
          generalize wr.heap.size = a8 at C4 D4 N8 ⊢
          clear hb hd4 HR HM HB hx0 hx1 hx2 hx3 hx4 hx5 hlk
          cases hrc : rightC c with
          | false =>
            rw [hrc] at HLR
            have HCT : Hid (counts (getL L c.f0) c = false) := Lib.hid (by unfold counts; rw [hrc]; rfl)
            have HERR : Hid (errC c = 1) := Lib.hid (by unfold errC; rw [hrc]; rfl)
            clear hrc
            have hC5 := C4.out
            have g0 : w4.cell? ⟨a8, 0, none⟩ = some (.string c.f0) := (blk_cell hC5 0).trans rfl
            have g1 : w4.cell? ⟨a8, 1, none⟩ = some (.int .i64 c.f1.f0) := (blk_cell hC5 1).trans rfl
            have g2 : w4.cell? ⟨a8, 2, none⟩ = some (.int .i64 c.f1.f1) := (blk_cell hC5 2).trans rfl
            have g3 : w4.cell? ⟨a8, 3, none⟩ = some (.int .i64 c.f2.f0) := (blk_cell hC5 3).trans rfl
            have g4 : w4.cell? ⟨a8, 4, none⟩ = some (.int .i64 c.f2.f1) := (blk_cell hC5 4).trans rfl
            have g5 : w4.cell? ⟨a8, 5, none⟩ = some (.string c.f2.f2) := (blk_cell hC5 5).trans rfl
            clear hC5
            go_wp2_with fail
            refine (Put_calls (n + 1) n L c _ R4.out HCK.out).mono ?_
            rintro e w6 ⟨rfl, L', hr, hk, hg, hmm2, hl1, hl2⟩
            have hst : getL L' = putS (getL L) c := funext fun s => hg s
            rw [HCT.out, HERR.out]
            have R6 := Lib.hid hr
            have M6 := Lib.hid (hk.map M4.out (by omega))
            have hC6 := hk.blk C4.out (by have := N8.out; omega)
            have B6 := Lib.hid (hk.below B4.out HG.out B4.out.size)
            have h0 : w6.cell? ⟨a8, 0, none⟩ = some (.string c.f0) := (blk_cell hC6 0).trans rfl
            have h1 : w6.cell? ⟨a8, 1, none⟩ = some (.int .i64 c.f1.f0) := (blk_cell hC6 1).trans rfl
            have h2 : w6.cell? ⟨a8, 2, none⟩ = some (.int .i64 c.f1.f1) := (blk_cell hC6 2).trans rfl
            have h3 : w6.cell? ⟨a8, 3, none⟩ = some (.int .i64 c.f2.f0) := (blk_cell hC6 3).trans rfl
            have h4 : w6.cell? ⟨a8, 4, none⟩ = some (.int .i64 c.f2.f1) := (blk_cell hC6 4).trans rfl
            have h5 : w6.cell? ⟨a8, 5, none⟩ = some (.string c.f2.f2) := (blk_cell hC6 5).trans rfl
            have C6 := Lib.hid hC6
            have HML : Hid ((∀ x ∈ L', x ∈ l) ∧ L'.length ≤ i + 1) := Lib.hid ⟨put_mem hmm2 HMM.out.1 HCL.out, by have := HMM.out; omega⟩
            have HST : Hid (getL L' = getL L) := Lib.hid (by funext s; rw [hg s, HCT.out]; simp)
            clear hr hk hg hmm2 hl1 hl2 hst hC6 g0 g1 g2 g3 g4 g5
            go_wp2_with fail
            refine (hedgerowlaw36_right.calls 5000 c.f0 c.f1.f0 c.f1.f1 c.f2.f0 c.f2.f1 c.f2.f2 false _ HLR.out).mono ?_
            rintro e w7 ⟨rfl, hb⟩
            have R7 := Lib.hid (R6.out.below hb)
            have M7 := Lib.hid (mapm_below M6.out hb)
            have hC7 := blk_below C6.out hb
            have B7 := Lib.hid (below_step B6.out hb)
            clear hb R6 M6 C6 B6 h0 h1 h2 h3 h4 h5
            clear hC7
            go_wp2
            go_roundg (l.length - (i + 1))
            case measure => have := HK.out; have := HIL.out; omega
            case rel => exact ⟨i + 1, L', M, by simp, Lib.hid HIL.out, Lib.hid (by omega), R7, M7, Lib.hid (HST.out.trans HE.out), Lib.hid ⟨HML.out.1, HMM.out.2.1, HML.out.2⟩, B7⟩
          | true =>
            rw [hrc] at HLR
            have HERR : Hid (errC c = 0) := Lib.hid (by unfold errC; rw [hrc]; rfl)
            cases there with
            | false =>
              have HCT : Hid (counts (getL L c.f0) c = true) := Lib.hid (by
                have h1 := HTH.out
                rw [HE.out]
                cases hgm : getL M c.f0 with
                | none => show (rightC c && true) = true; rw [hrc]; rfl
                | some d => rw [hgm] at h1; cases h1)
              clear hrc
              have hC5 := C4.out
              have g0 : w4.cell? ⟨a8, 0, none⟩ = some (.string c.f0) := (blk_cell hC5 0).trans rfl
              have g1 : w4.cell? ⟨a8, 1, none⟩ = some (.int .i64 c.f1.f0) := (blk_cell hC5 1).trans rfl
              have g2 : w4.cell? ⟨a8, 2, none⟩ = some (.int .i64 c.f1.f1) := (blk_cell hC5 2).trans rfl
              have g3 : w4.cell? ⟨a8, 3, none⟩ = some (.int .i64 c.f2.f0) := (blk_cell hC5 3).trans rfl
              have g4 : w4.cell? ⟨a8, 4, none⟩ = some (.int .i64 c.f2.f1) := (blk_cell hC5 4).trans rfl
              have g5 : w4.cell? ⟨a8, 5, none⟩ = some (.string c.f2.f2) := (blk_cell hC5 5).trans rfl
              clear hC5
              go_wp2_with fail
              refine (Put_calls (n + 1) n L c _ R4.out HCK.out).mono ?_
              rintro e w6 ⟨rfl, L', hr, hk, hg, hmm2, hl1, hl2⟩
              have hst : getL L' = putS (getL L) c := funext fun s => hg s
              rw [HCT.out, HERR.out]
              have R6 := Lib.hid hr
              have M6 := Lib.hid (hk.map M4.out (by omega))
              have hC6 := hk.blk C4.out (by have := N8.out; omega)
              have B6 := Lib.hid (hk.below B4.out HG.out B4.out.size)
              have h0 : w6.cell? ⟨a8, 0, none⟩ = some (.string c.f0) := (blk_cell hC6 0).trans rfl
              have h1 : w6.cell? ⟨a8, 1, none⟩ = some (.int .i64 c.f1.f0) := (blk_cell hC6 1).trans rfl
              have h2 : w6.cell? ⟨a8, 2, none⟩ = some (.int .i64 c.f1.f1) := (blk_cell hC6 2).trans rfl
              have h3 : w6.cell? ⟨a8, 3, none⟩ = some (.int .i64 c.f2.f0) := (blk_cell hC6 3).trans rfl
              have h4 : w6.cell? ⟨a8, 4, none⟩ = some (.int .i64 c.f2.f1) := (blk_cell hC6 4).trans rfl
              have h5 : w6.cell? ⟨a8, 5, none⟩ = some (.string c.f2.f2) := (blk_cell hC6 5).trans rfl
              have C6 := Lib.hid hC6
              have HML : Hid ((∀ x ∈ L', x ∈ l) ∧ L'.length ≤ i + 1) := Lib.hid ⟨put_mem hmm2 HMM.out.1 HCL.out, by have := HMM.out; omega⟩
              have HST : Hid (∀ s, getL L' s = if s = c.f0 then some c else getL L s) := Lib.hid (fun s => by rw [hg s, HCT.out]; simp)
              clear hr hk hg hmm2 hl1 hl2 hst hC6 g0 g1 g2 g3 g4 g5
              go_wp2_with fail
              refine (hedgerowlaw36_right.calls 5000 c.f0 c.f1.f0 c.f1.f1 c.f2.f0 c.f2.f1 c.f2.f2 true _ HLR.out).mono ?_
              rintro e w7 ⟨rfl, hb⟩
              have R7 := Lib.hid (R6.out.below hb)
              have M7 := Lib.hid (mapm_below M6.out hb)
              have hC7 := blk_below C6.out hb
              have B7 := Lib.hid (below_step B6.out hb)
              clear hb R6 M6 C6 B6 h0 h1 h2 h3 h4 h5
              have h0 : w7.cell? ⟨a8, 0, none⟩ = some (.string c.f0) := (blk_cell hC7 0).trans rfl
              have h1 : w7.cell? ⟨a8, 1, none⟩ = some (.int .i64 c.f1.f0) := (blk_cell hC7 1).trans rfl
              have h2 : w7.cell? ⟨a8, 2, none⟩ = some (.int .i64 c.f1.f1) := (blk_cell hC7 2).trans rfl
              have h3 : w7.cell? ⟨a8, 3, none⟩ = some (.int .i64 c.f2.f0) := (blk_cell hC7 3).trans rfl
              have h4 : w7.cell? ⟨a8, 4, none⟩ = some (.int .i64 c.f2.f1) := (blk_cell hC7 4).trans rfl
              have h5 : w7.cell? ⟨a8, 5, none⟩ = some (.string c.f2.f2) := (blk_cell hC7 5).trans rfl
              obtain ⟨om, M', hpm, hrun, hm'⟩ := map_put M7.out c HNC.out
              unfold val33 at hrun
              have HPM := Lib.hid hpm
              have HMN := Lib.hid hm'
              clear hpm hm' hC7
              go_wp2
              go_roundg (l.length - (i + 1))
              case measure => have := HK.out; have := HIL.out; omega
              case rel =>
                have hks := kept_set w7 (n + 2) om
                refine ⟨i + 1, L', M', by simp, Lib.hid HIL.out, Lib.hid (by omega), Lib.hid (hks.reg R7.out (by omega) (by omega)), HMN, Lib.hid ?_, Lib.hid ⟨HML.out.1, fun x hx => ?_, HML.out.2⟩, Lib.hid (hks.below B7.out (by have := HG.out; omega) B7.out.size)⟩
                · funext s
                  rw [HST.out s, HPM.out.get s (mapm_nodup M7.out), HE.out]
                · rcases HPM.out.mem hx with h | rfl
                  · exact HMM.out.2.1 x h
                  · exact HCL.out
            | true =>
              have hwm : getL M c.f0 = some was := by
                have h1 := HTH.out
                have h2 := HWAS.out
                cases hgm : getL M c.f0 with
                | none => rw [hgm] at h1; cases h1
                | some d => rw [hgm] at h2; rw [show d = was from h2]
              have hws : was.f2.f2.size ≤ 1000 := by
                have := fewB_size HF.out (HMM.out.2.1 was (getL_some hwm).1)
                omega
              have HAH := Lib.hid (ahead_is (c := c) (d := was) HS2.out.2 hws 5000 (by omega))
              have HCQ : Hid (counts (getL L c.f0) c = decide (0 < beats c was)) := Lib.hid (by
                rw [HE.out, hwm]
                show (rightC c && decide (0 < beats c was)) = _
                rw [hrc]; rfl)
              clear hrc hwm hws
              have hC4 := C4.out
              have kk0 : w4.cell? ⟨a8, 0, none⟩ = some (.string c.f0) := (blk_cell hC4 0).trans rfl
              have kk1 : w4.cell? ⟨a8, 1, none⟩ = some (.int .i64 c.f1.f0) := (blk_cell hC4 1).trans rfl
              have kk2 : w4.cell? ⟨a8, 2, none⟩ = some (.int .i64 c.f1.f1) := (blk_cell hC4 2).trans rfl
              have kk3 : w4.cell? ⟨a8, 3, none⟩ = some (.int .i64 c.f2.f0) := (blk_cell hC4 3).trans rfl
              have kk4 : w4.cell? ⟨a8, 4, none⟩ = some (.int .i64 c.f2.f1) := (blk_cell hC4 4).trans rfl
              have kk5 : w4.cell? ⟨a8, 5, none⟩ = some (.string c.f2.f2) := (blk_cell hC4 5).trans rfl
              have hD4 := D4.out
              have mm0 : w4.cell? ⟨a8 + 1, 0, none⟩ = some (.string was.f0) := (blk_cell hD4 0).trans rfl
              have mm1 : w4.cell? ⟨a8 + 1, 1, none⟩ = some (.int .i64 was.f1.f0) := (blk_cell hD4 1).trans rfl
              have mm2 : w4.cell? ⟨a8 + 1, 2, none⟩ = some (.int .i64 was.f1.f1) := (blk_cell hD4 2).trans rfl
              have mm3 : w4.cell? ⟨a8 + 1, 3, none⟩ = some (.int .i64 was.f2.f0) := (blk_cell hD4 3).trans rfl
              have mm4 : w4.cell? ⟨a8 + 1, 4, none⟩ = some (.int .i64 was.f2.f1) := (blk_cell hD4 4).trans rfl
              have mm5 : w4.cell? ⟨a8 + 1, 5, none⟩ = some (.string was.f2.f2) := (blk_cell hD4 5).trans rfl
              clear hC4 hD4
              go_wp2_with fail
              refine (hedgerowlaw36_ahead.calls 5000 c.f0 c.f1.f0 c.f1.f1 c.f2.f0 c.f2.f1 c.f2.f2 was.f0 was.f1.f0 was.f1.f1 was.f2.f0 was.f2.f1 was.f2.f2 (decide (0 < beats c was)) _ HAH.out).mono ?_
              rintro e w5 ⟨rfl, hb⟩
              have R5 := Lib.hid (R4.out.below hb)
              have M5 := Lib.hid (mapm_below M4.out hb)
              have C5 := Lib.hid (blk_below C4.out hb)
              have B5 := Lib.hid (below_step B4.out hb)
              clear hb R4 M4 C4 B4 D4 kk0 kk1 kk2 kk3 kk4 kk5 mm0 mm1 mm2 mm3 mm4 mm5
              cases hq : decide (0 < beats c was) with
              | false =>
                have HCT : Hid (counts (getL L c.f0) c = false) := Lib.hid (HCQ.out.trans hq)
                clear hq
                have hC5 := C5.out
                have g0 : w5.cell? ⟨a8, 0, none⟩ = some (.string c.f0) := (blk_cell hC5 0).trans rfl
                have g1 : w5.cell? ⟨a8, 1, none⟩ = some (.int .i64 c.f1.f0) := (blk_cell hC5 1).trans rfl
                have g2 : w5.cell? ⟨a8, 2, none⟩ = some (.int .i64 c.f1.f1) := (blk_cell hC5 2).trans rfl
                have g3 : w5.cell? ⟨a8, 3, none⟩ = some (.int .i64 c.f2.f0) := (blk_cell hC5 3).trans rfl
                have g4 : w5.cell? ⟨a8, 4, none⟩ = some (.int .i64 c.f2.f1) := (blk_cell hC5 4).trans rfl
                have g5 : w5.cell? ⟨a8, 5, none⟩ = some (.string c.f2.f2) := (blk_cell hC5 5).trans rfl
                clear hC5
                go_wp2_with fail
                refine (Put_calls (n + 1) n L c _ R5.out HCK.out).mono ?_
                rintro e w6 ⟨rfl, L', hr, hk, hg, hmm2, hl1, hl2⟩
                have hst : getL L' = putS (getL L) c := funext fun s => hg s
                rw [HCT.out, HERR.out]
                have R6 := Lib.hid hr
                have M6 := Lib.hid (hk.map M5.out (by omega))
                have hC6 := hk.blk C5.out (by have := N8.out; omega)
                have B6 := Lib.hid (hk.below B5.out HG.out B5.out.size)
                have h0 : w6.cell? ⟨a8, 0, none⟩ = some (.string c.f0) := (blk_cell hC6 0).trans rfl
                have h1 : w6.cell? ⟨a8, 1, none⟩ = some (.int .i64 c.f1.f0) := (blk_cell hC6 1).trans rfl
                have h2 : w6.cell? ⟨a8, 2, none⟩ = some (.int .i64 c.f1.f1) := (blk_cell hC6 2).trans rfl
                have h3 : w6.cell? ⟨a8, 3, none⟩ = some (.int .i64 c.f2.f0) := (blk_cell hC6 3).trans rfl
                have h4 : w6.cell? ⟨a8, 4, none⟩ = some (.int .i64 c.f2.f1) := (blk_cell hC6 4).trans rfl
                have h5 : w6.cell? ⟨a8, 5, none⟩ = some (.string c.f2.f2) := (blk_cell hC6 5).trans rfl
                have C6 := Lib.hid hC6
                have HML : Hid ((∀ x ∈ L', x ∈ l) ∧ L'.length ≤ i + 1) := Lib.hid ⟨put_mem hmm2 HMM.out.1 HCL.out, by have := HMM.out; omega⟩
                have HST : Hid (getL L' = getL L) := Lib.hid (by funext s; rw [hg s, HCT.out]; simp)
                clear hr hk hg hmm2 hl1 hl2 hst hC6 g0 g1 g2 g3 g4 g5
                go_wp2_with fail
                refine (hedgerowlaw36_right.calls 5000 c.f0 c.f1.f0 c.f1.f1 c.f2.f0 c.f2.f1 c.f2.f2 true _ HLR.out).mono ?_
                rintro e w7 ⟨rfl, hb⟩
                have R7 := Lib.hid (R6.out.below hb)
                have M7 := Lib.hid (mapm_below M6.out hb)
                have hC7 := blk_below C6.out hb
                have B7 := Lib.hid (below_step B6.out hb)
                clear hb R6 M6 C6 B6 h0 h1 h2 h3 h4 h5
                clear hC7
                go_wp2
                go_roundg (l.length - (i + 1))
                case measure => have := HK.out; have := HIL.out; omega
                case rel => exact ⟨i + 1, L', M, by simp, Lib.hid HIL.out, Lib.hid (by omega), R7, M7, Lib.hid (HST.out.trans HE.out), Lib.hid ⟨HML.out.1, HMM.out.2.1, HML.out.2⟩, B7⟩
              | true =>
                have HCT : Hid (counts (getL L c.f0) c = true) := Lib.hid (HCQ.out.trans hq)
                clear hq
                have hC5 := C5.out
                have g0 : w5.cell? ⟨a8, 0, none⟩ = some (.string c.f0) := (blk_cell hC5 0).trans rfl
                have g1 : w5.cell? ⟨a8, 1, none⟩ = some (.int .i64 c.f1.f0) := (blk_cell hC5 1).trans rfl
                have g2 : w5.cell? ⟨a8, 2, none⟩ = some (.int .i64 c.f1.f1) := (blk_cell hC5 2).trans rfl
                have g3 : w5.cell? ⟨a8, 3, none⟩ = some (.int .i64 c.f2.f0) := (blk_cell hC5 3).trans rfl
                have g4 : w5.cell? ⟨a8, 4, none⟩ = some (.int .i64 c.f2.f1) := (blk_cell hC5 4).trans rfl
                have g5 : w5.cell? ⟨a8, 5, none⟩ = some (.string c.f2.f2) := (blk_cell hC5 5).trans rfl
                clear hC5
                go_wp2_with fail
                refine (Put_calls (n + 1) n L c _ R5.out HCK.out).mono ?_
                rintro e w6 ⟨rfl, L', hr, hk, hg, hmm2, hl1, hl2⟩
                have hst : getL L' = putS (getL L) c := funext fun s => hg s
                rw [HCT.out, HERR.out]
                have R6 := Lib.hid hr
                have M6 := Lib.hid (hk.map M5.out (by omega))
                have hC6 := hk.blk C5.out (by have := N8.out; omega)
                have B6 := Lib.hid (hk.below B5.out HG.out B5.out.size)
                have h0 : w6.cell? ⟨a8, 0, none⟩ = some (.string c.f0) := (blk_cell hC6 0).trans rfl
                have h1 : w6.cell? ⟨a8, 1, none⟩ = some (.int .i64 c.f1.f0) := (blk_cell hC6 1).trans rfl
                have h2 : w6.cell? ⟨a8, 2, none⟩ = some (.int .i64 c.f1.f1) := (blk_cell hC6 2).trans rfl
                have h3 : w6.cell? ⟨a8, 3, none⟩ = some (.int .i64 c.f2.f0) := (blk_cell hC6 3).trans rfl
                have h4 : w6.cell? ⟨a8, 4, none⟩ = some (.int .i64 c.f2.f1) := (blk_cell hC6 4).trans rfl
                have h5 : w6.cell? ⟨a8, 5, none⟩ = some (.string c.f2.f2) := (blk_cell hC6 5).trans rfl
                have C6 := Lib.hid hC6
                have HML : Hid ((∀ x ∈ L', x ∈ l) ∧ L'.length ≤ i + 1) := Lib.hid ⟨put_mem hmm2 HMM.out.1 HCL.out, by have := HMM.out; omega⟩
                have HST : Hid (∀ s, getL L' s = if s = c.f0 then some c else getL L s) := Lib.hid (fun s => by rw [hg s, HCT.out]; simp)
                clear hr hk hg hmm2 hl1 hl2 hst hC6 g0 g1 g2 g3 g4 g5
                go_wp2_with fail
                refine (hedgerowlaw36_right.calls 5000 c.f0 c.f1.f0 c.f1.f1 c.f2.f0 c.f2.f1 c.f2.f2 true _ HLR.out).mono ?_
                rintro e w7 ⟨rfl, hb⟩
                have R7 := Lib.hid (R6.out.below hb)
                have M7 := Lib.hid (mapm_below M6.out hb)
                have hC7 := blk_below C6.out hb
                have B7 := Lib.hid (below_step B6.out hb)
                clear hb R6 M6 C6 B6 h0 h1 h2 h3 h4 h5
                have h0 : w7.cell? ⟨a8, 0, none⟩ = some (.string c.f0) := (blk_cell hC7 0).trans rfl
                have h1 : w7.cell? ⟨a8, 1, none⟩ = some (.int .i64 c.f1.f0) := (blk_cell hC7 1).trans rfl
                have h2 : w7.cell? ⟨a8, 2, none⟩ = some (.int .i64 c.f1.f1) := (blk_cell hC7 2).trans rfl
                have h3 : w7.cell? ⟨a8, 3, none⟩ = some (.int .i64 c.f2.f0) := (blk_cell hC7 3).trans rfl
                have h4 : w7.cell? ⟨a8, 4, none⟩ = some (.int .i64 c.f2.f1) := (blk_cell hC7 4).trans rfl
                have h5 : w7.cell? ⟨a8, 5, none⟩ = some (.string c.f2.f2) := (blk_cell hC7 5).trans rfl
                obtain ⟨om, M', hpm, hrun, hm'⟩ := map_put M7.out c HNC.out
                unfold val33 at hrun
                have HPM := Lib.hid hpm
                have HMN := Lib.hid hm'
                clear hpm hm' hC7
                go_wp2
                go_roundg (l.length - (i + 1))
                case measure => have := HK.out; have := HIL.out; omega
                case rel =>
                  have hks := kept_set w7 (n + 2) om
                  refine ⟨i + 1, L', M', by simp, Lib.hid HIL.out, Lib.hid (by omega), Lib.hid (hks.reg R7.out (by omega) (by omega)), HMN, Lib.hid ?_, Lib.hid ⟨HML.out.1, fun x hx => ?_, HML.out.2⟩, Lib.hid (hks.below B7.out (by have := HG.out; omega) B7.out.size)⟩
                  · funext s
                    rw [HST.out s, HPM.out.get s (mapm_nodup M7.out), HE.out]
                  · rcases HPM.out.mem hx with h | rfl
                    · exact HMM.out.2.1 x h
                    · exact HCL.out
        · have HL80 : Hid (L.length ≤ 80) := Lib.hid (by have := HMM.out; have := HL8.out; have := HI.out; omega)
          clear HI HK
          go_wp2_with fail
          refine (All_calls (n + 1) n L _ HR.out (by have := HL80.out; omega)).mono ?_
          rintro e w4 ⟨v4, O, rfl, hp, hs, ho, hb⟩
          obtain ⟨az, cz, rfl⟩ := Kd.R_slice ho
          have R4 := Lib.hid (HR.out.below hb)
          have M4 := Lib.hid (mapm_below HM.out hb)
          have Z4 := Lib.hid (Kd.R_reads' ho).2.2
          have B4 := Lib.hid (below_step HB.out hb)
          have HPL := Lib.hid (perm_of_get HR.out.nodup (mapm_nodup HM.out) HE.out)
          have HLO : Hid (O.length ≤ 80) := Lib.hid (by rw [hp.length_eq]; exact HL80.out)
          have HGM : Hid (∀ x ∈ O, getL M x.f0 = some x ∧ x ∈ l) := Lib.hid (fun x hx => by
            have h1 := hp.mem_iff.1 hx
            exact ⟨by rw [← HE.out]; exact getL_mem HR.out.nodup h1, HMM.out.1 x h1⟩)
          have HNO : Hid ((O.map (·.f0)).Nodup) := Lib.hid ((hp.map _).nodup_iff.2 HR.out.nodup)
          have HSO := Lib.hid hs
          have HPO := Lib.hid hp
          clear hp hs ho hb HR HM HB
          go_wp2_with fail
          go_loopg [91] O.length (fun k v91 wr => ∃ (i : Nat), v91 = .int .i64 (i : Int) ∧ Hid (i ≤ O.length) ∧ Hid (O.length ≤ i + k) ∧ Hid (RegAt wr (n + 1) n L) ∧ Hid (MapM wr (n + 2) M) ∧ Hid (Kd.C k33 wr az O.length O) ∧ Hid (Below w.heap.size w wr))
          case atStart => exact ⟨0, rfl, Lib.hid (Nat.zero_le _), Lib.hid (by omega), R4, M4, Z4, B4⟩
          case round =>
            clear R4 M4 Z4 B4
            obtain ⟨i2, rfl, HI2, HK2, R5, M5, Z5, B5⟩ := hrel
            by_cases hi2 : (i2 : Int) < (O.length : Int)
            · cases i2 with
              | zero =>
                rw [Int.natCast_zero] at hi2 ⊢
                have hil2 : 0 < O.length := by omega
                have p2 : 0 ≤ (0 : Int) := by omega
                obtain ⟨ad, ez, x0, x1, x2, x3, x4, x5⟩ := at_T33 Z5.out (0 : Int) p2 hi2
                subst ez
                have hrd : rd_T33 O (0 : Int) = O[0] := by simp [rd_T33, hil2]
                rw [hrd] at x0 x1 x2 x3 x4 x5
                simp only [Int.toNat_zero, Nat.zero_mul, Go.Addr.add_zero'] at x0 x1 x2 x3 x4 x5
                have hcg := HGM.out O[0] (List.getElem_mem hil2)
                have hcs : O[0].f0.size ≤ maxLen := by have := fewB_size HF.out hcg.2; unfold maxLen; omega
                have hlk0 := fun (y : World) (hy : y.heap[n + 2]? = wr.heap[n + 2]?) => map_look M5.out hcs y hy false
                rw [hcg.1] at hlk0
                have hlk : ∀ y : World, y.heap[n + 2]? = wr.heap[n + 2]? → (Instr.lookup 27 (.map (some (n + 2))) (.string O[0].f0) false).run Tryd.prog y = .ok (val33 O[0]) y := fun y hy => hlk0 y hy
                unfold val33 at hlk
                generalize O[0] = c at x0 x1 x2 x3 x4 x5 hlk hlk0 hcg hcs hrd
                have HIL2 := Lib.hid hil2
                have HLK := Lib.hid hlk
                clear hil2 hlk0 hlk hcg hcs hrd
                replace hi2 := eq_true hi2
                replace p2 := eq_true p2
                go_wp2_with fail
                have hy1 : (RegAt (wr.alloc (.cells #[.string c.f0, .int .i64 c.f1.f0, .int .i64 c.f1.f1, .int .i64 c.f2.f0, .int .i64 c.f2.f1, .string c.f2.f2] 33)).drew (n + 1) n L ∧ MapM (wr.alloc (.cells #[.string c.f0, .int .i64 c.f1.f0, .int .i64 c.f1.f1, .int .i64 c.f2.f0, .int .i64 c.f2.f1, .string c.f2.f2] 33)).drew (n + 2) M ∧ Kd.C k33 (wr.alloc (.cells #[.string c.f0, .int .i64 c.f1.f0, .int .i64 c.f1.f1, .int .i64 c.f2.f0, .int .i64 c.f2.f1, .string c.f2.f2] 33)).drew (some ad) O.length O) := ⟨(R5.out.alloc (.cells #[.string c.f0, .int .i64 c.f1.f0, .int .i64 c.f1.f1, .int .i64 c.f2.f0, .int .i64 c.f2.f1, .string c.f2.f2] 33)).below (below_drew (Below.refl _ _)), mapm_below (mapm_below M5.out (below_alloc (Below.refl _ _) (.cells #[.string c.f0, .int .i64 c.f1.f0, .int .i64 c.f1.f1, .int .i64 c.f2.f0, .int .i64 c.f2.f1, .string c.f2.f2] 33))) (below_drew (Below.refl _ _)), Kd.C_below (Kd.C_below Z5.out (below_alloc (Below.refl _ _) (.cells #[.string c.f0, .int .i64 c.f1.f0, .int .i64 c.f1.f1, .int .i64 c.f2.f0, .int .i64 c.f2.f1, .string c.f2.f2] 33))) (below_drew (Below.refl _ _))⟩
                have hm1 : (wr.alloc (.cells #[.string c.f0, .int .i64 c.f1.f0, .int .i64 c.f1.f1, .int .i64 c.f2.f0, .int .i64 c.f2.f1, .string c.f2.f2] 33)).drew.heap[n + 2]? = wr.heap[n + 2]? := Below.heap_alloc _ _ _ M5.out.lt
                have hb1 := blk_drew (heap_alloc_new wr (.cells #[.string c.f0, .int .i64 c.f1.f0, .int .i64 c.f1.f1, .int .i64 c.f2.f0, .int .i64 c.f2.f1, .string c.f2.f2] 33))
                have hbw := below_drew (below_alloc B5.out (.cells #[.string c.f0, .int .i64 c.f1.f0, .int .i64 c.f1.f1, .int .i64 c.f2.f0, .int .i64 c.f2.f1, .string c.f2.f2] 33))
                refine start_ (n := 21) (S := fun w' => (w'.heap[wr.heap.size]? = some (.cells #[.string c.f0, .int .i64 c.f1.f0, .int .i64 c.f1.f1, .int .i64 c.f2.f0, .int .i64 c.f2.f1, .string c.f2.f2] 33 (0, 0))) ∧ (w'.heap[n + 2]? = wr.heap[n + 2]?) ∧ (RegAt w' (n + 1) n L) ∧ (MapM w' (n + 2) M) ∧ (Kd.C k33 w' (some ad) O.length O) ∧ (Below w.heap.size w w')) (ds := []) (List.toArray (false :: false :: false :: false :: false :: false :: false :: false :: false :: false :: false :: false :: false :: false :: false :: false :: false :: false :: false :: false :: false :: [])) (by kernel_rfl) rfl rfl ⟨hb1, hm1, hy1.1, hy1.2.1, hy1.2.2, hbw⟩ (fun hHeld => ?_); refine with_tabW pt22.tab pt22.bits (fun HT_ HW_ => ?_)
                generalize (wr.alloc (.cells #[.string c.f0, .int .i64 c.f1.f0, .int .i64 c.f1.f1, .int .i64 c.f2.f0, .int .i64 c.f2.f1, .string c.f2.f2] 33)).drew = w13 at hHeld ⊢
                clear hy1 hm1 hb1 hbw x0 x1 x2 x3 x4 x5 R5 M5 Z5 B5
                refine pure_ (i := 0) (N := some 96) (v := ?_) (a' := ?_) (List.toArray (true :: false :: false :: false :: false :: false :: false :: false :: false :: false :: false :: false :: false :: false :: false :: false :: false :: false :: false :: false :: false :: [])) rfl rfl (any_of HT_.out (by kernel_rfl)) (fun _ _ _ h => h) (Or.inl ⟨by rfl, ?_⟩) ?_ ?_
                rotate_left
                · intro w'
                  go_simp
                  with_reducible rfl
                rotate_left
                · simp only [Act.put, List.setIfInBounds_toArray, List.set_cons_zero, List.set_cons_succ, i64_w, i32_w]
                  rfl
                refine pure_ (i := 1) (N := some 97) (v := ?_) (a' := ?_) (List.toArray (true :: true :: false :: false :: false :: false :: false :: false :: false :: false :: false :: false :: false :: false :: false :: false :: false :: false :: false :: false :: false :: [])) rfl rfl (any_of HT_.out (by kernel_rfl)) (fun _ _ _ h => h) (Or.inl ⟨by rfl, ?_⟩) ?_ ?_
                rotate_left
                · intro w'
                  go_simp
                  with_reducible rfl
                rotate_left
                · simp only [Act.put, List.setIfInBounds_toArray, List.set_cons_zero, List.set_cons_succ, i64_w, i32_w]
                  rfl
                refine take_ (i := 2) (N := some 98) (v := ?_) (a' := ?_) (List.toArray (true :: true :: true :: false :: false :: false :: false :: false :: false :: false :: false :: false :: false :: false :: false :: false :: false :: false :: false :: false :: false :: [])) rfl rfl (take_ofW HT_.out HW_.out (by kernel_rfl)) (fun _ _ _ h => h) (Or.inl ⟨by rfl, ?_⟩) hHeld ?_ ?_
                rotate_left
                · rintro w' ⟨s0, s1, s2, s3, s4, s5⟩
                  have c0_0 : w'.cell? ⟨wr.heap.size, 0, none⟩ = some (.string c.f0) := (blk_cell s0 0).trans rfl
                  go_simp
                  with_reducible rfl
                rotate_left
                · simp only [Act.put, List.setIfInBounds_toArray, List.set_cons_zero, List.set_cons_succ, i64_w, i32_w]
                  rfl
                refine take_ (i := 3) (N := some 99) (v := ?_) (a' := ?_) (List.toArray (true :: true :: true :: true :: false :: false :: false :: false :: false :: false :: false :: false :: false :: false :: false :: false :: false :: false :: false :: false :: false :: [])) rfl rfl (take_ofW HT_.out HW_.out (by kernel_rfl)) (fun _ _ _ h => h) (Or.inl ⟨by rfl, ?_⟩) hHeld ?_ ?_
                rotate_left
                · rintro w' ⟨s0, s1, s2, s3, s4, s5⟩
                  have hl := HLK.out w' s1
                  go_simp
                  with_reducible rfl
                rotate_left
                · simp only [Act.put, List.setIfInBounds_toArray, List.set_cons_zero, List.set_cons_succ, i64_w, i32_w]
                  rfl
                refine take_ (i := 4) (N := some 100) (v := ?_) (a' := ?_) (List.toArray (true :: true :: true :: true :: true :: false :: false :: false :: false :: false :: false :: false :: false :: false :: false :: false :: false :: false :: false :: false :: false :: [])) rfl rfl (take_ofW HT_.out HW_.out (by kernel_rfl)) (fun _ _ _ h => h) (Or.inl ⟨by rfl, ?_⟩) hHeld ?_ ?_
                rotate_left
                · rintro w' ⟨s0, s1, s2, s3, s4, s5⟩
                  have c0_0 : w'.cell? ⟨wr.heap.size, 0, none⟩ = some (.string c.f0) := (blk_cell s0 0).trans rfl
                  have c0_1 : w'.cell? ⟨wr.heap.size, 1, none⟩ = some (.int .i64 c.f1.f0) := (blk_cell s0 1).trans rfl
                  have c0_2 : w'.cell? ⟨wr.heap.size, 2, none⟩ = some (.int .i64 c.f1.f1) := (blk_cell s0 2).trans rfl
                  have c0_3 : w'.cell? ⟨wr.heap.size, 3, none⟩ = some (.int .i64 c.f2.f0) := (blk_cell s0 3).trans rfl
                  have c0_4 : w'.cell? ⟨wr.heap.size, 4, none⟩ = some (.int .i64 c.f2.f1) := (blk_cell s0 4).trans rfl
                  have c0_5 : w'.cell? ⟨wr.heap.size, 5, none⟩ = some (.string c.f2.f2) := (blk_cell s0 5).trans rfl
                  go_simp
                  with_reducible rfl
                rotate_left
                · simp only [Act.put, List.setIfInBounds_toArray, List.set_cons_zero, List.set_cons_succ, i64_w, i32_w]
                  rfl
                refine pure_ (i := 5) (N := some 101) (v := ?_) (a' := ?_) (List.toArray (true :: true :: true :: true :: true :: true :: false :: false :: false :: false :: false :: false :: false :: false :: false :: false :: false :: false :: false :: false :: false :: [])) rfl rfl (any_of HT_.out (by kernel_rfl)) (fun _ _ _ h => h) (Or.inl ⟨by rfl, ?_⟩) ?_ ?_
                rotate_left
                · intro w'
                  go_simp
                  with_reducible rfl
                rotate_left
                · simp only [Act.put, List.setIfInBounds_toArray, List.set_cons_zero, List.set_cons_succ, i64_w, i32_w]
                  rfl
                refine pure_ (i := 6) (N := some 102) (v := ?_) (a' := ?_) (List.toArray (true :: true :: true :: true :: true :: true :: true :: false :: false :: false :: false :: false :: false :: false :: false :: false :: false :: false :: false :: false :: false :: [])) rfl rfl (any_of HT_.out (by kernel_rfl)) (fun _ _ _ h => h) (Or.inl ⟨by rfl, ?_⟩) ?_ ?_
                rotate_left
                · intro w'
                  go_simp
                  with_reducible rfl
                rotate_left
                · simp only [Act.put, List.setIfInBounds_toArray, List.set_cons_zero, List.set_cons_succ, i64_w, i32_w]
                  rfl
                refine pure_ (i := 7) (N := some 103) (v := ?_) (a' := ?_) (List.toArray (true :: true :: true :: true :: true :: true :: true :: true :: false :: false :: false :: false :: false :: false :: false :: false :: false :: false :: false :: false :: false :: [])) rfl rfl (any_of HT_.out (by kernel_rfl)) (fun _ _ _ h => h) (Or.inl ⟨by rfl, ?_⟩) ?_ ?_
                rotate_left
                · intro w'
                  go_simp
                  with_reducible rfl
                rotate_left
                · simp only [Act.put, List.setIfInBounds_toArray, List.set_cons_zero, List.set_cons_succ, i64_w, i32_w]
                  rfl
                refine pure_ (i := 8) (N := some 104) (v := ?_) (a' := ?_) (List.toArray (true :: true :: true :: true :: true :: true :: true :: true :: true :: false :: false :: false :: false :: false :: false :: false :: false :: false :: false :: false :: false :: [])) rfl rfl (any_of HT_.out (by kernel_rfl)) (fun _ _ _ h => h) (Or.inl ⟨by rfl, ?_⟩) ?_ ?_
                rotate_left
                · intro w'
                  go_simp
                  with_reducible rfl
                rotate_left
                · simp only [Act.put, List.setIfInBounds_toArray, List.set_cons_zero, List.set_cons_succ, i64_w, i32_w]
                  rfl
                refine pure_ (i := 9) (N := some 105) (v := ?_) (a' := ?_) (List.toArray (true :: true :: true :: true :: true :: true :: true :: true :: true :: true :: false :: false :: false :: false :: false :: false :: false :: false :: false :: false :: false :: [])) rfl rfl (any_of HT_.out (by kernel_rfl)) (fun _ _ _ h => h) (Or.inl ⟨by rfl, ?_⟩) ?_ ?_
                rotate_left
                · intro w'
                  go_simp
                  with_reducible rfl
                rotate_left
                · simp only [Act.put, List.setIfInBounds_toArray, List.set_cons_zero, List.set_cons_succ, i64_w, i32_w]
                  rfl
                refine pure_ (i := 10) (N := some 106) (v := undef) (a' := ?_) (List.toArray (true :: true :: true :: true :: true :: true :: true :: true :: true :: true :: true :: false :: false :: false :: false :: false :: false :: false :: false :: false :: false :: [])) rfl rfl (any_of HT_.out (by kernel_rfl)) (fun _ _ _ h => h) (Or.inr ⟨by rfl, rfl⟩) ?_ ?_
                rotate_left
                · simp only [Act.put, List.setIfInBounds_toArray, List.set_cons_zero, List.set_cons_succ, i64_w, i32_w]
                  rfl
                refine pure_ (i := 11) (N := some 107) (v := undef) (a' := ?_) (List.toArray (true :: true :: true :: true :: true :: true :: true :: true :: true :: true :: true :: true :: false :: false :: false :: false :: false :: false :: false :: false :: false :: [])) rfl rfl (any_of HT_.out (by kernel_rfl)) (fun _ _ _ h => h) (Or.inr ⟨by rfl, rfl⟩) ?_ ?_
                rotate_left
                · simp only [Act.put, List.setIfInBounds_toArray, List.set_cons_zero, List.set_cons_succ, i64_w, i32_w]
                  rfl
                refine pure_ (i := 12) (N := some 108) (v := undef) (a' := ?_) (List.toArray (true :: true :: true :: true :: true :: true :: true :: true :: true :: true :: true :: true :: true :: false :: false :: false :: false :: false :: false :: false :: false :: [])) rfl rfl (any_of HT_.out (by kernel_rfl)) (fun _ _ _ h => h) (Or.inr ⟨by rfl, rfl⟩) ?_ ?_
                rotate_left
                · simp only [Act.put, List.setIfInBounds_toArray, List.set_cons_zero, List.set_cons_succ, i64_w, i32_w]
                  rfl
                refine pure_ (i := 13) (N := some 109) (v := undef) (a' := ?_) (List.toArray (true :: true :: true :: true :: true :: true :: true :: true :: true :: true :: true :: true :: true :: true :: false :: false :: false :: false :: false :: false :: false :: [])) rfl rfl (any_of HT_.out (by kernel_rfl)) (fun _ _ _ h => h) (Or.inr ⟨by rfl, rfl⟩) ?_ ?_
                rotate_left
                · simp only [Act.put, List.setIfInBounds_toArray, List.set_cons_zero, List.set_cons_succ, i64_w, i32_w]
                  rfl
                refine pure_ (i := 14) (N := some 110) (v := undef) (a' := ?_) (List.toArray (true :: true :: true :: true :: true :: true :: true :: true :: true :: true :: true :: true :: true :: true :: true :: false :: false :: false :: false :: false :: false :: [])) rfl rfl (any_of HT_.out (by kernel_rfl)) (fun _ _ _ h => h) (Or.inr ⟨by rfl, rfl⟩) ?_ ?_
                rotate_left
                · simp only [Act.put, List.setIfInBounds_toArray, List.set_cons_zero, List.set_cons_succ, i64_w, i32_w]
                  rfl
                refine pure_ (i := 15) (N := some 111) (v := undef) (a' := ?_) (List.toArray (true :: true :: true :: true :: true :: true :: true :: true :: true :: true :: true :: true :: true :: true :: true :: true :: false :: false :: false :: false :: false :: [])) rfl rfl (any_of HT_.out (by kernel_rfl)) (fun _ _ _ h => h) (Or.inr ⟨by rfl, rfl⟩) ?_ ?_
                rotate_left
                · simp only [Act.put, List.setIfInBounds_toArray, List.set_cons_zero, List.set_cons_succ, i64_w, i32_w]
                  rfl
                refine pure_ (i := 16) (N := some 112) (v := undef) (a' := ?_) (List.toArray (true :: true :: true :: true :: true :: true :: true :: true :: true :: true :: true :: true :: true :: true :: true :: true :: true :: false :: false :: false :: false :: [])) rfl rfl (any_of HT_.out (by kernel_rfl)) (fun _ _ _ h => h) (Or.inr ⟨by rfl, rfl⟩) ?_ ?_
                rotate_left
                · simp only [Act.put, List.setIfInBounds_toArray, List.set_cons_zero, List.set_cons_succ, i64_w, i32_w]
                  rfl
                refine pure_ (i := 17) (N := some 113) (v := undef) (a' := ?_) (List.toArray (true :: true :: true :: true :: true :: true :: true :: true :: true :: true :: true :: true :: true :: true :: true :: true :: true :: true :: false :: false :: false :: [])) rfl rfl (any_of HT_.out (by kernel_rfl)) (fun _ _ _ h => h) (Or.inr ⟨by rfl, rfl⟩) ?_ ?_
                rotate_left
                · simp only [Act.put, List.setIfInBounds_toArray, List.set_cons_zero, List.set_cons_succ, i64_w, i32_w]
                  rfl
                refine pure_ (i := 18) (N := some 114) (v := undef) (a' := ?_) (List.toArray (true :: true :: true :: true :: true :: true :: true :: true :: true :: true :: true :: true :: true :: true :: true :: true :: true :: true :: true :: false :: false :: [])) rfl rfl (any_of HT_.out (by kernel_rfl)) (fun _ _ _ h => h) (Or.inr ⟨by rfl, rfl⟩) ?_ ?_
                rotate_left
                · simp only [Act.put, List.setIfInBounds_toArray, List.set_cons_zero, List.set_cons_succ, i64_w, i32_w]
                  rfl
                refine pure_ (i := 19) (N := some 115) (v := ?_) (a' := ?_) (List.toArray (true :: true :: true :: true :: true :: true :: true :: true :: true :: true :: true :: true :: true :: true :: true :: true :: true :: true :: true :: true :: false :: [])) rfl rfl (any_of HT_.out (by kernel_rfl)) (fun _ _ _ h => h) (Or.inl ⟨by rfl, ?_⟩) ?_ ?_
                rotate_left
                · intro w'
                  go_simp
                  with_reducible rfl
                rotate_left
                · simp only [Act.put, List.setIfInBounds_toArray, List.set_cons_zero, List.set_cons_succ, i64_w, i32_w]
                  rfl
                refine pure_ (i := 20) (N := some 116) (v := ?_) (a' := ?_) (List.toArray (true :: true :: true :: true :: true :: true :: true :: true :: true :: true :: true :: true :: true :: true :: true :: true :: true :: true :: true :: true :: true :: [])) rfl rfl (any_of HT_.out (by kernel_rfl)) (fun _ _ _ h => h) (Or.inl ⟨by rfl, ?_⟩) ?_ ?_
                rotate_left
                · intro w'
                  go_simp
                  with_reducible rfl
                rotate_left
                · simp only [Act.put, List.setIfInBounds_toArray, List.set_cons_zero, List.set_cons_succ, i64_w, i32_w]
                  rfl
                refine done_ (done_of HT_.out (by kernel_rfl)) ?_
                have R6 := Lib.hid (hHeld.2.2.1)
                have M6 := Lib.hid (hHeld.2.2.2.1)
                have Z6 := Lib.hid (hHeld.2.2.2.2.1)
                have B6 := Lib.hid (hHeld.2.2.2.2.2)
                clear hHeld
                go_wp2
                go_roundg (O.length - (0 + 1))
                case measure => have := HK2.out; have := HIL2.out; omega
                case rel => exact ⟨0 + 1, by simp, Lib.hid HIL2.out, Lib.hid (by omega), R6, M6, Z6, B6⟩
              | succ m =>
                have hmi : (((m + 1 : Nat) : Int)) = (m : Int) + 1 := by omega
                rw [hmi] at hi2 ⊢
                clear hmi
                have hil2 : m + 1 < O.length := by omega
                have p2 : 0 ≤ ((m : Int) + 1) := by omega
                obtain ⟨ad, ez, x0, x1, x2, x3, x4, x5⟩ := at_T33 Z5.out ((m : Int) + 1) p2 hi2
                subst ez
                have htn : ((m : Int) + 1).toNat = m + 1 := by omega
                have hrd : rd_T33 O ((m : Int) + 1) = O[m + 1] := by unfold rd_T33; rw [htn]; simp [hil2]
                rw [hrd] at x0 x1 x2 x3 x4 x5
                simp only [htn] at x0 x1 x2 x3 x4 x5
                have hm2 : (m : Int) < (O.length : Int) := by omega
                have pm : 0 ≤ (m : Int) := by omega
                obtain ⟨adp, ep, y0, -, -, -, -, -⟩ := at_T33 Z5.out (m : Int) pm hm2
                obtain rfl : ad = adp := by injection ep
                clear ep
                have hilm : m < O.length := by omega
                have hrp : rd_T33 O (m : Int) = O[m] := by simp [rd_T33, hilm]
                rw [hrp] at y0
                simp only [Int.toNat_natCast] at y0
                have hbl : Op.bytesLess O[m].f0.toList O[m + 1].f0.toList = true := by
                  have h1 := List.pairwise_iff_getElem.1 HSO.out m (m + 1) hilm hil2 (by omega)
                  have h2 : O[m].f0 ≠ O[m + 1].f0 := fun e => by
                    have := nodup_inj HNO.out (i := m) (j := m + 1) (by simpa using hilm) (by simpa using hil2) (by simpa using e)
                    omega
                  have h3 : cmpStr O[m].f0 O[m + 1].f0 ≤ 0 := h1
                  cases hb : Op.bytesLess O[m].f0.toList O[m + 1].f0.toList with
                  | true => rfl
                  | false =>
                    unfold cmpStr at h3
                    rw [hb] at h3
                    split at h3
                    · rename_i h4; cases h4
                    · split at h3
                      · rename_i h5
                        exact absurd (cmpStr_eq (by unfold cmpStr; rw [hb, if_neg (by simp), if_pos h5])) h2
                      · omega
                have hcg := HGM.out O[m + 1] (List.getElem_mem hil2)
                have hcs : O[m + 1].f0.size ≤ maxLen := by have := fewB_size HF.out hcg.2; unfold maxLen; omega
                have hlk0 := fun (y : World) (hy : y.heap[n + 2]? = wr.heap[n + 2]?) => map_look M5.out hcs y hy false
                rw [hcg.1] at hlk0
                have hlk : ∀ y : World, y.heap[n + 2]? = wr.heap[n + 2]? → (Instr.lookup 27 (.map (some (n + 2))) (.string O[m + 1].f0) false).run Tryd.prog y = .ok (val33 O[m + 1]) y := fun y hy => hlk0 y hy
                unfold val33 at hlk
                generalize O[m + 1] = c at x0 x1 x2 x3 x4 x5 hlk hlk0 hcg hcs hrd hbl
                generalize O[m] = p at y0 hbl hrp
                have HIL2 := Lib.hid hil2
                have HLK := Lib.hid hlk
                clear hil2 hlk0 hlk hcg hcs hrd hrp hilm
                replace hi2 := eq_true hi2
                replace p2 := eq_true p2
                replace hm2 := eq_true hm2
                replace pm := eq_true pm
                have hw2 : IntKind.i64.wrap ((m : Int) + 1 + 1) = (m : Int) + 1 + 1 := by
                  rw [IntKind.wrap_i64]
                  have := HIL2.out
                  have := HLO.out
                  omega
                have hw3 : IntKind.i64.wrap ((m : Int) + 1 - 1) = (m : Int) := by
                  rw [IntKind.wrap_i64]
                  have := HIL2.out
                  have := HLO.out
                  omega
                have hw4 : IntKind.i64.wrap (m : Int) = (m : Int) := by
                  rw [IntKind.wrap_i64]
                  have := HIL2.out
                  have := HLO.out
                  omega
                have hgt : (0 < (m : Int) + 1) = True := eq_true (by omega)
                go_wp2_with fail
                have hy1 : (wr.alloc (.cells #[.string c.f0, .int .i64 c.f1.f0, .int .i64 c.f1.f1, .int .i64 c.f2.f0, .int .i64 c.f2.f1, .string c.f2.f2] 33)).drew.cell? (ad.add (m * 6)) = some (.string p.f0) ∧ (RegAt (wr.alloc (.cells #[.string c.f0, .int .i64 c.f1.f0, .int .i64 c.f1.f1, .int .i64 c.f2.f0, .int .i64 c.f2.f1, .string c.f2.f2] 33)).drew (n + 1) n L ∧ MapM (wr.alloc (.cells #[.string c.f0, .int .i64 c.f1.f0, .int .i64 c.f1.f1, .int .i64 c.f2.f0, .int .i64 c.f2.f1, .string c.f2.f2] 33)).drew (n + 2) M ∧ Kd.C k33 (wr.alloc (.cells #[.string c.f0, .int .i64 c.f1.f0, .int .i64 c.f1.f1, .int .i64 c.f2.f0, .int .i64 c.f2.f1, .string c.f2.f2] 33)).drew (some ad) O.length O) := ⟨pw_cell_below (below_drew (below_alloc (Below.refl _ _) _)) y0, (R5.out.alloc (.cells #[.string c.f0, .int .i64 c.f1.f0, .int .i64 c.f1.f1, .int .i64 c.f2.f0, .int .i64 c.f2.f1, .string c.f2.f2] 33)).below (below_drew (Below.refl _ _)), mapm_below (mapm_below M5.out (below_alloc (Below.refl _ _) (.cells #[.string c.f0, .int .i64 c.f1.f0, .int .i64 c.f1.f1, .int .i64 c.f2.f0, .int .i64 c.f2.f1, .string c.f2.f2] 33))) (below_drew (Below.refl _ _)), Kd.C_below (Kd.C_below Z5.out (below_alloc (Below.refl _ _) (.cells #[.string c.f0, .int .i64 c.f1.f0, .int .i64 c.f1.f1, .int .i64 c.f2.f0, .int .i64 c.f2.f1, .string c.f2.f2] 33))) (below_drew (Below.refl _ _))⟩
                have hm1 : (wr.alloc (.cells #[.string c.f0, .int .i64 c.f1.f0, .int .i64 c.f1.f1, .int .i64 c.f2.f0, .int .i64 c.f2.f1, .string c.f2.f2] 33)).drew.heap[n + 2]? = wr.heap[n + 2]? := Below.heap_alloc _ _ _ M5.out.lt
                have hb1 := blk_drew (heap_alloc_new wr (.cells #[.string c.f0, .int .i64 c.f1.f0, .int .i64 c.f1.f1, .int .i64 c.f2.f0, .int .i64 c.f2.f1, .string c.f2.f2] 33))
                have hbw := below_drew (below_alloc B5.out (.cells #[.string c.f0, .int .i64 c.f1.f0, .int .i64 c.f1.f1, .int .i64 c.f2.f0, .int .i64 c.f2.f1, .string c.f2.f2] 33))
                refine start_ (n := 21) (S := fun w' => (w'.heap[wr.heap.size]? = some (.cells #[.string c.f0, .int .i64 c.f1.f0, .int .i64 c.f1.f1, .int .i64 c.f2.f0, .int .i64 c.f2.f1, .string c.f2.f2] 33 (0, 0))) ∧ (w'.heap[n + 2]? = wr.heap[n + 2]?) ∧ (w'.cell? (ad.add (m * 6)) = some (.string p.f0)) ∧ (RegAt w' (n + 1) n L) ∧ (MapM w' (n + 2) M) ∧ (Kd.C k33 w' (some ad) O.length O) ∧ (Below w.heap.size w w')) (ds := []) (List.toArray (false :: false :: false :: false :: false :: false :: false :: false :: false :: false :: false :: false :: false :: false :: false :: false :: false :: false :: false :: false :: false :: [])) (by kernel_rfl) rfl rfl ⟨hb1, hm1, hy1.1, hy1.2.1, hy1.2.2.1, hy1.2.2.2, hbw⟩ (fun hHeld => ?_); refine with_tabW pt22.tab pt22.bits (fun HT_ HW_ => ?_)
                generalize (wr.alloc (.cells #[.string c.f0, .int .i64 c.f1.f0, .int .i64 c.f1.f1, .int .i64 c.f2.f0, .int .i64 c.f2.f1, .string c.f2.f2] 33)).drew = w13 at hHeld ⊢
                clear hy1 hm1 hb1 hbw x0 x1 x2 x3 x4 x5 R5 M5 Z5 B5 y0
                refine pure_ (i := 0) (N := some 96) (v := ?_) (a' := ?_) (List.toArray (true :: false :: false :: false :: false :: false :: false :: false :: false :: false :: false :: false :: false :: false :: false :: false :: false :: false :: false :: false :: false :: [])) rfl rfl (any_of HT_.out (by kernel_rfl)) (fun _ _ _ h => h) (Or.inl ⟨by rfl, ?_⟩) ?_ ?_
                rotate_left
                · intro w'
                  go_simp
                  with_reducible rfl
                rotate_left
                · simp only [Act.put, List.setIfInBounds_toArray, List.set_cons_zero, List.set_cons_succ, i64_w, i32_w]
                  rfl
                refine pure_ (i := 1) (N := some 97) (v := ?_) (a' := ?_) (List.toArray (true :: true :: false :: false :: false :: false :: false :: false :: false :: false :: false :: false :: false :: false :: false :: false :: false :: false :: false :: false :: false :: [])) rfl rfl (any_of HT_.out (by kernel_rfl)) (fun _ _ _ h => h) (Or.inl ⟨by rfl, ?_⟩) ?_ ?_
                rotate_left
                · intro w'
                  go_simp
                  with_reducible rfl
                rotate_left
                · simp only [Act.put, List.setIfInBounds_toArray, List.set_cons_zero, List.set_cons_succ, i64_w, i32_w]
                  rfl
                refine take_ (i := 2) (N := some 98) (v := ?_) (a' := ?_) (List.toArray (true :: true :: true :: false :: false :: false :: false :: false :: false :: false :: false :: false :: false :: false :: false :: false :: false :: false :: false :: false :: false :: [])) rfl rfl (take_ofW HT_.out HW_.out (by kernel_rfl)) (fun _ _ _ h => h) (Or.inl ⟨by rfl, ?_⟩) hHeld ?_ ?_
                rotate_left
                · rintro w' ⟨s0, s1, s2, s3, s4, s5, s6⟩
                  have c0_0 : w'.cell? ⟨wr.heap.size, 0, none⟩ = some (.string c.f0) := (blk_cell s0 0).trans rfl
                  go_simp
                  with_reducible rfl
                rotate_left
                · simp only [Act.put, List.setIfInBounds_toArray, List.set_cons_zero, List.set_cons_succ, i64_w, i32_w]
                  rfl
                refine take_ (i := 3) (N := some 99) (v := ?_) (a' := ?_) (List.toArray (true :: true :: true :: true :: false :: false :: false :: false :: false :: false :: false :: false :: false :: false :: false :: false :: false :: false :: false :: false :: false :: [])) rfl rfl (take_ofW HT_.out HW_.out (by kernel_rfl)) (fun _ _ _ h => h) (Or.inl ⟨by rfl, ?_⟩) hHeld ?_ ?_
                rotate_left
                · rintro w' ⟨s0, s1, s2, s3, s4, s5, s6⟩
                  have hl := HLK.out w' s1
                  go_simp
                  with_reducible rfl
                rotate_left
                · simp only [Act.put, List.setIfInBounds_toArray, List.set_cons_zero, List.set_cons_succ, i64_w, i32_w]
                  rfl
                refine take_ (i := 4) (N := some 100) (v := ?_) (a' := ?_) (List.toArray (true :: true :: true :: true :: true :: false :: false :: false :: false :: false :: false :: false :: false :: false :: false :: false :: false :: false :: false :: false :: false :: [])) rfl rfl (take_ofW HT_.out HW_.out (by kernel_rfl)) (fun _ _ _ h => h) (Or.inl ⟨by rfl, ?_⟩) hHeld ?_ ?_
                rotate_left
                · rintro w' ⟨s0, s1, s2, s3, s4, s5, s6⟩
                  have c0_0 : w'.cell? ⟨wr.heap.size, 0, none⟩ = some (.string c.f0) := (blk_cell s0 0).trans rfl
                  have c0_1 : w'.cell? ⟨wr.heap.size, 1, none⟩ = some (.int .i64 c.f1.f0) := (blk_cell s0 1).trans rfl
                  have c0_2 : w'.cell? ⟨wr.heap.size, 2, none⟩ = some (.int .i64 c.f1.f1) := (blk_cell s0 2).trans rfl
                  have c0_3 : w'.cell? ⟨wr.heap.size, 3, none⟩ = some (.int .i64 c.f2.f0) := (blk_cell s0 3).trans rfl
                  have c0_4 : w'.cell? ⟨wr.heap.size, 4, none⟩ = some (.int .i64 c.f2.f1) := (blk_cell s0 4).trans rfl
                  have c0_5 : w'.cell? ⟨wr.heap.size, 5, none⟩ = some (.string c.f2.f2) := (blk_cell s0 5).trans rfl
                  go_simp
                  with_reducible rfl
                rotate_left
                · simp only [Act.put, List.setIfInBounds_toArray, List.set_cons_zero, List.set_cons_succ, i64_w, i32_w]
                  rfl
                refine pure_ (i := 5) (N := some 101) (v := ?_) (a' := ?_) (List.toArray (true :: true :: true :: true :: true :: true :: false :: false :: false :: false :: false :: false :: false :: false :: false :: false :: false :: false :: false :: false :: false :: [])) rfl rfl (any_of HT_.out (by kernel_rfl)) (fun _ _ _ h => h) (Or.inl ⟨by rfl, ?_⟩) ?_ ?_
                rotate_left
                · intro w'
                  go_simp
                  with_reducible rfl
                rotate_left
                · simp only [Act.put, List.setIfInBounds_toArray, List.set_cons_zero, List.set_cons_succ, i64_w, i32_w]
                  rfl
                refine pure_ (i := 6) (N := some 102) (v := ?_) (a' := ?_) (List.toArray (true :: true :: true :: true :: true :: true :: true :: false :: false :: false :: false :: false :: false :: false :: false :: false :: false :: false :: false :: false :: false :: [])) rfl rfl (any_of HT_.out (by kernel_rfl)) (fun _ _ _ h => h) (Or.inl ⟨by rfl, ?_⟩) ?_ ?_
                rotate_left
                · intro w'
                  go_simp
                  with_reducible rfl
                rotate_left
                · simp only [Act.put, List.setIfInBounds_toArray, List.set_cons_zero, List.set_cons_succ, i64_w, i32_w]
                  rfl
                refine pure_ (i := 7) (N := some 103) (v := ?_) (a' := ?_) (List.toArray (true :: true :: true :: true :: true :: true :: true :: true :: false :: false :: false :: false :: false :: false :: false :: false :: false :: false :: false :: false :: false :: [])) rfl rfl (any_of HT_.out (by kernel_rfl)) (fun _ _ _ h => h) (Or.inl ⟨by rfl, ?_⟩) ?_ ?_
                rotate_left
                · intro w'
                  go_simp
                  with_reducible rfl
                rotate_left
                · simp only [Act.put, List.setIfInBounds_toArray, List.set_cons_zero, List.set_cons_succ, i64_w, i32_w]
                  rfl
                refine pure_ (i := 8) (N := some 104) (v := ?_) (a' := ?_) (List.toArray (true :: true :: true :: true :: true :: true :: true :: true :: true :: false :: false :: false :: false :: false :: false :: false :: false :: false :: false :: false :: false :: [])) rfl rfl (any_of HT_.out (by kernel_rfl)) (fun _ _ _ h => h) (Or.inl ⟨by rfl, ?_⟩) ?_ ?_
                rotate_left
                · intro w'
                  go_simp
                  with_reducible rfl
                rotate_left
                · simp only [Act.put, List.setIfInBounds_toArray, List.set_cons_zero, List.set_cons_succ, i64_w, i32_w]
                  rfl
                refine pure_ (i := 9) (N := some 105) (v := ?_) (a' := ?_) (List.toArray (true :: true :: true :: true :: true :: true :: true :: true :: true :: true :: false :: false :: false :: false :: false :: false :: false :: false :: false :: false :: false :: [])) rfl rfl (any_of HT_.out (by kernel_rfl)) (fun _ _ _ h => h) (Or.inl ⟨by rfl, ?_⟩) ?_ ?_
                rotate_left
                · intro w'
                  go_simp
                  with_reducible rfl
                rotate_left
                · simp only [Act.put, List.setIfInBounds_toArray, List.set_cons_zero, List.set_cons_succ, i64_w, i32_w]
                  rfl
                refine pure_ (i := 10) (N := some 106) (v := ?_) (a' := ?_) (List.toArray (true :: true :: true :: true :: true :: true :: true :: true :: true :: true :: true :: false :: false :: false :: false :: false :: false :: false :: false :: false :: false :: [])) rfl rfl (any_of HT_.out (by kernel_rfl)) (fun _ _ _ h => h) (Or.inl ⟨by rfl, ?_⟩) ?_ ?_
                rotate_left
                · intro w'
                  go_simp
                  with_reducible rfl
                rotate_left
                · simp only [Act.put, List.setIfInBounds_toArray, List.set_cons_zero, List.set_cons_succ, i64_w, i32_w]
                  rfl
                refine pure_ (i := 11) (N := some 107) (v := ?_) (a' := ?_) (List.toArray (true :: true :: true :: true :: true :: true :: true :: true :: true :: true :: true :: true :: false :: false :: false :: false :: false :: false :: false :: false :: false :: [])) rfl rfl (any_of HT_.out (by kernel_rfl)) (fun _ _ _ h => h) (Or.inl ⟨by rfl, ?_⟩) ?_ ?_
                rotate_left
                · intro w'
                  go_simp
                  with_reducible rfl
                rotate_left
                · simp only [Act.put, List.setIfInBounds_toArray, List.set_cons_zero, List.set_cons_succ, i64_w, i32_w]
                  rfl
                refine pure_ (i := 12) (N := some 108) (v := ?_) (a' := ?_) (List.toArray (true :: true :: true :: true :: true :: true :: true :: true :: true :: true :: true :: true :: true :: false :: false :: false :: false :: false :: false :: false :: false :: [])) rfl rfl (any_of HT_.out (by kernel_rfl)) (fun _ _ _ h => h) (Or.inl ⟨by rfl, ?_⟩) ?_ ?_
                rotate_left
                · intro w'
                  go_simp
                  with_reducible rfl
                rotate_left
                · simp only [Act.put, List.setIfInBounds_toArray, List.set_cons_zero, List.set_cons_succ, i64_w, i32_w]
                  rfl
                refine pure_ (i := 13) (N := some 109) (v := ?_) (a' := ?_) (List.toArray (true :: true :: true :: true :: true :: true :: true :: true :: true :: true :: true :: true :: true :: true :: false :: false :: false :: false :: false :: false :: false :: [])) rfl rfl (any_of HT_.out (by kernel_rfl)) (fun _ _ _ h => h) (Or.inl ⟨by rfl, ?_⟩) ?_ ?_
                rotate_left
                · intro w'
                  go_simp
                  with_reducible rfl
                rotate_left
                · simp only [Act.put, List.setIfInBounds_toArray, List.set_cons_zero, List.set_cons_succ, i64_w, i32_w]
                  rfl
                refine pure_ (i := 14) (N := some 110) (v := ?_) (a' := ?_) (List.toArray (true :: true :: true :: true :: true :: true :: true :: true :: true :: true :: true :: true :: true :: true :: true :: false :: false :: false :: false :: false :: false :: [])) rfl rfl (any_of HT_.out (by kernel_rfl)) (fun _ _ _ h => h) (Or.inl ⟨by rfl, ?_⟩) ?_ ?_
                rotate_left
                · intro w'
                  go_simp
                  with_reducible rfl
                rotate_left
                · simp only [Act.put, List.setIfInBounds_toArray, List.set_cons_zero, List.set_cons_succ, i64_w, i32_w]
                  rfl
                refine pure_ (i := 16) (N := some 112) (v := ?_) (a' := ?_) (List.toArray (true :: true :: true :: true :: true :: true :: true :: true :: true :: true :: true :: true :: true :: true :: true :: false :: true :: false :: false :: false :: false :: [])) rfl rfl (any_of HT_.out (by kernel_rfl)) (fun _ _ _ h => h) (Or.inl ⟨by rfl, ?_⟩) ?_ ?_
                rotate_left
                · intro w'
                  go_simp
                  with_reducible rfl
                rotate_left
                · simp only [Act.put, List.setIfInBounds_toArray, List.set_cons_zero, List.set_cons_succ, i64_w, i32_w]
                  rfl
                refine take_ (i := 15) (N := some 111) (v := ?_) (a' := ?_) (List.toArray (true :: true :: true :: true :: true :: true :: true :: true :: true :: true :: true :: true :: true :: true :: true :: true :: true :: false :: false :: false :: false :: [])) rfl rfl (take_ofW HT_.out HW_.out (by kernel_rfl)) (fun _ _ _ h => h) (Or.inl ⟨by rfl, ?_⟩) hHeld ?_ ?_
                rotate_left
                · rintro w' ⟨s0, s1, s2, s3, s4, s5, s6⟩
                  go_simp
                  with_reducible rfl
                rotate_left
                · simp only [Act.put, List.setIfInBounds_toArray, List.set_cons_zero, List.set_cons_succ, i64_w, i32_w]
                  rfl
                refine take_ (i := 17) (N := some 113) (v := ?_) (a' := ?_) (List.toArray (true :: true :: true :: true :: true :: true :: true :: true :: true :: true :: true :: true :: true :: true :: true :: true :: true :: true :: false :: false :: false :: [])) rfl rfl (take_ofW HT_.out HW_.out (by kernel_rfl)) (fun _ _ _ h => h) (Or.inl ⟨by rfl, ?_⟩) hHeld ?_ ?_
                rotate_left
                · rintro w' ⟨s0, s1, s2, s3, s4, s5, s6⟩
                  have c0_0 : w'.cell? ⟨wr.heap.size, 0, none⟩ = some (.string c.f0) := (blk_cell s0 0).trans rfl
                  go_simp
                  with_reducible rfl
                rotate_left
                · simp only [Act.put, List.setIfInBounds_toArray, List.set_cons_zero, List.set_cons_succ, i64_w, i32_w]
                  rfl
                refine pure_ (i := 18) (N := some 114) (v := ?_) (a' := ?_) (List.toArray (true :: true :: true :: true :: true :: true :: true :: true :: true :: true :: true :: true :: true :: true :: true :: true :: true :: true :: true :: false :: false :: [])) rfl rfl (any_of HT_.out (by kernel_rfl)) (fun _ _ _ h => h) (Or.inl ⟨by rfl, ?_⟩) ?_ ?_
                rotate_left
                · intro w'
                  go_simp
                  with_reducible rfl
                rotate_left
                · simp only [Act.put, List.setIfInBounds_toArray, List.set_cons_zero, List.set_cons_succ, i64_w, i32_w]
                  rfl
                refine pure_ (i := 19) (N := some 115) (v := ?_) (a' := ?_) (List.toArray (true :: true :: true :: true :: true :: true :: true :: true :: true :: true :: true :: true :: true :: true :: true :: true :: true :: true :: true :: true :: false :: [])) rfl rfl (any_of HT_.out (by kernel_rfl)) (fun _ _ _ h => h) (Or.inl ⟨by rfl, ?_⟩) ?_ ?_
                rotate_left
                · intro w'
                  go_simp
                  with_reducible rfl
                rotate_left
                · simp only [Act.put, List.setIfInBounds_toArray, List.set_cons_zero, List.set_cons_succ, i64_w, i32_w]
                  rfl
                refine pure_ (i := 20) (N := some 116) (v := ?_) (a' := ?_) (List.toArray (true :: true :: true :: true :: true :: true :: true :: true :: true :: true :: true :: true :: true :: true :: true :: true :: true :: true :: true :: true :: true :: [])) rfl rfl (any_of HT_.out (by kernel_rfl)) (fun _ _ _ h => h) (Or.inl ⟨by rfl, ?_⟩) ?_ ?_
                rotate_left
                · intro w'
                  go_simp
                  with_reducible rfl
                rotate_left
                · simp only [Act.put, List.setIfInBounds_toArray, List.set_cons_zero, List.set_cons_succ, i64_w, i32_w]
                  rfl
                refine done_ (done_of HT_.out (by kernel_rfl)) ?_
                have R6 := Lib.hid (hHeld.2.2.2.1)
                have M6 := Lib.hid (hHeld.2.2.2.2.1)
                have Z6 := Lib.hid (hHeld.2.2.2.2.2.1)
                have B6 := Lib.hid (hHeld.2.2.2.2.2.2)
                clear hHeld
                go_wp2
                go_roundg (O.length - (m + 1 + 1))
                case measure => have := HK2.out; have := HIL2.out; omega
                case rel => exact ⟨m + 1 + 1, by simp, Lib.hid HIL2.out, Lib.hid (by omega), R6, M6, Z6, B6⟩
            · go_wp2_with fail
              refine (Get_calls (n + 1) n L name _ R5.out HNM.out).mono ?_
              rintro e w6 ⟨rfl, hb⟩
              have M6 := mapm_below M5.out hb
              have B6 := Lib.hid (below_step B5.out hb)
              clear hb R5 M5 B5 Z5
              rw [HE.out]
              obtain ⟨x, hxe⟩ : ∃ x, (getL M name).getD z33 = x := ⟨_, rfl⟩
              obtain ⟨ok, hoe⟩ : ∃ x, (getL M name).isSome = x := ⟨_, rfl⟩
              rw [hxe, hoe]
              have hlk := map_look M6 HNM.out (w6.alloc (.cells #[.string x.f0, .int .i64 x.f1.f0, .int .i64 x.f1.f1, .int .i64 x.f2.f0, .int .i64 x.f2.f1, .string x.f2.f2] 33)) (Below.heap_alloc _ _ _ M6.lt) true
              have hlen := fun ty => M6.len Tryd.underlying27 ty ((w6.alloc (.cells #[.string x.f0, .int .i64 x.f1.f0, .int .i64 x.f1.f1, .int .i64 x.f2.f0, .int .i64 x.f2.f1, .string x.f2.f2] 33)).alloc (.cells #[.string x.f0, .int .i64 x.f1.f0, .int .i64 x.f1.f1, .int .i64 x.f2.f0, .int .i64 x.f2.f1, .string x.f2.f2] 33)) ((Below.heap_alloc _ _ _ (Nat.lt_of_lt_of_le M6.lt (by simp))).trans (Below.heap_alloc _ _ _ M6.lt))
              have hle : (ents M).length = O.length := by rw [ents, List.length_map, HPO.out.length_eq, HPL.out.length_eq]
              rw [hle] at hlen
              clear hle M6
              rw [hxe, hoe, if_pos rfl] at hlk
              clear hxe hoe
              unfold val33 at hlk
              simp only [val33]
              have hx1 := blk_alloc (heap_alloc_new w6 (.cells #[.string x.f0, .int .i64 x.f1.f0, .int .i64 x.f1.f1, .int .i64 x.f2.f0, .int .i64 x.f2.f1, .string x.f2.f2] 33)) (.cells #[.string x.f0, .int .i64 x.f1.f0, .int .i64 x.f1.f1, .int .i64 x.f2.f0, .int .i64 x.f2.f1, .string x.f2.f2] 33)
              have hx2 := heap_alloc_new (w6.alloc (.cells #[.string x.f0, .int .i64 x.f1.f0, .int .i64 x.f1.f1, .int .i64 x.f2.f0, .int .i64 x.f2.f1, .string x.f2.f2] 33)) (.cells #[.string x.f0, .int .i64 x.f1.f0, .int .i64 x.f1.f1, .int .i64 x.f2.f0, .int .i64 x.f2.f1, .string x.f2.f2] 33)
              rw [show (w6.alloc (.cells #[.string x.f0, .int .i64 x.f1.f0, .int .i64 x.f1.f1, .int .i64 x.f2.f0, .int .i64 x.f2.f1, .string x.f2.f2] 33)).heap.size = w6.heap.size + 1 from by simp] at hx2
              have k0 : ((w6.alloc (.cells #[.string x.f0, .int .i64 x.f1.f0, .int .i64 x.f1.f1, .int .i64 x.f2.f0, .int .i64 x.f2.f1, .string x.f2.f2] 33)).alloc (.cells #[.string x.f0, .int .i64 x.f1.f0, .int .i64 x.f1.f1, .int .i64 x.f2.f0, .int .i64 x.f2.f1, .string x.f2.f2] 33)).cell? ⟨w6.heap.size, 0, none⟩ = some (.string x.f0) := (blk_cell hx1 0).trans rfl
              have k1 : ((w6.alloc (.cells #[.string x.f0, .int .i64 x.f1.f0, .int .i64 x.f1.f1, .int .i64 x.f2.f0, .int .i64 x.f2.f1, .string x.f2.f2] 33)).alloc (.cells #[.string x.f0, .int .i64 x.f1.f0, .int .i64 x.f1.f1, .int .i64 x.f2.f0, .int .i64 x.f2.f1, .string x.f2.f2] 33)).cell? ⟨w6.heap.size, 1, none⟩ = some (.int .i64 x.f1.f0) := (blk_cell hx1 1).trans rfl
              have k2 : ((w6.alloc (.cells #[.string x.f0, .int .i64 x.f1.f0, .int .i64 x.f1.f1, .int .i64 x.f2.f0, .int .i64 x.f2.f1, .string x.f2.f2] 33)).alloc (.cells #[.string x.f0, .int .i64 x.f1.f0, .int .i64 x.f1.f1, .int .i64 x.f2.f0, .int .i64 x.f2.f1, .string x.f2.f2] 33)).cell? ⟨w6.heap.size, 2, none⟩ = some (.int .i64 x.f1.f1) := (blk_cell hx1 2).trans rfl
              have k3 : ((w6.alloc (.cells #[.string x.f0, .int .i64 x.f1.f0, .int .i64 x.f1.f1, .int .i64 x.f2.f0, .int .i64 x.f2.f1, .string x.f2.f2] 33)).alloc (.cells #[.string x.f0, .int .i64 x.f1.f0, .int .i64 x.f1.f1, .int .i64 x.f2.f0, .int .i64 x.f2.f1, .string x.f2.f2] 33)).cell? ⟨w6.heap.size, 3, none⟩ = some (.int .i64 x.f2.f0) := (blk_cell hx1 3).trans rfl
              have k4 : ((w6.alloc (.cells #[.string x.f0, .int .i64 x.f1.f0, .int .i64 x.f1.f1, .int .i64 x.f2.f0, .int .i64 x.f2.f1, .string x.f2.f2] 33)).alloc (.cells #[.string x.f0, .int .i64 x.f1.f0, .int .i64 x.f1.f1, .int .i64 x.f2.f0, .int .i64 x.f2.f1, .string x.f2.f2] 33)).cell? ⟨w6.heap.size, 4, none⟩ = some (.int .i64 x.f2.f1) := (blk_cell hx1 4).trans rfl
              have k5 : ((w6.alloc (.cells #[.string x.f0, .int .i64 x.f1.f0, .int .i64 x.f1.f1, .int .i64 x.f2.f0, .int .i64 x.f2.f1, .string x.f2.f2] 33)).alloc (.cells #[.string x.f0, .int .i64 x.f1.f0, .int .i64 x.f1.f1, .int .i64 x.f2.f0, .int .i64 x.f2.f1, .string x.f2.f2] 33)).cell? ⟨w6.heap.size, 5, none⟩ = some (.string x.f2.f2) := (blk_cell hx1 5).trans rfl
              have m0 : ((w6.alloc (.cells #[.string x.f0, .int .i64 x.f1.f0, .int .i64 x.f1.f1, .int .i64 x.f2.f0, .int .i64 x.f2.f1, .string x.f2.f2] 33)).alloc (.cells #[.string x.f0, .int .i64 x.f1.f0, .int .i64 x.f1.f1, .int .i64 x.f2.f0, .int .i64 x.f2.f1, .string x.f2.f2] 33)).cell? ⟨w6.heap.size + 1, 0, none⟩ = some (.string x.f0) := (blk_cell hx2 0).trans rfl
              have m1 : ((w6.alloc (.cells #[.string x.f0, .int .i64 x.f1.f0, .int .i64 x.f1.f1, .int .i64 x.f2.f0, .int .i64 x.f2.f1, .string x.f2.f2] 33)).alloc (.cells #[.string x.f0, .int .i64 x.f1.f0, .int .i64 x.f1.f1, .int .i64 x.f2.f0, .int .i64 x.f2.f1, .string x.f2.f2] 33)).cell? ⟨w6.heap.size + 1, 1, none⟩ = some (.int .i64 x.f1.f0) := (blk_cell hx2 1).trans rfl
              have m2 : ((w6.alloc (.cells #[.string x.f0, .int .i64 x.f1.f0, .int .i64 x.f1.f1, .int .i64 x.f2.f0, .int .i64 x.f2.f1, .string x.f2.f2] 33)).alloc (.cells #[.string x.f0, .int .i64 x.f1.f0, .int .i64 x.f1.f1, .int .i64 x.f2.f0, .int .i64 x.f2.f1, .string x.f2.f2] 33)).cell? ⟨w6.heap.size + 1, 2, none⟩ = some (.int .i64 x.f1.f1) := (blk_cell hx2 2).trans rfl
              have m3 : ((w6.alloc (.cells #[.string x.f0, .int .i64 x.f1.f0, .int .i64 x.f1.f1, .int .i64 x.f2.f0, .int .i64 x.f2.f1, .string x.f2.f2] 33)).alloc (.cells #[.string x.f0, .int .i64 x.f1.f0, .int .i64 x.f1.f1, .int .i64 x.f2.f0, .int .i64 x.f2.f1, .string x.f2.f2] 33)).cell? ⟨w6.heap.size + 1, 3, none⟩ = some (.int .i64 x.f2.f0) := (blk_cell hx2 3).trans rfl
              have m4 : ((w6.alloc (.cells #[.string x.f0, .int .i64 x.f1.f0, .int .i64 x.f1.f1, .int .i64 x.f2.f0, .int .i64 x.f2.f1, .string x.f2.f2] 33)).alloc (.cells #[.string x.f0, .int .i64 x.f1.f0, .int .i64 x.f1.f1, .int .i64 x.f2.f0, .int .i64 x.f2.f1, .string x.f2.f2] 33)).cell? ⟨w6.heap.size + 1, 4, none⟩ = some (.int .i64 x.f2.f1) := (blk_cell hx2 4).trans rfl
              have m5 : ((w6.alloc (.cells #[.string x.f0, .int .i64 x.f1.f0, .int .i64 x.f1.f1, .int .i64 x.f2.f0, .int .i64 x.f2.f1, .string x.f2.f2] 33)).alloc (.cells #[.string x.f0, .int .i64 x.f1.f0, .int .i64 x.f1.f1, .int .i64 x.f2.f0, .int .i64 x.f2.f1, .string x.f2.f2] 33)).cell? ⟨w6.heap.size + 1, 5, none⟩ = some (.string x.f2.f2) := (blk_cell hx2 5).trans rfl
              have B7 := Lib.hid (below_alloc (below_alloc B6.out (.cells #[.string x.f0, .int .i64 x.f1.f0, .int .i64 x.f1.f1, .int .i64 x.f2.f0, .int .i64 x.f2.f1, .string x.f2.f2] 33)) (.cells #[.string x.f0, .int .i64 x.f1.f0, .int .i64 x.f1.f1, .int .i64 x.f2.f0, .int .i64 x.f2.f1, .string x.f2.f2] 33))
              clear hx1 hx2 B6
              go_wp2
              go_ret
              exact ⟨rfl, B7.out⟩
end Go.Proofs.YtjacpmmlkgcjjaaDoor.Latest
