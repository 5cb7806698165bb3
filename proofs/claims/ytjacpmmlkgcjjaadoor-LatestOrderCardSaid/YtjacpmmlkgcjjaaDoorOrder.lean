/- LatestOrder, walked: it answers true. -/
import Derived.Test.YtjacpmmlkgcjjaaDoorOrd
import Derived.Deep.RegionHeld3
namespace Go.Proofs.YtjacpmmlkgcjjaaDoor.Latest
open Go.RowKit Go.ChangeMaps Go.Shelf Go.Sort Go.Proofs.YtjacpmmlkgcjjaaDoorW.PrintWords Go.Proofs.YtjacpmmlkgcjjaaDoorW.PrintLast Go.Proofs.YtjacpmmlkgcjjaaDoor.Given Go.Proofs.YtjacpmmlkgcjjaaDoor.PA Go.Proofs.YtjacpmmlkgcjjaaDoor.Val
open Go.Maps (Keyed string_keyed)
open Go.WideMaps
set_option linter.unusedVariables false
set_option linter.unusedSimpArgs false
theorem new_reg {w w1 : World} (h : (w.alloc (.map #[] 0)).alloc (.cells #[.map (some w.heap.size)] 50) = w1) : RegAt w1 (w.heap.size + 1) w.heap.size [] ∧ Below w.heap.size w w1 ∧ w1.heap.size = w.heap.size + 2 := by
  subst h
  exact ⟨⟨by rw [show w.heap.size + 1 = (w.alloc (.map #[] 0)).heap.size from by simp]; exact (MapKept.heap_alloc _ _).1, MapAt.same (MapAt.made w) ((MapKept.heap_alloc _ _).2 _ (by simp))⟩, below_alloc (below_alloc (Below.refl _ _) _) _, by simp⟩
theorem putsS_same : ∀ (O : List S33) (st : St), (∀ x ∈ O, counts (st x.f0) x = false) → putsS st O = st
  | [], _, _ => rfl
  | c :: O, st, h => by
    have h0 := h c (by simp)
    have hp : putS st c = st := funext fun s => by
      unfold putS
      rw [h0]
      exact if_neg (by simp)
    show putsS (putS st c) O = st
    rw [hp, putsS_same O st (fun x hx => h x (List.mem_cons_of_mem _ hx))]

def or25.T : Bool × List (List Nat × List Nat) := (true, [([], []), ([], []), ([0, 1], [0, 1]), ([2], [2]), ([], []), ([], []), ([4, 5], [4, 5]), ([6], [6]), ([3, 7], [3, 7]), ([8], [8]), ([9], [9]), ([9], [9]), ([10, 11, 9], [9, 10, 11]), ([12, 9], [9, 12]), ([9], [9]), ([9], [9]), ([14, 15, 9], [9, 14, 15]), ([16, 9], [9, 16]), ([13, 17, 9], [9, 13, 17]), ([9, 18], [9, 18])])
def or25.B : List Nat := [0, 0, 3, 7, 0, 0, 48, 112, 255, 511, 1023, 1023, 4095, 8191, 1023, 1023, 50175, 115711, 262143, 524287]
theorem or25.tab : rtab .any (opsOf Tryd.f4 25) = or25.T := by kernel_rfl
theorem or25.bits : waitsOk or25.T.2 or25.B = true := by kernel_rfl
theorem best_putA {Pa Pb : S33 → Prop} {sa sb su : St} {l : List S33} {m : Nat} {c : S33} (h : Best Pa sa ∧ Best Pb sb ∧ (∀ x, (Pa x ∨ Pb x) ↔ x ∈ l.drop (m + 1))) (hd : l.drop m = c :: l.drop (m + 1)) (hs : su = putS sa c) :
    Best (fun x => Pa x ∨ x = c) su ∧ Best Pb sb ∧ (∀ x, ((Pa x ∨ x = c) ∨ Pb x) ↔ x ∈ l.drop m) := by
  subst hs
  refine ⟨h.1.put c, h.2.1, fun x => ?_⟩
  rw [hd, List.mem_cons, ← h.2.2 x]
  constructor
  · rintro ((h | h) | h)
    · exact .inr (.inl h)
    · exact .inl h
    · exact .inr (.inr h)
  · rintro (h | h | h)
    · exact .inl (.inr h)
    · exact .inl (.inl h)
    · exact .inr h
theorem best_putB {Pa Pb : S33 → Prop} {sa sb su : St} {l : List S33} {m : Nat} {c : S33} (h : Best Pa sa ∧ Best Pb sb ∧ (∀ x, (Pa x ∨ Pb x) ↔ x ∈ l.drop (m + 1))) (hd : l.drop m = c :: l.drop (m + 1)) (hs : su = putS sb c) :
    Best Pa sa ∧ Best (fun x => Pb x ∨ x = c) su ∧ (∀ x, (Pa x ∨ (Pb x ∨ x = c)) ↔ x ∈ l.drop m) := by
  subst hs
  refine ⟨h.1, h.2.1.put c, fun x => ?_⟩
  rw [hd, List.mem_cons, ← h.2.2 x]
  constructor
  · rintro (h | h | h)
    · exact .inr (.inl h)
    · exact .inr (.inr h)
    · exact .inl h
  · rintro (h | h | h)
    · exact .inr (.inr h)
    · exact .inl h
    · exact .inr (.inl h)
theorem put_mem {L L' l : List S33} {c : S33} (h : ∀ x ∈ L', x ∈ L ∨ (x = c ∧ rightC c = true)) (hL : ∀ x ∈ L, x ∈ l) (hc : c ∈ l) : ∀ x ∈ L', x ∈ l := fun x hx => by
  rcases h x hx with h | ⟨rfl, _⟩
  · exact hL x h
  · exact hc
set_option maxHeartbeats 8000000 in
set_option maxRecDepth 100000 in
theorem Order_calls (l : List S33) (bs : List Bool) (A A1 : Option Addr) (cc cc1 : Nat) (w : World) (hC : Kd.C k33 w A l.length l) (hcc : l.length ≤ cc) (hll : l.length ≤ 4611686018427387904) (hin : ∀ c ∈ l, Cin c)
    (hD : Kd.C Kd.bool w A1 bs.length bs) (hcc1 : bs.length ≤ cc1) :
    Calls Tryd.prog 4 #[.slice A l.length cc, .slice A1 bs.length cc1] w fun e w' => e = .returned (.bool true) ∧ Below w.heap.size w w' := by
  have HC := Lib.hid hC
  have HD := Lib.hid hD
  have HCC := Lib.hid hcc
  have HIN := Lib.hid hin
  have HLL := Lib.hid hll
  clear hC hcc hin hll hD hcc1
  go_enter Tryd.func4, Tryd.ntmps4
  go_wp2_with fail
  refine (fixed_calls _).mono ?_
  rintro e w1 ⟨rfl, hb⟩
  have B1 := Lib.hid hb
  clear hb
  go_wp2_with fail
  refine (hedgerowlaw36_few.calls (l.length + 1) A cc l (fewB l) _ (Kd.C_below HC.out B1.out) HCC.out (few_is l HLL.out HIN.out)).mono ?_
  rintro e w2 ⟨rfl, hb⟩
  have B2 := Lib.hid (below_step B1.out hb)
  clear hb B1
  cases hf : fewB l with
  | false =>
    clear hf
    go_wp2
    go_ret
    exact ⟨rfl, B2.out⟩
  | true =>
    have HF := Lib.hid hf
    have HL8 := Lib.hid (fewB_len hf)
    clear hf
    go_wp2_with fail
    refine (New_calls _).mono ?_
    rintro e w3 ⟨rfl, hw3⟩
    have RA3 := Lib.hid (new_reg hw3)
    clear hw3
    have hg : w.heap.size ≤ w2.heap.size := B2.out.size
    go_wp2_with fail
    refine (New_calls _).mono ?_
    rintro e w4 ⟨rfl, hw4⟩
    have RB4 := Lib.hid (new_reg hw4)
    clear hw4
    go_wp2_with fail
    refine (New_calls _).mono ?_
    rintro e w5 ⟨rfl, hw5⟩
    have RC5 := Lib.hid (new_reg hw5)
    clear hw5
    have hra : RegAt w5 (w2.heap.size + 1) w2.heap.size [] := (RA3.out.1.below RB4.out.2.1).below RC5.out.2.1
    have hrb : RegAt w5 (w3.heap.size + 1) w3.heap.size [] := RB4.out.1.below RC5.out.2.1
    have hrc := RC5.out.1
    have hbw : Below w.heap.size w w5 := below_step (below_step (below_step B2.out RA3.out.2.1) RB4.out.2.1) RC5.out.2.1
    rw [RB4.out.2.2, RA3.out.2.2] at hrc
    rw [RA3.out.2.2] at hrb
    rw [RB4.out.2.2, RA3.out.2.2]
    have RA := Lib.hid hra
    have RB := Lib.hid hrb
    have RC := Lib.hid hrc
    have BW := Lib.hid hbw
    have HG := Lib.hid hg
    clear hra hrb hrc hbw hg RA3 RB4 RC5 B2
    generalize w2.heap.size = n at RA RB RC HG ⊢
    have hw0 : IntKind.i64.wrap ((l.length : Int) - 1) = (l.length : Int) - 1 := by
      rw [IntKind.wrap_i64]
      have := HL8.out
      omega
    go_wp2
    go_loopg [8] l.length (fun k v8 wr => ∃ (j : Nat) (La Lb : List S33) (Pa Pb : S33 → Prop), v8 = .int .i64 ((j : Int) - 1) ∧ Hid (j ≤ l.length) ∧ Hid (j ≤ k) ∧ Hid (RegAt wr (n + 1) n La) ∧ Hid (RegAt wr (n + 2 + 1) (n + 2) Lb) ∧ Hid (RegAt wr (n + 2 + 2 + 1) (n + 2 + 2) []) ∧
      Hid (Best Pa (getL La) ∧ Best Pb (getL Lb) ∧ (∀ c, (Pa c ∨ Pb c) ↔ c ∈ l.drop j)) ∧ Hid ((∀ x ∈ La, x ∈ l) ∧ (∀ x ∈ Lb, x ∈ l) ∧ La.length + j ≤ l.length ∧ Lb.length + j ≤ l.length) ∧ Hid (Below w.heap.size w wr))
    case atStart => exact ⟨l.length, [], [], fun _ => False, fun _ => False, rfl, Lib.hid (Nat.le_refl _), Lib.hid (Nat.le_refl _), RA, RB, RC, Lib.hid ⟨Best.empty, Best.empty, by simp⟩, Lib.hid ⟨by simp, by simp, by simp, by simp⟩, BW⟩
    case round =>
      clear RA RB RC BW hw0
      obtain ⟨j, La, Lb, Pa, Pb, rfl, HJ, HK, HRA, HRB, HRC, HBest, HMM, HB⟩ := hrel
      cases j with
      | zero =>
        clear HK HJ
        simp only [Int.natCast_zero, Int.zero_sub]
        have HB0 : Hid (Best Pa (getL La) ∧ Best Pb (getL Lb) ∧ (∀ c, (Pa c ∨ Pb c) ↔ c ∈ l)) := Lib.hid (by have := HBest.out; rw [List.drop_zero] at this; exact this)
        clear HBest
        go_wp2_with fail
        go_loopg [54] l.length (fun k v54 wr2 => ∃ (i : Nat) (Lw : List S33), v54 = .int .i64 (i : Int) ∧ Hid (i ≤ l.length) ∧ Hid (l.length ≤ i + k) ∧ Hid (RegAt wr2 (n + 1) n La) ∧ Hid (RegAt wr2 (n + 2 + 1) (n + 2) Lb) ∧ Hid (RegAt wr2 (n + 2 + 2 + 1) (n + 2 + 2) Lw) ∧
          Hid (Best (fun x => x ∈ l.take i) (getL Lw)) ∧ Hid ((∀ x ∈ Lw, x ∈ l) ∧ Lw.length ≤ i) ∧ Hid (Below w.heap.size w wr2))
        case atStart => exact ⟨0, [], rfl, Lib.hid (Nat.zero_le _), Lib.hid (by omega), HRA, HRB, HRC, Lib.hid (by have h := Best.empty; rw [show (fun x => x ∈ l.take 0) = (fun _ : S33 => False) from by funext x; simp]; exact h), Lib.hid ⟨by simp, by simp⟩, HB⟩
        case round =>
          clear HRA HRB HRC HB
          obtain ⟨i, Lw, rfl, HI, HK, HRA, HRB, HRC, HBW, HMW, HB⟩ := hrel
          by_cases hi : (i : Int) < (l.length : Int)
          · have hil : i < l.length := by omega
            have p1 : 0 ≤ (i : Int) := by omega
            obtain ⟨ad, e1, hx0, hx1, hx2, hx3, hx4, hx5⟩ := at_T33 (Kd.C_below HC.out HB.out) (i : Int) p1 hi
            subst e1
            have hrd : rd_T33 l (i : Int) = l[i] := by simp [rd_T33, hil]
            rw [hrd] at hx0 hx1 hx2 hx3 hx4 hx5
            simp only [Int.toNat_natCast] at hx0 hx1 hx2 hx3 hx4 hx5
            have HCK := Lib.hid (fewB_ok HF.out HIN.out (List.getElem_mem hil))
            have HCL := Lib.hid (List.getElem_mem hil)
            have HDR := Lib.hid (take_snoc hil)
            have HIL := Lib.hid hil
            generalize l[i] = c at hx0 hx1 hx2 hx3 hx4 hx5 HCK HCL HDR hrd
            clear hrd hil
            replace p1 := eq_true p1
            replace hi := eq_true hi
            have hw1 : IntKind.i64.wrap ((i : Int) + 1) = (i : Int) + 1 := by
              rw [IntKind.wrap_i64]
              have := HI.out
              have := HL8.out
              omega
            go_wp2_with fail
            refine (Put_calls (n + 2 + 2 + 1) (n + 2 + 2) Lw c _ (HRC.out.alloc _) HCK.out).mono ?_
            rintro e w6 ⟨rfl, L', hr, hk0, hg, hmm, hl1, hl2⟩
            have hk : KeptBut wr w6 (n + 2 + 2) := KeptBut.trans (.of_below (below_alloc (Below.refl _ _) _)) hk0
            have hst : getL L' = putS (getL Lw) c := funext fun s => hg s
            have B6 := Lib.hid (hk.below HB.out (by have := HG.out; omega) HB.out.size)
            have R6 := Lib.hid (hk.reg HRA.out (by omega) (by omega))
            have S6 := Lib.hid (hk.reg HRB.out (by omega) (by omega))
            have T6 := Lib.hid hr
            have HN : Hid (Best (fun x => x ∈ l.take (i + 1)) (getL L')) := Lib.hid (by
              have h := HBW.out.put c
              rw [← hst] at h
              rw [show (fun x => x ∈ l.take (i + 1)) = (fun x => x ∈ l.take i ∨ x = c) from by funext x; rw [HDR.out]; simp]
              exact h)
            have HM2 : Hid ((∀ x ∈ L', x ∈ l) ∧ L'.length ≤ i + 1) := Lib.hid ⟨put_mem hmm HMW.out.1 HCL.out, by have := HMW.out; omega⟩
            clear hr hk hk0 hg hmm hl1 hl2 hst
            generalize counts (getL Lw c.f0) c = ct
            generalize errC c = en
            go_wp2
            go_roundg (l.length - (i + 1))
            case measure => have := HK.out; have := HIL.out; omega
            case rel => exact ⟨i + 1, L', by simp, Lib.hid HIL.out, Lib.hid (by omega), R6, S6, T6, HN, HM2, B6⟩
          · have HBL : Hid (Best (fun x => x ∈ l) (getL Lw)) := Lib.hid (by have h := HBW.out; rw [List.take_of_length_le (by omega)] at h; exact h)
            clear HBW
            go_wp2_with fail
            have hlen : La.length ≤ 80 ∧ Lb.length ≤ 80 ∧ Lw.length ≤ 80 := by have h1 := HMM.out; have h2 := HMW.out; have h3 := HL8.out; have h4 := HI.out; omega
            have HLEN := Lib.hid hlen
            clear hlen
            have HOK : Hid (∀ c ∈ l, Cok c) := Lib.hid (fun c hc => fewB_ok HF.out HIN.out hc)
            refine (Join_calls (n + 1) n (n + 2 + 1) (n + 2) La Lb _ HRA.out HRB.out (by have := HLEN.out; omega) (by have := HLEN.out; omega) (fun c hc => HOK.out c (HMM.out.2.1 c hc))).mono ?_
            rintro e w7 ⟨O1, L1, rfl, hp, hr, hg, hk, hmm, hl⟩
            have hq : Best (fun x => x ∈ l) (getL L1) := by
              have h := HB0.out.1.join HB0.out.2.1 (O := O1) (fun x => by rw [hp.mem_iff]; exact mem_getL HRB.out.nodup x)
              rw [← hg] at h
              rw [show (fun x => x ∈ l) = _ from funext fun x => propext (HB0.out.2.2 x).symm]
              exact h
            have HE1 : Hid (getL L1 = getL Lw) := Lib.hid (hq.unique HBL.out (fun _ => Iff.rfl))
            have HM1 : Hid ((∀ x ∈ L1, x ∈ l) ∧ L1.length ≤ 160) := Lib.hid ⟨fun x hx => by rcases hmm x hx with h | ⟨h, _⟩; exact HMM.out.1 x h; exact HMM.out.2.1 x h, by have := HLEN.out; omega⟩
            have R7 := Lib.hid hr
            have S7 := Lib.hid (hk.reg HRB.out (by omega) (by omega))
            have T7 := Lib.hid (hk.reg HRC.out (by omega) (by omega))
            have B7 := Lib.hid (hk.below HB.out HG.out HB.out.size)
            clear hp hr hg hk hmm hl hq HRA HRB HRC HB
            generalize cntS (getL La) O1 = n1
            go_wp2_with fail
            refine (Join_calls (n + 2 + 1) (n + 2) (n + 1) n Lb L1 _ S7.out R7.out (by have := HLEN.out; omega) (by have := HM1.out; omega) (fun c hc => HOK.out c (HM1.out.1 c hc))).mono ?_
            rintro e w8 ⟨O2, L2, rfl, hp, hr, hg, hk, hmm, hl⟩
            have hq : Best (fun x => x ∈ l) (getL L2) := by
              have h := HB0.out.2.1.join (Q := fun x => x ∈ l) (su := getL L1) (by rw [HE1.out]; exact HBL.out) (O := O2) (fun x => by rw [hp.mem_iff]; exact mem_getL R7.out.nodup x)
              rw [← hg] at h
              rw [show (fun x => x ∈ l) = (fun x => Pb x ∨ x ∈ l) from funext fun x => propext ⟨.inr, fun h => by rcases h with h | h; exact (HB0.out.2.2 x).1 (.inr h); exact h⟩]
              exact h
            have HE2 : Hid (getL L2 = getL Lw) := Lib.hid (hq.unique HBL.out (fun _ => Iff.rfl))
            have HM2 : Hid ((∀ x ∈ L2, x ∈ l) ∧ L2.length ≤ 240) := Lib.hid ⟨fun x hx => by rcases hmm x hx with h | ⟨h, _⟩; exact HMM.out.2.1 x h; exact HM1.out.1 x h, by have := HLEN.out; have := HM1.out; omega⟩
            have R8 := Lib.hid (hk.reg R7.out (by omega) (by omega))
            have S8 := Lib.hid hr
            have T8 := Lib.hid (hk.reg T7.out (by omega) (by omega))
            have B8 := Lib.hid (hk.below B7.out (by have := HG.out; omega) B7.out.size)
            clear hp hr hg hk hmm hl hq R7 S7 T7 B7
            generalize cntS (getL Lb) O2 = n2
            go_wp2_with fail
            refine (All_calls (n + 1) n L1 _ R8.out (by have := HM1.out; omega)).mono ?_
            rintro e w9 ⟨v9, X, rfl, hpx, hsx, hox, hb9⟩
            obtain ⟨ax, cx, rfl⟩ := Kd.R_slice hox
            have R9 := Lib.hid (R8.out.below hb9)
            have S9 := Lib.hid (S8.out.below hb9)
            have T9 := Lib.hid (T8.out.below hb9)
            have B9 := Lib.hid (below_step B8.out hb9)
            have X9 := Lib.hid (Kd.R_reads' hox).2.2
            have PX := Lib.hid hpx
            have SX := Lib.hid hsx
            clear hpx hsx hox hb9 R8 S8 T8 B8
            go_wp2_with fail
            refine (All_calls (n + 2 + 1) (n + 2) L2 _ S9.out (by have := HM2.out; omega)).mono ?_
            rintro e w10 ⟨v10, Y, rfl, hpy, hsy, hoy, hb10⟩
            obtain ⟨ay, cy, rfl⟩ := Kd.R_slice hoy
            have R10 := Lib.hid (R9.out.below hb10)
            have S10 := Lib.hid (S9.out.below hb10)
            have T10 := Lib.hid (T9.out.below hb10)
            have B10 := Lib.hid (below_step B9.out hb10)
            have X10 := Lib.hid (Kd.C_below X9.out hb10)
            have Y10 := Lib.hid (Kd.R_reads' hoy).2.2
            have PY := Lib.hid hpy
            have SY := Lib.hid hsy
            clear hpy hsy hoy hb10 R9 S9 T9 B9 X9
            go_wp2_with fail
            refine (All_calls (n + 2 + 2 + 1) (n + 2 + 2) Lw _ T10.out (by have := HLEN.out; omega)).mono ?_
            rintro e w11 ⟨v11, Z, rfl, hpz, hsz, hoz, hb11⟩
            obtain ⟨az, cz, rfl⟩ := Kd.R_slice hoz
            obtain rfl : X = Z := all_eq R10.out.nodup T10.out.nodup HE1.out PX.out hpz SX.out hsz
            obtain rfl : Y = X := all_eq S10.out.nodup T10.out.nodup HE2.out PY.out hpz SY.out hsz
            have HLY : Hid (Y.length ≤ 80) := Lib.hid (by rw [hpz.length_eq]; exact HLEN.out.2.2)
            have R11 := Lib.hid (R10.out.below hb11)
            have S11 := Lib.hid (S10.out.below hb11)
            have T11 := Lib.hid (T10.out.below hb11)
            have B11 := Lib.hid (below_step B10.out hb11)
            have X11 := Lib.hid (Kd.C_below X10.out hb11)
            have Y11 := Lib.hid (Kd.C_below Y10.out hb11)
            have Z11 := Lib.hid (Kd.R_reads' hoz).2.2
            clear hpz hsz hoz hb11 R10 S10 T10 B10 X10 Y10
            go_wp2_with fail
            go_loopg [14, 88] Y.length (fun k v14 v88 wr3 => ∃ (i : Nat), v88 = .int .i64 (i : Int) ∧ Hid (i ≤ Y.length) ∧ Hid (Y.length ≤ i + k) ∧ Hid (RegAt wr3 (n + 1) n L1) ∧ Hid (RegAt wr3 (n + 2 + 1) (n + 2) L2) ∧ Hid (RegAt wr3 (n + 2 + 2 + 1) (n + 2 + 2) Lw) ∧
              Hid (Kd.C k33 wr3 ax Y.length Y ∧ Kd.C k33 wr3 ay Y.length Y ∧ Kd.C k33 wr3 az Y.length Y) ∧ Hid (Below w.heap.size w wr3))
            case atStart => exact ⟨0, rfl, Lib.hid (Nat.zero_le _), Lib.hid (by omega), R11, S11, T11, Lib.hid ⟨X11.out, Y11.out, Z11.out⟩, B11⟩
            case round =>
              clear R11 S11 T11 X11 Y11 Z11 B11
              obtain ⟨i2, rfl, HI2, HK2, R12, S12, T12, C12, B12⟩ := hrel
              by_cases hi2 : (i2 : Int) < (Y.length : Int)
              ·
                have hil2 : i2 < Y.length := by omega
                have p2 : 0 ≤ (i2 : Int) := by omega
                obtain ⟨adx, ex, x0, x1, x2, x3, x4, x5⟩ := at_T33 C12.out.1 (i2 : Int) p2 hi2
                subst ex
                obtain ⟨ady, ey, y0, y1, y2, y3, y4, y5⟩ := at_T33 C12.out.2.1 (i2 : Int) p2 hi2
                subst ey
                obtain ⟨adz, ez, z0, z1, z2, z3, z4, z5⟩ := at_T33 C12.out.2.2 (i2 : Int) p2 hi2
                subst ez
                simp only [Int.toNat_natCast] at x0 x1 x2 x3 x4 x5 y0 y1 y2 y3 y4 y5 z0 z1 z2 z3 z4 z5
                generalize rd_T33 Y (i2 : Int) = c at x0 x1 x2 x3 x4 x5 y0 y1 y2 y3 y4 y5 z0 z1 z2 z3 z4 z5
                have HIL2 := Lib.hid hil2
                clear hil2
                replace p2 := eq_true p2
                replace hi2 := eq_true hi2
                have hw2 : IntKind.i64.wrap ((i2 : Int) + 1) = (i2 : Int) + 1 := by
                  rw [IntKind.wrap_i64]
                  have := HI2.out
                  have := HLY.out
                  omega
                have hall : RegAt wr.drew (n + 1) n L1 ∧ RegAt wr.drew (n + 2 + 1) (n + 2) L2 ∧ RegAt wr.drew (n + 2 + 2 + 1) (n + 2 + 2) Lw ∧ (Kd.C k33 wr.drew (some adx) Y.length Y ∧ Kd.C k33 wr.drew (some ady) Y.length Y ∧ Kd.C k33 wr.drew (some adz) Y.length Y) ∧ Below w.heap.size w wr.drew := ⟨R12.out.below (below_drew (Below.refl _ _)), S12.out.below (below_drew (Below.refl _ _)), T12.out.below (below_drew (Below.refl _ _)), ⟨Kd.C_below C12.out.1 (below_drew (Below.refl _ _)), Kd.C_below C12.out.2.1 (below_drew (Below.refl _ _)), Kd.C_below C12.out.2.2 (below_drew (Below.refl _ _))⟩, below_drew B12.out⟩
                go_wp2_with fail
                refine start_ (n := 20) (S := fun w' => (w'.cell? (adx.add (i2 * 6)) = some (.string c.f0)) ∧ (w'.cell? ⟨(adx.add (i2 * 6)).block, (adx.add (i2 * 6)).off + 1, none⟩ = some (.int .i64 c.f1.f0)) ∧ (w'.cell? ⟨(adx.add (i2 * 6)).block, (adx.add (i2 * 6)).off + 2, none⟩ = some (.int .i64 c.f1.f1)) ∧ (w'.cell? ⟨(adx.add (i2 * 6)).block, (adx.add (i2 * 6)).off + 3, none⟩ = some (.int .i64 c.f2.f0)) ∧ (w'.cell? ⟨(adx.add (i2 * 6)).block, (adx.add (i2 * 6)).off + 4, none⟩ = some (.int .i64 c.f2.f1)) ∧ (w'.cell? ⟨(adx.add (i2 * 6)).block, (adx.add (i2 * 6)).off + 5, none⟩ = some (.string c.f2.f2)) ∧ (w'.cell? (ady.add (i2 * 6)) = some (.string c.f0)) ∧ (w'.cell? ⟨(ady.add (i2 * 6)).block, (ady.add (i2 * 6)).off + 1, none⟩ = some (.int .i64 c.f1.f0)) ∧ (w'.cell? ⟨(ady.add (i2 * 6)).block, (ady.add (i2 * 6)).off + 2, none⟩ = some (.int .i64 c.f1.f1)) ∧ (w'.cell? ⟨(ady.add (i2 * 6)).block, (ady.add (i2 * 6)).off + 3, none⟩ = some (.int .i64 c.f2.f0)) ∧ (w'.cell? ⟨(ady.add (i2 * 6)).block, (ady.add (i2 * 6)).off + 4, none⟩ = some (.int .i64 c.f2.f1)) ∧ (w'.cell? ⟨(ady.add (i2 * 6)).block, (ady.add (i2 * 6)).off + 5, none⟩ = some (.string c.f2.f2)) ∧ (w'.cell? (adz.add (i2 * 6)) = some (.string c.f0)) ∧ (w'.cell? ⟨(adz.add (i2 * 6)).block, (adz.add (i2 * 6)).off + 1, none⟩ = some (.int .i64 c.f1.f0)) ∧ (w'.cell? ⟨(adz.add (i2 * 6)).block, (adz.add (i2 * 6)).off + 2, none⟩ = some (.int .i64 c.f1.f1)) ∧ (w'.cell? ⟨(adz.add (i2 * 6)).block, (adz.add (i2 * 6)).off + 3, none⟩ = some (.int .i64 c.f2.f0)) ∧ (w'.cell? ⟨(adz.add (i2 * 6)).block, (adz.add (i2 * 6)).off + 4, none⟩ = some (.int .i64 c.f2.f1)) ∧ (w'.cell? ⟨(adz.add (i2 * 6)).block, (adz.add (i2 * 6)).off + 5, none⟩ = some (.string c.f2.f2)) ∧ (RegAt w' (n + 1) n L1) ∧ (RegAt w' (n + 2 + 1) (n + 2) L2) ∧ (RegAt w' (n + 2 + 2 + 1) (n + 2 + 2) Lw) ∧ (Kd.C k33 w' (some adx) Y.length Y ∧ Kd.C k33 w' (some ady) Y.length Y ∧ Kd.C k33 w' (some adz) Y.length Y) ∧ (Below w.heap.size w w')) (ds := []) #[false, false, false, false, false, false, false, false, false, false, false, false, false, false, false, false, false, false, false, false] (by kernel_rfl) rfl rfl ⟨x0, x1, x2, x3, x4, x5, y0, y1, y2, y3, y4, y5, z0, z1, z2, z3, z4, z5, hall⟩ (fun hHeld => ?_); refine with_tabW or25.tab or25.bits (fun HT_ HW_ => ?_)
                generalize wr.drew = w13 at hHeld ⊢
                clear x0 x1 x2 x3 x4 x5 y0 y1 y2 y3 y4 y5 z0 z1 z2 z3 z4 z5 R12 S12 T12 C12 B12 hall
                refine pure_ (i := 0) (N := some 91) (v := ?_) (a' := ?_) #[true, false, false, false, false, false, false, false, false, false, false, false, false, false, false, false, false, false, false, false] rfl rfl (any_of HT_.out (by kernel_rfl)) (fun _ _ _ h => h) (Or.inl ⟨by rfl, ?_⟩) ?_ ?_
                rotate_left
                · intro w'
                  go_simp
                  with_reducible rfl
                rotate_left
                · simp only [Act.put, List.setIfInBounds_toArray, List.set_cons_zero, List.set_cons_succ, i64_w, i32_w]
                  rfl
                refine pure_ (i := 1) (N := some 92) (v := ?_) (a' := ?_) #[true, true, false, false, false, false, false, false, false, false, false, false, false, false, false, false, false, false, false, false] rfl rfl (any_of HT_.out (by kernel_rfl)) (fun _ _ _ h => h) (Or.inl ⟨by rfl, ?_⟩) ?_ ?_
                rotate_left
                · intro w'
                  go_simp
                  with_reducible rfl
                rotate_left
                · simp only [Act.put, List.setIfInBounds_toArray, List.set_cons_zero, List.set_cons_succ, i64_w, i32_w]
                  rfl
                refine pure_ (i := 2) (N := some 93) (v := ?_) (a' := ?_) #[true, true, true, false, false, false, false, false, false, false, false, false, false, false, false, false, false, false, false, false] rfl rfl (any_of HT_.out (by kernel_rfl)) (fun _ _ _ h => h) (Or.inl ⟨by rfl, ?_⟩) ?_ ?_
                rotate_left
                · intro w'
                  go_simp
                  with_reducible rfl
                rotate_left
                · simp only [Act.put, List.setIfInBounds_toArray, List.set_cons_zero, List.set_cons_succ, i64_w, i32_w]
                  rfl
                refine pure_ (i := 4) (N := some 95) (v := ?_) (a' := ?_) #[true, true, true, false, true, false, false, false, false, false, false, false, false, false, false, false, false, false, false, false] rfl rfl (any_of HT_.out (by kernel_rfl)) (fun _ _ _ h => h) (Or.inl ⟨by rfl, ?_⟩) ?_ ?_
                rotate_left
                · intro w'
                  go_simp
                  with_reducible rfl
                rotate_left
                · simp only [Act.put, List.setIfInBounds_toArray, List.set_cons_zero, List.set_cons_succ, i64_w, i32_w]
                  rfl
                refine pure_ (i := 5) (N := some 96) (v := ?_) (a' := ?_) #[true, true, true, false, true, true, false, false, false, false, false, false, false, false, false, false, false, false, false, false] rfl rfl (any_of HT_.out (by kernel_rfl)) (fun _ _ _ h => h) (Or.inl ⟨by rfl, ?_⟩) ?_ ?_
                rotate_left
                · intro w'
                  go_simp
                  with_reducible rfl
                rotate_left
                · simp only [Act.put, List.setIfInBounds_toArray, List.set_cons_zero, List.set_cons_succ, i64_w, i32_w]
                  rfl
                refine pure_ (i := 6) (N := some 97) (v := ?_) (a' := ?_) #[true, true, true, false, true, true, true, false, false, false, false, false, false, false, false, false, false, false, false, false] rfl rfl (any_of HT_.out (by kernel_rfl)) (fun _ _ _ h => h) (Or.inl ⟨by rfl, ?_⟩) ?_ ?_
                rotate_left
                · intro w'
                  go_simp
                  with_reducible rfl
                rotate_left
                · simp only [Act.put, List.setIfInBounds_toArray, List.set_cons_zero, List.set_cons_succ, i64_w, i32_w]
                  rfl
                refine take_ (i := 3) (N := some 94) (v := ?_) (a' := ?_) #[true, true, true, true, true, true, true, false, false, false, false, false, false, false, false, false, false, false, false, false] rfl rfl (take_ofW HT_.out HW_.out (by kernel_rfl)) (fun _ _ _ h => h) (Or.inl ⟨by rfl, ?_⟩) hHeld ?_ ?_
                rotate_left
                · rintro w' ⟨s0, s1, s2, s3, s4, s5, s6, s7, s8, s9, s10, s11, s12, s13, s14, s15, s16, s17, s18, s19, s20, s21, s22⟩
                  go_simp
                  with_reducible rfl
                rotate_left
                · simp only [Act.put, List.setIfInBounds_toArray, List.set_cons_zero, List.set_cons_succ, i64_w, i32_w]
                  rfl
                refine take_ (i := 7) (N := some 98) (v := ?_) (a' := ?_) #[true, true, true, true, true, true, true, true, false, false, false, false, false, false, false, false, false, false, false, false] rfl rfl (take_ofW HT_.out HW_.out (by kernel_rfl)) (fun _ _ _ h => h) (Or.inl ⟨by rfl, ?_⟩) hHeld ?_ ?_
                rotate_left
                · rintro w' ⟨s0, s1, s2, s3, s4, s5, s6, s7, s8, s9, s10, s11, s12, s13, s14, s15, s16, s17, s18, s19, s20, s21, s22⟩
                  go_simp
                  with_reducible rfl
                rotate_left
                · simp only [Act.put, List.setIfInBounds_toArray, List.set_cons_zero, List.set_cons_succ, i64_w, i32_w]
                  rfl
                refine pure_ (i := 8) (N := some 99) (v := ?_) (a' := ?_) #[true, true, true, true, true, true, true, true, true, false, false, false, false, false, false, false, false, false, false, false] rfl rfl (any_of HT_.out (by kernel_rfl)) (fun _ _ _ h => h) (Or.inl ⟨by rfl, ?_⟩) ?_ ?_
                rotate_left
                · intro w'
                  go_simp
                  with_reducible rfl
                rotate_left
                · simp only [Act.put, List.setIfInBounds_toArray, List.set_cons_zero, List.set_cons_succ, i64_w, i32_w]
                  rfl
                refine pure_ (i := 9) (N := some 100) (v := ?_) (a' := ?_) #[true, true, true, true, true, true, true, true, true, true, false, false, false, false, false, false, false, false, false, false] rfl rfl (any_of HT_.out (by kernel_rfl)) (fun _ _ _ h => h) (Or.inl ⟨by rfl, ?_⟩) ?_ ?_
                rotate_left
                · intro w'
                  go_simp
                  with_reducible rfl
                rotate_left
                · simp only [Act.put, List.setIfInBounds_toArray, List.set_cons_zero, List.set_cons_succ, i64_w, i32_w]
                  rfl
                refine pure_ (i := 10) (N := some 101) (v := ?_) (a' := ?_) #[true, true, true, true, true, true, true, true, true, true, true, false, false, false, false, false, false, false, false, false] rfl rfl (any_of HT_.out (by kernel_rfl)) (fun _ _ _ h => h) (Or.inl ⟨by rfl, ?_⟩) ?_ ?_
                rotate_left
                · intro w'
                  go_simp
                  with_reducible rfl
                rotate_left
                · simp only [Act.put, List.setIfInBounds_toArray, List.set_cons_zero, List.set_cons_succ, i64_w, i32_w]
                  rfl
                refine pure_ (i := 11) (N := some 102) (v := ?_) (a' := ?_) #[true, true, true, true, true, true, true, true, true, true, true, true, false, false, false, false, false, false, false, false] rfl rfl (any_of HT_.out (by kernel_rfl)) (fun _ _ _ h => h) (Or.inl ⟨by rfl, ?_⟩) ?_ ?_
                rotate_left
                · intro w'
                  go_simp
                  with_reducible rfl
                rotate_left
                · simp only [Act.put, List.setIfInBounds_toArray, List.set_cons_zero, List.set_cons_succ, i64_w, i32_w]
                  rfl
                refine pure_ (i := 12) (N := some 103) (v := ?_) (a' := ?_) #[true, true, true, true, true, true, true, true, true, true, true, true, true, false, false, false, false, false, false, false] rfl rfl (any_of HT_.out (by kernel_rfl)) (fun _ _ _ h => h) (Or.inl ⟨by rfl, ?_⟩) ?_ ?_
                rotate_left
                · intro w'
                  go_simp
                  with_reducible rfl
                rotate_left
                · simp only [Act.put, List.setIfInBounds_toArray, List.set_cons_zero, List.set_cons_succ, i64_w, i32_w]
                  rfl
                refine pure_ (i := 14) (N := some 105) (v := ?_) (a' := ?_) #[true, true, true, true, true, true, true, true, true, true, true, true, true, false, true, false, false, false, false, false] rfl rfl (any_of HT_.out (by kernel_rfl)) (fun _ _ _ h => h) (Or.inl ⟨by rfl, ?_⟩) ?_ ?_
                rotate_left
                · intro w'
                  go_simp
                  with_reducible rfl
                rotate_left
                · simp only [Act.put, List.setIfInBounds_toArray, List.set_cons_zero, List.set_cons_succ, i64_w, i32_w]
                  rfl
                refine pure_ (i := 15) (N := some 106) (v := ?_) (a' := ?_) #[true, true, true, true, true, true, true, true, true, true, true, true, true, false, true, true, false, false, false, false] rfl rfl (any_of HT_.out (by kernel_rfl)) (fun _ _ _ h => h) (Or.inl ⟨by rfl, ?_⟩) ?_ ?_
                rotate_left
                · intro w'
                  go_simp
                  with_reducible rfl
                rotate_left
                · simp only [Act.put, List.setIfInBounds_toArray, List.set_cons_zero, List.set_cons_succ, i64_w, i32_w]
                  rfl
                refine pure_ (i := 16) (N := some 107) (v := ?_) (a' := ?_) #[true, true, true, true, true, true, true, true, true, true, true, true, true, false, true, true, true, false, false, false] rfl rfl (any_of HT_.out (by kernel_rfl)) (fun _ _ _ h => h) (Or.inl ⟨by rfl, ?_⟩) ?_ ?_
                rotate_left
                · intro w'
                  go_simp
                  with_reducible rfl
                rotate_left
                · simp only [Act.put, List.setIfInBounds_toArray, List.set_cons_zero, List.set_cons_succ, i64_w, i32_w]
                  rfl
                refine take_ (i := 13) (N := some 104) (v := ?_) (a' := ?_) #[true, true, true, true, true, true, true, true, true, true, true, true, true, true, true, true, true, false, false, false] rfl rfl (take_ofW HT_.out HW_.out (by kernel_rfl)) (fun _ _ _ h => h) (Or.inl ⟨by rfl, ?_⟩) hHeld ?_ ?_
                rotate_left
                · rintro w' ⟨s0, s1, s2, s3, s4, s5, s6, s7, s8, s9, s10, s11, s12, s13, s14, s15, s16, s17, s18, s19, s20, s21, s22⟩
                  go_simp
                  with_reducible rfl
                rotate_left
                · simp only [Act.put, List.setIfInBounds_toArray, List.set_cons_zero, List.set_cons_succ, i64_w, i32_w]
                  rfl
                refine take_ (i := 17) (N := some 108) (v := ?_) (a' := ?_) #[true, true, true, true, true, true, true, true, true, true, true, true, true, true, true, true, true, true, false, false] rfl rfl (take_ofW HT_.out HW_.out (by kernel_rfl)) (fun _ _ _ h => h) (Or.inl ⟨by rfl, ?_⟩) hHeld ?_ ?_
                rotate_left
                · rintro w' ⟨s0, s1, s2, s3, s4, s5, s6, s7, s8, s9, s10, s11, s12, s13, s14, s15, s16, s17, s18, s19, s20, s21, s22⟩
                  go_simp
                  with_reducible rfl
                rotate_left
                · simp only [Act.put, List.setIfInBounds_toArray, List.set_cons_zero, List.set_cons_succ, i64_w, i32_w]
                  rfl
                refine pure_ (i := 18) (N := some 109) (v := ?_) (a' := ?_) #[true, true, true, true, true, true, true, true, true, true, true, true, true, true, true, true, true, true, true, false] rfl rfl (any_of HT_.out (by kernel_rfl)) (fun _ _ _ h => h) (Or.inl ⟨by rfl, ?_⟩) ?_ ?_
                rotate_left
                · intro w'
                  go_simp
                  with_reducible rfl
                rotate_left
                · simp only [Act.put, List.setIfInBounds_toArray, List.set_cons_zero, List.set_cons_succ, i64_w, i32_w]
                  rfl
                refine pure_ (i := 19) (N := some 110) (v := ?_) (a' := ?_) #[true, true, true, true, true, true, true, true, true, true, true, true, true, true, true, true, true, true, true, true] rfl rfl (any_of HT_.out (by kernel_rfl)) (fun _ _ _ h => h) (Or.inl ⟨by rfl, ?_⟩) ?_ ?_
                rotate_left
                · intro w'
                  go_simp
                  with_reducible rfl
                rotate_left
                · simp only [Act.put, List.setIfInBounds_toArray, List.set_cons_zero, List.set_cons_succ, i64_w, i32_w]
                  rfl
                refine done_ (done_of HT_.out (by kernel_rfl)) ?_
                have R13 := Lib.hid hHeld.2.2.2.2.2.2.2.2.2.2.2.2.2.2.2.2.2.2.1
                have S13 := Lib.hid hHeld.2.2.2.2.2.2.2.2.2.2.2.2.2.2.2.2.2.2.2.1
                have T13 := Lib.hid hHeld.2.2.2.2.2.2.2.2.2.2.2.2.2.2.2.2.2.2.2.2.1
                have C13 := Lib.hid hHeld.2.2.2.2.2.2.2.2.2.2.2.2.2.2.2.2.2.2.2.2.2.1
                have B13 := Lib.hid hHeld.2.2.2.2.2.2.2.2.2.2.2.2.2.2.2.2.2.2.2.2.2.2
                clear hHeld
                go_wp2
                go_roundg (Y.length - (i2 + 1))
                case measure => have := HK2.out; have := HIL2.out; omega
                case rel => exact ⟨i2 + 1, by simp, Lib.hid HIL2.out, Lib.hid (by omega), R13, S13, T13, C13, B13⟩
              · go_wp2_with fail
                refine (Join_calls (n + 1) n (n + 2 + 1) (n + 2) L1 L2 _ R12.out S12.out (by have := HM1.out; omega) (by have := HM2.out; omega) (fun c hc => HOK.out c (HM2.out.1 c hc))).mono ?_
                rintro e w14 ⟨O3, L3, rfl, hp, hr, hg, hk, hmm, hl⟩
                have hz : ∀ x ∈ O3, counts (getL L1 x.f0) x = false := fun x hx => by
                  have h := (mem_getL S12.out.nodup x).1 (hp.mem_iff.1 hx)
                  rw [HE1.out, ← HE2.out, h]
                  exact counts_self x
                have hz0 : cntS (getL L1) O3 = 0 := cntS_zero O3 _ hz
                rw [hz0]
                have HE3 : Hid (getL L3 = getL Lw) := Lib.hid (by rw [hg, putsS_same O3 _ hz]; exact HE1.out)
                have HM3 : Hid ((∀ x ∈ L3, x ∈ l) ∧ L3.length ≤ 400) := Lib.hid ⟨fun x hx => by rcases hmm x hx with h | ⟨h, _⟩; exact HM1.out.1 x h; exact HM2.out.1 x h, by have := HM1.out; have := HM2.out; omega⟩
                have R14 := Lib.hid hr
                have T14 := Lib.hid (hk.reg T12.out (by omega) (by omega))
                have B14 := Lib.hid (hk.below B12.out HG.out B12.out.size)
                clear hp hr hg hk hmm hl hz hz0 R12 S12 T12 C12 B12
                go_wp2_with fail
                refine (Join_calls (n + 2 + 2 + 1) (n + 2 + 2) (n + 1) n Lw L3 _ T14.out R14.out (by have := HLEN.out; omega) (by have := HM3.out; omega) (fun c hc => HOK.out c (HM3.out.1 c hc))).mono ?_
                rintro e w15 ⟨O4, L4, rfl, hp, hr, hg, hk, hmm, hl⟩
                have hz : ∀ x ∈ O4, counts (getL Lw x.f0) x = false := fun x hx => by
                  have h := (mem_getL R14.out.nodup x).1 (hp.mem_iff.1 hx)
                  rw [← HE3.out, h]
                  exact counts_self x
                have hz0 : cntS (getL Lw) O4 = 0 := cntS_zero O4 _ hz
                rw [hz0]
                have B15 := Lib.hid (hk.below B14.out (by have := HG.out; omega) B14.out.size)
                clear hp hr hg hk hmm hl hz hz0 R14 T14 B14
                go_wp2
                go_ret
                exact ⟨rfl, B15.out⟩
      | succ m =>
        have hj : (((m + 1 : Nat) : Int) - 1) = (m : Int) := by omega
        rw [hj]
        clear hj
        have hil : m < l.length := by have := HJ.out; omega
        have hi : (m : Int) < (l.length : Int) := by omega
        have p1 : 0 ≤ (m : Int) := by omega
        obtain ⟨ad, e1, hx0, hx1, hx2, hx3, hx4, hx5⟩ := at_T33 (Kd.C_below HC.out HB.out) (m : Int) p1 hi
        subst e1
        have hrd : rd_T33 l (m : Int) = l[m] := by simp [rd_T33, hil]
        rw [hrd] at hx0 hx1 hx2 hx3 hx4 hx5
        simp only [Int.toNat_natCast] at hx0 hx1 hx2 hx3 hx4 hx5
        have HCK := Lib.hid (fewB_ok HF.out HIN.out (List.getElem_mem hil))
        have HCL := Lib.hid (List.getElem_mem hil)
        have HDR := Lib.hid (List.drop_eq_getElem_cons hil)
        generalize l[m] = c at hx0 hx1 hx2 hx3 hx4 hx5 HCK HCL HDR hrd
        clear hrd hil
        replace p1 := eq_true p1
        replace hi := eq_true hi
        have hw1 : IntKind.i64.wrap ((m : Int) - 1) = (m : Int) - 1 := by
          rw [IntKind.wrap_i64]
          have := HJ.out
          have := HL8.out
          omega
        by_cases hb : (m : Int) < (bs.length : Int)
        · obtain ⟨ad1, e2, hbc⟩ := Kd.at_bool (Kd.C_below HD.out HB.out) (m : Int) (by omega) hb
          subst e2
          simp only [Int.toNat_natCast] at hbc
          replace hb := eq_true hb
          generalize rdOf false bs (m : Int) = bv at hbc
          cases bv with
          | true =>
            go_wp2_with fail
            refine (Put_calls (n + 1) (n) La c _ HRA.out HCK.out).mono ?_
            rintro e w6 ⟨rfl, L', hr, hk, hg, hmm, hl1, hl2⟩
            have hst : getL L' = putS (getL La) c := funext fun s => hg s
            have B6 := Lib.hid (hk.below HB.out (by have := HG.out; omega) HB.out.size)
            have R6 := Lib.hid hr
            have S6 := Lib.hid (hk.reg HRB.out (by omega) (by omega))
            have T6 := Lib.hid (hk.reg HRC.out (by omega) (by omega))
            have HBE := HBest.out
            have HN := Lib.hid (best_putA HBE HDR.out hst)
            have HM2 : Hid ((∀ x ∈ L', x ∈ l) ∧ (∀ x ∈ Lb, x ∈ l) ∧ L'.length + m ≤ l.length ∧ Lb.length + m ≤ l.length) := Lib.hid ⟨put_mem hmm HMM.out.1 HCL.out, HMM.out.2.1, by have := HMM.out; omega, by have := HMM.out; omega⟩
            clear hr hk hg hmm hl1 hl2 hst HBE
            generalize counts (getL La c.f0) c = ct
            generalize errC c = en
            go_wp2
            go_roundg m
            case measure => have := HK.out; omega
            case rel => exact ⟨m, L', Lb, fun x => Pa x ∨ x = c, Pb, rfl, Lib.hid (by have := HJ.out; omega), Lib.hid (Nat.le_refl _), R6, S6, T6, HN, HM2, B6⟩
          | false =>
            go_wp2_with fail
            refine (Put_calls (n + 2 + 1) (n + 2) Lb c _ HRB.out HCK.out).mono ?_
            rintro e w6 ⟨rfl, L', hr, hk, hg, hmm, hl1, hl2⟩
            have hst : getL L' = putS (getL Lb) c := funext fun s => hg s
            have B6 := Lib.hid (hk.below HB.out (by have := HG.out; omega) HB.out.size)
            have R6 := Lib.hid (hk.reg HRA.out (by omega) (by omega))
            have S6 := Lib.hid hr
            have T6 := Lib.hid (hk.reg HRC.out (by omega) (by omega))
            have HBE := HBest.out
            have HN := Lib.hid (best_putB HBE HDR.out hst)
            have HM2 : Hid ((∀ x ∈ La, x ∈ l) ∧ (∀ x ∈ L', x ∈ l) ∧ La.length + m ≤ l.length ∧ L'.length + m ≤ l.length) := Lib.hid ⟨HMM.out.1, put_mem hmm HMM.out.2.1 HCL.out, by have := HMM.out; omega, by have := HMM.out; omega⟩
            clear hr hk hg hmm hl1 hl2 hst HBE
            generalize counts (getL Lb c.f0) c = ct
            generalize errC c = en
            go_wp2
            go_roundg m
            case measure => have := HK.out; omega
            case rel => exact ⟨m, La, L', Pa, fun x => Pb x ∨ x = c, rfl, Lib.hid (by have := HJ.out; omega), Lib.hid (Nat.le_refl _), R6, S6, T6, HN, HM2, B6⟩
        · replace hb := eq_false hb
          go_wp2_with fail
          refine (Put_calls (n + 2 + 1) (n + 2) Lb c _ HRB.out HCK.out).mono ?_
          rintro e w6 ⟨rfl, L', hr, hk, hg, hmm, hl1, hl2⟩
          have hst : getL L' = putS (getL Lb) c := funext fun s => hg s
          have B6 := Lib.hid (hk.below HB.out (by have := HG.out; omega) HB.out.size)
          have R6 := Lib.hid (hk.reg HRA.out (by omega) (by omega))
          have S6 := Lib.hid hr
          have T6 := Lib.hid (hk.reg HRC.out (by omega) (by omega))
          have HBE := HBest.out
          have HN := Lib.hid (best_putB HBE HDR.out hst)
          have HM2 : Hid ((∀ x ∈ La, x ∈ l) ∧ (∀ x ∈ L', x ∈ l) ∧ La.length + m ≤ l.length ∧ L'.length + m ≤ l.length) := Lib.hid ⟨HMM.out.1, put_mem hmm HMM.out.2.1 HCL.out, by have := HMM.out; omega, by have := HMM.out; omega⟩
          clear hr hk hg hmm hl1 hl2 hst HBE
          generalize counts (getL Lb c.f0) c = ct
          generalize errC c = en
          go_wp2
          go_roundg m
          case measure => have := HK.out; omega
          case rel => exact ⟨m, La, L', Pa, fun x => Pb x ∨ x = c, rfl, Lib.hid (by have := HJ.out; omega), Lib.hid (Nat.le_refl _), R6, S6, T6, HN, HM2, B6⟩
end Go.Proofs.YtjacpmmlkgcjjaaDoor.Latest
