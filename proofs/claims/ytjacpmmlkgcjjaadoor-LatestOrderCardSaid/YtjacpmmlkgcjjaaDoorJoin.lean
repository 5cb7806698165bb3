/- Join, walked. -/
import Derived.Test.YtjacpmmlkgcjjaaDoorPut
namespace Go.Proofs.YtjacpmmlkgcjjaaDoor.Latest
open Go.RowKit Go.ChangeMaps Go.Shelf Go.Sort Go.Proofs.YtjacpmmlkgcjjaaDoorW.PrintWords Go.Proofs.YtjacpmmlkgcjjaaDoorW.PrintLast Go.Proofs.YtjacpmmlkgcjjaaDoor.Given Go.Proofs.YtjacpmmlkgcjjaaDoor.PA Go.Proofs.YtjacpmmlkgcjjaaDoor.Val
open Go.Maps (Keyed string_keyed)
open Go.WideMaps
set_option linter.unusedVariables false
set_option linter.unusedSimpArgs false

theorem KeptBut.below {w w1 w2 : World} {b B : Nat} (h : KeptBut w1 w2 b) (hb : Below B w w1) (h1 : B ≤ b) (h2 : B ≤ w1.heap.size) : Below B w w2 :=
  hb.trans ⟨h.os, h.tape, h.output, h.size, fun i hi => h.block i (Nat.lt_of_lt_of_le hi h2) (by omega)⟩
theorem KeptBut.blk {w1 w2 : World} {b g : Nat} {o : Obj} (h : KeptBut w1 w2 b) (hg : w1.heap[g]? = some o) (hne : g ≠ b) : w2.heap[g]? = some o :=
  (h.block g (Array.getElem?_eq_some_iff.1 hg).1 hne).trans hg
theorem KeptBut.trans {w1 w2 w3 : World} {b : Nat} (h : KeptBut w1 w2 b) (k : KeptBut w2 w3 b) : KeptBut w1 w3 b :=
  ⟨k.os.trans h.os, k.tape.trans h.tape, k.output.trans h.output, Nat.le_trans h.size k.size, fun i hi hne => (k.block i (Nat.lt_of_lt_of_le hi h.size) hne).trans (h.block i hi hne)⟩
theorem KeptBut.reg {w1 w2 : World} {b g2 b2 : Nat} {M : List S33} (h : KeptBut w1 w2 b) (hr : RegAt w1 g2 b2 M) (h1 : g2 ≠ b) (h2 : b2 ≠ b) : RegAt w2 g2 b2 M :=
  ⟨h.blk hr.reg h1, hr.map.same (h.block b2 hr.map.lt h2)⟩
theorem blk_lt {w : World} {g : Nat} {o : Obj} (h : w.heap[g]? = some o) : g < w.heap.size := (Array.getElem?_eq_some_iff.1 h).1
theorem RegAt.alloc {w : World} {g b : Nat} {L : List S33} (h : RegAt w g b L) (o : Obj) : RegAt (w.alloc o) g b L := h.below (below_alloc (Below.refl _ _) o)
theorem RegAt.lt {w : World} {g b : Nat} {L : List S33} (h : RegAt w g b L) : g < w.heap.size ∧ b < w.heap.size := ⟨blk_lt h.reg, h.map.lt⟩

/-- A register as a function of the name. -/
abbrev St := ByteArray → Option S33
def putS (st : St) (c : S33) : St := fun s => if counts (st c.f0) c = true ∧ s = c.f0 then some c else st s
def putsS (st : St) (l : List S33) : St := l.foldl putS st
def cntS : St → List S33 → Nat
  | _, [] => 0
  | st, c :: l => (if counts (st c.f0) c = true then 1 else 0) + cntS (putS st c) l
theorem putsS_snoc (st : St) (l : List S33) (c : S33) : putsS st (l ++ [c]) = putS (putsS st l) c := by simp [putsS]
theorem cntS_snoc : ∀ (l : List S33) (st : St) (c : S33), cntS st (l ++ [c]) = cntS st l + (if counts (putsS st l c.f0) c = true then 1 else 0)
  | [], st, c => by
    show _ + 0 = 0 + _
    rw [Nat.add_zero, Nat.zero_add]
    rfl
  | x :: l, st, c => by
    have h := cntS_snoc l (putS st x) c
    show (if counts (st x.f0) x = true then 1 else 0) + cntS (putS st x) (l ++ [c]) = (if counts (st x.f0) x = true then 1 else 0) + cntS (putS st x) l + (if counts (putsS (putS st x) l c.f0) c = true then 1 else 0)
    rw [h, Nat.add_assoc]
theorem cntS_le : ∀ (l : List S33) (st : St), cntS st l ≤ l.length
  | [], st => Nat.le_refl _
  | x :: l, st => by
    rw [cntS, List.length_cons]
    have := cntS_le l (putS st x)
    split <;> omega
theorem take_snoc {α : Type} {l : List α} {i : Nat} (h : i < l.length) : l.take (i + 1) = l.take i ++ [l[i]] := by simp

set_option maxHeartbeats 4000000 in
set_option maxRecDepth 100000 in
theorem Join_calls (g b g2 b2 : Nat) (L M : List S33) (w : World) (hr : RegAt w g b L) (hm : RegAt w g2 b2 M) (hL : L.length < 500000) (hM : M.length < 500000) (hok : ∀ c ∈ M, Cok c) :
    Calls Tryd.prog 15 #[.pointer (some ⟨g, 0, none⟩), .pointer (some ⟨g2, 0, none⟩)] w fun e w' => ∃ O L', e = .returned (.int .i64 (cntS (getL L) O : Nat)) ∧ List.Perm O M ∧ RegAt w' g b L' ∧ getL L' = putsS (getL L) O ∧
      KeptBut w w' b ∧ (∀ x ∈ L', x ∈ L ∨ (x ∈ M ∧ rightC x = true)) ∧ L'.length ≤ L.length + M.length := by
  have hlt := hr.lt
  have HLT := Lib.hid hlt
  have HLL := Lib.hid hL
  have HML := Lib.hid hM
  have HOK := Lib.hid hok
  have HR := Lib.hid hr
  have HM := Lib.hid hm
  clear hlt hL hM hok hr hm
  go_enter Tryd.func15, Tryd.ntmps15
  go_wp2_with fail
  refine (All_calls g2 b2 M w HM.out (by have := HML.out; omega)).mono ?_
  rintro e w1 ⟨v, O, rfl, hp, hs, ho, hb⟩
  obtain ⟨A, cc, rfl⟩ := Kd.R_slice ho
  have HP := Lib.hid hp
  have HO := Lib.hid ho
  have HB := Lib.hid hb
  have HLO : Hid (O.length < 500000) := Lib.hid (by rw [hp.length_eq]; exact HML.out)
  clear hp hs ho hb
  go_wp2
  go_loopg [5, 13] O.length (fun k v5 v13 wr => ∃ (i : Nat) (L' : List S33), v13 = .int .i64 (i : Int) ∧ v5 = .int .i64 (cntS (getL L) (O.take i) : Nat) ∧ Hid (i ≤ O.length) ∧ Hid (O.length ≤ i + k) ∧ Hid (RegAt wr g b L') ∧ Hid (getL L' = putsS (getL L) (O.take i)) ∧
    Hid (Kd.R k33 33 wr w.heap.size (fun _ => True) (.slice A O.length cc) O) ∧ Hid (KeptBut w wr b) ∧ Hid (∀ x ∈ L', x ∈ L ∨ (x ∈ M ∧ rightC x = true)) ∧ Hid (L'.length ≤ L.length + i))
  case atStart => exact ⟨0, L, rfl, rfl, Lib.hid (Nat.zero_le _), Lib.hid (by omega), Lib.hid (HR.out.below HB.out), Lib.hid rfl, HO, Lib.hid (.of_below HB.out), Lib.hid (fun x hx => .inl hx), Lib.hid (Nat.le_refl _)⟩
  case round =>
    obtain ⟨i, L', rfl, rfl, HI, HK, HR1, HG, HO1, HKB, HMM, HLN⟩ := hrel
    by_cases hi : (i : Int) < (O.length : Int)
    · have hil : i < O.length := by omega
      have p1 : 0 ≤ (i : Int) := by omega
      obtain ⟨ad, e1, hx0, hx1, hx2, hx3, hx4, hx5⟩ := at_T33 (Kd.R_reads' HO1.out).2.2 (i : Int) p1 hi
      cases e1
      have hrd : rd_T33 O (i : Int) = O[i] := by simp [rd_T33, hil]
      rw [hrd] at hx0 hx1 hx2 hx3 hx4 hx5
      simp only [Int.toNat_natCast] at hx0 hx1 hx2 hx3 hx4 hx5
      have hcO : O[i] ∈ M := HP.out.mem_iff.1 (List.getElem_mem hil)
      have HCM := Lib.hid hcO
      have HIL := Lib.hid hil
      have hgl : getL L' = putsS (getL L) (O.take i) := HG.out
      have hput := fun (W : World) (h : RegAt W g b L') => Put_calls g b L' O[i] W h (HOK.out _ hcO)
      have hsn : putsS (getL L) (O.take (i + 1)) = putS (getL L') O[i] := by rw [take_snoc hil, putsS_snoc, hgl]; rfl
      have hcn : cntS (getL L) (O.take (i + 1)) = cntS (getL L) (O.take i) + (if counts (getL L' O[i].f0) O[i] = true then 1 else 0) := by rw [take_snoc hil, cntS_snoc, hgl]; rfl
      have hcl := cntS_le (O.take i) (getL L)
      have HPUT := Lib.hid hput
      have HSN := Lib.hid hsn
      have HCN := Lib.hid hcn
      have HCL := Lib.hid hcl
      generalize O[i] = c at hx0 hx1 hx2 hx3 hx4 hx5 HCM HPUT HSN HCN hrd hcO hput hsn hcn
      clear hrd hcO hil hgl hput hsn hcn hcl HG HOK
      replace p1 := eq_true p1
      replace hi := eq_true hi
      have hw1 : IntKind.i64.wrap ((i : Int) + 1) = (i : Int) + 1 := by
        rw [IntKind.wrap_i64]
        have := HLO.out
        have := HI.out
        omega
      have hw2 : IntKind.i64.wrap ((cntS (getL L) (O.take i) : Int) + 1) = (cntS (getL L) (O.take i) : Int) + 1 := by
        have := HCL.out
        have := HLO.out
        rw [IntKind.wrap_i64]
        simp only [List.length_take] at *
        omega
      go_wp2_with fail
      refine (HPUT.out _ (HR1.out.alloc _)).mono ?_
      rintro e w2 ⟨rfl, L2, hr, hk, hg, hmm, hl1, hl2⟩
      have hst : getL L2 = putS (getL L') c := funext fun s => hg s
      have hbw : b < w.heap.size := HLT.out.2
      have hkw : KeptBut w w2 b := HKB.out.trans (KeptBut.trans (.of_below (below_alloc (Below.refl _ _) _)) hk)
      have hRo : Kd.R k33 33 w2 w.heap.size (fun _ => True) (.slice (some ad) O.length cc) O := Kd.R_mono (Kd.R_step (Kd.R_bound (Kd.R_alloc HO1.out _)) (fun k hk1 hk2 => hk.block k hk2 (by omega))) (fun _ _ => trivial)
      have HR2 := Lib.hid hr
      have HG2 : Hid (getL L2 = putsS (getL L) (O.take (i + 1))) := Lib.hid (hst.trans HSN.out.symm)
      have HK2 := Lib.hid hkw
      have HO2 := Lib.hid hRo
      have HM2 : Hid (∀ x ∈ L2, x ∈ L ∨ (x ∈ M ∧ rightC x = true)) := Lib.hid (fun x hx => by
        rcases hmm x hx with h | ⟨rfl, h⟩
        · exact HMM.out x h
        · exact .inr ⟨HCM.out, h⟩)
      have HL2 : Hid (L2.length ≤ L.length + (i + 1)) := Lib.hid (by have := HLN.out; omega)
      clear hr hk hg hmm hl1 hl2 hst hkw hRo HMM HR1 HO1 HKB HLN HPUT HSN HCM
      have HCN2 := HCN.out
      clear HCN
      generalize errC c = en
      cases hct : counts (getL L' c.f0) c with
      | false =>
        rw [hct] at HCN2
        have HC := Lib.hid HCN2
        clear hct HCN2
        go_wp2
        go_roundg (O.length - (i + 1))
        case measure => have := HK.out; have := HIL.out; omega
        case rel =>
          refine ⟨i + 1, L2, by simp, ?_, Lib.hid HIL.out, Lib.hid (by omega), HR2, HG2, HO2, HK2, HM2, HL2⟩
          rw [HC.out]; rfl
      | true =>
        rw [hct] at HCN2
        have HC := Lib.hid HCN2
        clear hct HCN2
        go_wp2
        go_roundg (O.length - (i + 1))
        case measure => have := HK.out; have := HIL.out; omega
        case rel =>
          refine ⟨i + 1, L2, by simp, ?_, Lib.hid HIL.out, Lib.hid (by omega), HR2, HG2, HO2, HK2, HM2, HL2⟩
          rw [HC.out]; rfl
    · have hie : i = O.length := by have := HI.out; omega
      have HIE := Lib.hid hie
      clear hie
      go_wp2
      go_ret
      have hie := HIE.out
      subst hie
      have ht : O.take O.length = O := List.take_length
      rw [ht]
      refine ⟨O, rfl, HP.out, L', HR1.out, ?_, HKB.out, HMM.out, ?_⟩
      · rw [HG.out, ht]
      · have := HLN.out
        rw [HP.out.length_eq] at this
        exact this

set_option maxHeartbeats 4000000 in
set_option maxRecDepth 100000 in
/-- Joined into none, nothing counts. -/
theorem JoinN_calls (g2 b2 : Nat) (M : List S33) (w : World) (hm : RegAt w g2 b2 M) (hM : M.length < 500000) :
    Calls Tryd.prog 15 #[.pointer none, .pointer (some ⟨g2, 0, none⟩)] w fun e w' => e = .returned (.int .i64 0) ∧ Below w.heap.size w w' := by
  have HML := Lib.hid hM
  have HM := Lib.hid hm
  clear hM hm
  go_enter Tryd.func15, Tryd.ntmps15
  go_wp2_with fail
  refine (All_calls g2 b2 M w HM.out (by have := HML.out; omega)).mono ?_
  rintro e w1 ⟨v, O, rfl, hp, hs, ho, hb⟩
  obtain ⟨A, cc, rfl⟩ := Kd.R_slice ho
  have HP := Lib.hid hp
  have HO := Lib.hid ho
  have HB := Lib.hid hb
  have HLO : Hid (O.length < 500000) := Lib.hid (by rw [hp.length_eq]; exact HML.out)
  clear hp hs ho hb
  go_wp2
  go_loopg [5, 13] O.length (fun k v5 v13 wr => ∃ (i : Nat), v13 = .int .i64 (i : Int) ∧ v5 = .int .i64 0 ∧ Hid (i ≤ O.length) ∧ Hid (O.length ≤ i + k) ∧
    Hid (Kd.R k33 33 wr w.heap.size (fun _ => True) (.slice A O.length cc) O) ∧ Hid (Below w.heap.size w wr))
  case atStart => exact ⟨0, rfl, rfl, Lib.hid (Nat.zero_le _), Lib.hid (by omega), HO, HB⟩
  case round =>
    obtain ⟨i, rfl, rfl, HI, HK, HO1, HB1⟩ := hrel
    by_cases hi : (i : Int) < (O.length : Int)
    · have hil : i < O.length := by omega
      have p1 : 0 ≤ (i : Int) := by omega
      obtain ⟨ad, e1, hx0, hx1, hx2, hx3, hx4, hx5⟩ := at_T33 (Kd.R_reads' HO1.out).2.2 (i : Int) p1 hi
      cases e1
      simp only [Int.toNat_natCast] at hx0 hx1 hx2 hx3 hx4 hx5
      generalize rd_T33 O (i : Int) = c at hx0 hx1 hx2 hx3 hx4 hx5
      have HIL := Lib.hid hil
      clear hil
      replace p1 := eq_true p1
      replace hi := eq_true hi
      have hw1 : IntKind.i64.wrap ((i : Int) + 1) = (i : Int) + 1 := by
        rw [IntKind.wrap_i64]
        have := HLO.out
        have := HI.out
        omega
      go_wp2_with fail
      refine (PutN_calls c _).mono ?_
      rintro e w2 ⟨rfl, hb⟩
      have HO2 := Lib.hid (Kd.R_below (Kd.R_alloc HO1.out (.cells #[.string c.f0, .int .i64 c.f1.f0, .int .i64 c.f1.f1, .int .i64 c.f2.f0, .int .i64 c.f2.f1, .string c.f2.f2] 33)) hb)
      have HB2 := Lib.hid (below_step (below_alloc HB1.out _) hb)
      clear hb HO1 HB1
      go_wp2
      go_roundg (O.length - (i + 1))
      case measure => have := HK.out; have := HIL.out; omega
      case rel => exact ⟨i + 1, by simp, rfl, Lib.hid HIL.out, Lib.hid (by omega), HO2, HB2⟩
    · go_wp2
      go_ret
      exact ⟨rfl, HB1.out⟩
end Go.Proofs.YtjacpmmlkgcjjaaDoor.Latest
