/- Join, walked. -/
import Derived.Test.YtjacpmmlkgcjjaaDoorPut
namespace Go.Proofs.YtjacpmmlkgcjjaaDoor.Latest
open Go.RowKit Go.ChangeMaps Go.Shelf Go.Sort Go.Proofs.YtjacpmmlkgcjjaaDoorW.PrintWords Go.Proofs.YtjacpmmlkgcjjaaDoorW.PrintLast Go.Proofs.YtjacpmmlkgcjjaaDoor.Given Go.Proofs.YtjacpmmlkgcjjaaDoor.PA Go.Proofs.YtjacpmmlkgcjjaaDoor.Val
open Go.Maps (Keyed string_keyed)
open Go.WideMaps
set_option linter.unusedVariables false
set_option linter.unusedSimpArgs false
theorem KeptBut.below {w w1 w2 : World} {b B : Nat} (h : KeptBut w1 w2 b) (hb : Below B w w1) (h1 : B ≤ b) (h2 : B ≤ w1.heap.size) : Below B w w2 :=
  hb.trans ⟨h.os, h.tape, h.output, h.size, fun i hi => h.block i (Nat.lt_of_lt_of_le hi h2) (by omega)⟩
theorem KeptBut.blk {w1 w2 : World} {b g : Nat} {o : Obj} (h : KeptBut w1 w2 b) (hg : w1.heap[g]? = some o) (hne : g ≠ b) : w2.heap[g]? = some o :=
  (h.block g (Array.getElem?_eq_some_iff.1 hg).1 hne).trans hg
theorem KeptBut.trans {w1 w2 w3 : World} {b : Nat} (h : KeptBut w1 w2 b) (k : KeptBut w2 w3 b) : KeptBut w1 w3 b :=
  ⟨k.os.trans h.os, k.tape.trans h.tape, k.output.trans h.output, Nat.le_trans h.size k.size, fun i hi hne => (k.block i (Nat.lt_of_lt_of_le hi h.size) hne).trans (h.block i hi hne)⟩
theorem KeptBut.reg {w1 w2 : World} {b g2 b2 : Nat} {M : List S33} (h : KeptBut w1 w2 b) (hr : RegAt w1 g2 b2 M) (h1 : g2 ≠ b) (h2 : b2 ≠ b) : RegAt w2 g2 b2 M :=
  ⟨h.blk hr.reg h1, hr.map.same (h.block b2 hr.map.lt h2)⟩
theorem blk_lt {w : World} {g : Nat} {o : Obj} (h : w.heap[g]? = some o) : g < w.heap.size := (Array.getElem?_eq_some_iff.1 h).1
theorem RegAt.alloc {w : World} {g b : Nat} {L : List S33} (h : RegAt w g b L) (o : Obj) : RegAt (w.alloc o) g b L := h.below (below_alloc (Below.refl _ _) o)
theorem RegAt.lt {w : World} {g b : Nat} {L : List S33} (h : RegAt w g b L) : g < w.heap.size ∧ b < w.heap.size := ⟨blk_lt h.reg, h.map.lt⟩
abbrev St := ByteArray → Option S33
def putS (st : St) (c : S33) : St := fun s => if counts (st c.f0) c = true ∧ s = c.f0 then some c else st s
set_option maxHeartbeats 4000000 in
set_option maxRecDepth 100000 in
theorem JoinN_calls (g2 b2 : Nat) (M : List S33) (w : World) (hm : RegAt w g2 b2 M) (hM : M.length < 500000) :
    Calls Tryd.prog 15 #[.pointer none, .pointer (some ⟨g2, 0, none⟩)] w fun e w' => e = .returned (.int .i64 0) ∧ Below w.heap.size w w' := by
  have HML := Lib.hid hM
  have HM := Lib.hid hm
  clear hM hm
  go_enter Tryd.func15, Tryd.ntmps15
  go_wp2_with fail
  refine (All_calls g2 b2 M w HM.out (by have := HML.out; omega)).mono ?_
  rintro e w1 ⟨v, O, rfl, hp, hs, ho, hb⟩
  obtain ⟨A, cc, rfl⟩ := Kd.R_slice ho
  have HP := Lib.hid hp
  have HO := Lib.hid ho
  have HB := Lib.hid hb
  have HLO : Hid (O.length < 500000) := Lib.hid (by rw [hp.length_eq]; exact HML.out)
  clear hp hs ho hb
  go_wp2
  go_loopg [5, 13] O.length (fun k v5 v13 wr => ∃ (i : Nat), v13 = .int .i64 (i : Int) ∧ v5 = .int .i64 0 ∧ Hid (i ≤ O.length) ∧ Hid (O.length ≤ i + k) ∧
    Hid (Kd.R k33 33 wr w.heap.size (fun _ => True) (.slice A O.length cc) O) ∧ Hid (Below w.heap.size w wr))
  case atStart => exact ⟨0, rfl, rfl, Lib.hid (Nat.zero_le _), Lib.hid (by omega), HO, HB⟩
  case round =>
    obtain ⟨i, rfl, rfl, HI, HK, HO1, HB1⟩ := hrel
    by_cases hi : (i : Int) < (O.length : Int)
    · have hil : i < O.length := by omega
      have p1 : 0 ≤ (i : Int) := by omega
      obtain ⟨ad, e1, hx0, hx1, hx2, hx3, hx4, hx5⟩ := at_T33 (Kd.R_reads' HO1.out).2.2 (i : Int) p1 hi
      cases e1
      simp only [Int.toNat_natCast] at hx0 hx1 hx2 hx3 hx4 hx5
      generalize rd_T33 O (i : Int) = c at hx0 hx1 hx2 hx3 hx4 hx5
      have HIL := Lib.hid hil
      clear hil
      replace p1 := eq_true p1
      replace hi := eq_true hi
      have hw1 : IntKind.i64.wrap ((i : Int) + 1) = (i : Int) + 1 := by
        rw [IntKind.wrap_i64]
        have := HLO.out
        have := HI.out
        omega
      go_wp2_with fail
      refine (PutN_calls c _).mono ?_
      rintro e w2 ⟨rfl, hb⟩
      have HO2 := Lib.hid (Kd.R_below (Kd.R_alloc HO1.out (.cells #[.string c.f0, .int .i64 c.f1.f0, .int .i64 c.f1.f1, .int .i64 c.f2.f0, .int .i64 c.f2.f1, .string c.f2.f2] 33)) hb)
      have HB2 := Lib.hid (below_step (below_alloc HB1.out _) hb)
      clear hb HO1 HB1
      go_wp2
      go_roundg (O.length - (i + 1))
      case measure => have := HK.out; have := HIL.out; omega
      case rel => exact ⟨i + 1, by simp, rfl, Lib.hid HIL.out, Lib.hid (by omega), HO2, HB2⟩
    · go_wp2
      go_ret
      exact ⟨rfl, HB1.out⟩
end Go.Proofs.YtjacpmmlkgcjjaaDoor.Latest
