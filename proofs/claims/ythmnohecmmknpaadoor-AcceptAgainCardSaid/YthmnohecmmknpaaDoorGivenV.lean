/- Contracts of functions that the print does not take: strings.Join; value.plain (a text may be a value's just if its bytes lie from 32 to 126 and are at most 64); strings.Split at a sign of one byte. -/
import Derived.Test.YthmnohecmmknpaaDoorProg
import Derived.Test.YthmnohecmmknpaaDoorShelf
import Derived.Test.YthmnohecmmknpaaDoorWMore
import Derived.WalkKit
import Derived.WalkLawsBesides
import Derived.Deep.RegionWith
import Derived.Lib.Hide
import Derived.Laws.RangeAny
import Derived.Laws.RangeString
import Derived.Lib.SplitLaws
import Derived.Lib.IndexBytes
import Derived.Shelf.Strings.SplitCore
import Derived.Shelf.Strings.OnBuilder
namespace Go.Proofs.YthmnohecmmknpaaDoor.Given
open Go.RowKit Go.Proofs.YthmnohecmmknpaaDoorW.PrintWords
def okByte (c : UInt8) : Bool := 32 ≤ c.toNat && c.toNat ≤ 126
def plainB (s : ByteArray) : Bool := s.data.toList.all okByte && decide ((s.size : Int) ≤ 64)
def value_plain.f (a0 : ByteArray) : Option Bool := some (plainB a0)
theorem size_list (s : ByteArray) : s.data.toList.length = s.size := by rw [Array.length_toList]; rfl
theorem plain_at (s : ByteArray) (i : Nat) (h : i < s.size) : s.data.toList[i]'(by rw [size_list]; exact h) = s[i]'h := by simp [ByteArray.getElem_eq_getElem_data]
theorem all_all (s : ByteArray) (h : ∀ i (hi : i < s.size), okByte (s[i]'hi) = true) : s.data.toList.all okByte = true := by
  rw [List.all_eq_true]
  intro c hc
  obtain ⟨i, hi, rfl⟩ := List.mem_iff_getElem.1 hc
  rw [plain_at s i (by rw [← size_list]; exact hi)]
  exact h i _
theorem all_not (s : ByteArray) (i : Nat) (hi : i < s.size) (h : okByte (s[i]'hi) = false) : s.data.toList.all okByte = false := by
  rw [List.all_eq_false]
  refine ⟨s[i]'hi, ?_, by simp [h]⟩
  rw [← plain_at s i hi]
  exact List.getElem_mem _
theorem below_iter (w : World) (s : ByteArray) (pos : Nat) : Below w.heap.size w (w.iter s pos) := (Below.refl _ _).alloc (Nat.le_refl _) _
set_option maxHeartbeats 1000000 in
theorem value_plain.calls (a0 : ByteArray) (r : Bool) (w : World) (h : value_plain.f a0 = some r) :
    Calls Tryd.prog 60 #[.string a0] w fun e w' => e = .returned (.bool r) ∧ Below w.heap.size w w' := by
  obtain rfl : plainB a0 = r := Option.some.inj h
  clear h
  go_enter Tryd.func60, Tryd.ntmps60
  go_wp2
  go_loopw [4] (fun _ w' => ∃ pos : Nat, w' = w.iter a0 pos ∧ pos ≤ a0.size ∧ ∀ i (hi : i < a0.size), i < pos → okByte (a0[i]'hi) = true) (fun _ w' => a0.size - w'.iterPos w.heap.size)
  case atStart => exact ⟨0, rfl, Nat.zero_le _, fun i _ hi => absurd hi (Nat.not_lt_zero _)⟩
  case round =>
    obtain ⟨pos, rfl, hle, hall⟩ := hrel
    have HA := Lib.hid hall
    clear hall
    by_cases hp : pos < a0.size
    · have hnx : ∀ ty, (Instr.next (.pointer (some ⟨w.heap.size, 0, none⟩)) true ty).run Tryd.prog (w.iter a0 pos) = _ := fun ty => run_next_any w a0 pos ty hp
      by_cases hb : okByte (a0[pos]'hp) = true
      · have hb' : 32 ≤ (a0[pos]'hp).toNat ∧ (a0[pos]'hp).toNat ≤ 126 := by simpa [okByte] using hb
        have hd := decode_ascii a0 pos hp (by omega)
        rw [hd] at hnx
        have H0 := Lib.hid hb
        clear hb hd
        obtain ⟨c, hc⟩ : ∃ c : Nat, c = (a0[pos]'hp).toNat := ⟨_, rfl⟩
        rw [← hc] at hnx hb'
        clear hc
        obtain ⟨h1, h2⟩ := hb'
        go_wp2
        go_roundw
        case rel =>
          refine ⟨pos + 1, rfl, by omega, fun i hi hlt => ?_⟩
          by_cases e : i = pos
          · subst e; exact H0.out
          · exact HA.out i hi (by omega)
        case measure => simp; omega
      · have hb' : okByte (a0[pos]'hp) = false := by simpa using hb
        have hfin : plainB a0 = false := by simp [plainB, all_not a0 pos hp hb']
        have HF := Lib.hid hfin
        clear hb hfin
        by_cases ha : (a0[pos]'hp).toNat < 128
        · have hd := decode_ascii a0 pos hp ha
          rw [hd] at hnx
          clear hd
          have hb2 : (a0[pos]'hp).toNat < 32 ∨ 126 < (a0[pos]'hp).toNat := by
            simp [okByte] at hb'
            omega
          clear hb'
          obtain ⟨c, hc⟩ : ∃ c : Nat, c = (a0[pos]'hp).toNat := ⟨_, rfl⟩
          rw [← hc] at hnx hb2
          clear hc ha
          rcases hb2 with h1 | h1
          all_goals
            go_wp2
            go_ret
            exact ⟨by rw [HF.out]; rfl, below_iter _ _ _⟩
        · have hd := decode_high a0 pos hp (by omega)
          obtain ⟨r, hr⟩ : ∃ r, r = Utf8.decode a0 pos := ⟨_, rfl⟩
          rw [← hr] at hnx hd
          clear hr hb' ha
          obtain ⟨h1, h2⟩ := hd
          go_wp2
          go_ret
          exact ⟨by rw [HF.out]; rfl, below_iter _ _ _⟩
    · have hnx : ∀ ty, (Instr.next (.pointer (some ⟨w.heap.size, 0, none⟩)) true ty).run Tryd.prog (w.iter a0 pos) = _ := fun ty => run_next_end w a0 pos ty hp
      have hfin : plainB a0 = decide ((a0.size : Int) ≤ 64) := by
        simp only [plainB, all_all a0 (fun i hi => HA.out i hi (by omega)), Bool.true_and]
      have HF := Lib.hid hfin
      clear hfin
      go_wp2
      go_ret
      exact ⟨by rw [HF.out]; rfl, below_iter _ _ _⟩
theorem one_byte {s : ByteArray} {c : UInt8} (h : s.data.toList = [c]) : s = ⟨#[c]⟩ := by
  obtain ⟨⟨l⟩⟩ := s
  simp at h
  simp [h]
def strings_Split.f (a0 a1 : ByteArray) : Option (List ByteArray) := match a1.data.toList with
  | [_] => if a0.size < 4294967281 then some (Lib.splitB a1 0 (Lib.countB a0 a1) a0) else none
  | _ => none
theorem split_length (a0 : ByteArray) (c : UInt8) : (Lib.splitB ⟨#[c]⟩ 0 (Lib.countB a0 ⟨#[c]⟩) a0).length = Lib.countB a0 ⟨#[c]⟩ + 1 :=
  Lib.splitB_all ⟨#[c]⟩ (Nat.le_refl 1) 0 _ a0 rfl
set_option maxHeartbeats 1000000 in
theorem strings_Split.calls (a0 a1 : ByteArray) (r : List ByteArray) (w : World) (h : strings_Split.f a0 a1 = some r) :
    Calls Tryd.prog 67 #[.string a0, .string a1] w fun e w' => ∃ v0_ : Value, e = .returned (v0_) ∧ Kd.R Kd.string 9 w' w.heap.size (fun _ => True) v0_ r ∧ Below w.heap.size w w' := by
  unfold strings_Split.f at h
  split at h
  · rename_i c hc
    obtain rfl := one_byte hc
    split at h
    · rename_i hs
      obtain rfl := Option.some.inj h
      have hle := Lib.countB_le ⟨#[c]⟩ (Nat.le_refl 1) a0.size a0 (Nat.le_refl _)
      have hlen := split_length a0 c
      have cc := Any.strings_genSplit_core (P := Tryd.prog) (ρ := Tryd.lays146_ren) { Tryd.lays146 with } (by kernel_rfl) a0 ⟨#[c]⟩ 0 (-1) (Lib.countB a0 ⟨#[c]⟩ + 1) w hs (Nat.le_refl 1) (Nat.zero_le _)
        (fun x c' _ => (Tryd.strings_Index_one x c _).mono fun e w' ⟨he, hw⟩ => ⟨by rw [he]; show _ = Ending.returned (Value.int .i64 (Lib.index x.data.toList [c])); rw [Lib.index_one], hw⟩)
        ((Tryd.strings_Count_one a0 c w).mono fun e w' ⟨he, hw⟩ => ⟨by rw [he]; show _ = Ending.returned (Value.int .i64 ((Lib.count a0.data.toList [c] : Nat) : Int)); rw [Lib.count_one]; rfl, hw⟩)
        (by decide) (by decide) (by rw [if_pos (by decide)]; omega)
      rw [Nat.add_sub_cancel, hlen] at cc
      have e2 : Lib.cellsOf (Lib.splitB ⟨#[c]⟩ 0 (Lib.countB a0 ⟨#[c]⟩) a0) (Lib.countB a0 ⟨#[c]⟩ + 1) = ((Lib.splitB ⟨#[c]⟩ 0 (Lib.countB a0 ⟨#[c]⟩) a0).map Value.string).toArray := by rw [← hlen]; exact Lib.cellsOf_full _
      rw [e2] at cc
      have cd : Calls Tryd.prog 70 #[.string a0, .string ⟨#[c]⟩, .int .i64 0, .int .i64 (-1)] w fun e w' => e = .returned (.slice (some ⟨w.heap.size, 0, none⟩) (Lib.countB a0 ⟨#[c]⟩ + 1) (Lib.countB a0 ⟨#[c]⟩ + 1)) ∧ w' = w.alloc (.cells ((Lib.splitB ⟨#[c]⟩ 0 (Lib.countB a0 ⟨#[c]⟩) a0).map Value.string).toArray 9) := cc
      clear cc e2 h hc
      have hR : Kd.R Kd.string 9 (w.alloc (.cells ((Lib.splitB ⟨#[c]⟩ 0 (Lib.countB a0 ⟨#[c]⟩) a0).map Value.string).toArray 9)) w.heap.size (fun _ => True) (.slice (some ⟨w.heap.size, 0, none⟩) (Lib.countB a0 ⟨#[c]⟩ + 1) (Lib.countB a0 ⟨#[c]⟩ + 1)) (Lib.splitB ⟨#[c]⟩ 0 (Lib.countB a0 ⟨#[c]⟩) a0) := by
        have ho := own_lit_of (enc := Value.string) w w.heap.size 9 (Lib.splitB ⟨#[c]⟩ 0 (Lib.countB a0 ⟨#[c]⟩) a0) (Nat.le_refl _) (by omega)
        rw [hlen] at ho
        exact Kd.R_of_own (by rw [hlen]; exact ho) (fun _ _ => trivial)
      generalize Lib.splitB ⟨#[c]⟩ 0 (Lib.countB a0 ⟨#[c]⟩) a0 = l at *
      generalize Lib.countB a0 ⟨#[c]⟩ + 1 = n at *
      have HL := Lib.hid hlen
      clear hlen hle hs
      go_enter Tryd.func67, Tryd.ntmps67
      go_wp2_with (go_at_call 70; refine cd.mono ?_; rintro e w' ⟨rfl, hw⟩; rw [hw])
      go_ret
      exact ⟨_, rfl, hR, (Below.refl _ _).alloc (Nat.le_refl _) _⟩
    · cases h
  · cases h
def joinL (l0 : List ByteArray) (a1 : ByteArray) : List UInt8 := Lib.join (l0.map (·.data.toList)) a1.data.toList
def strings_Join.f (l0 : List ByteArray) (a1 : ByteArray) : Option ByteArray := if l0.length ≤ 140737488355328 ∧ (joinL l0 a1).length ≤ 140737488355328 then some ⟨(joinL l0 a1).toArray⟩ else none
theorem spot_of_cell {w : World} {a : Addr} {v : Value} (h : w.cell? a = some v) : a.spot = none := by
  unfold World.cell? at h
  split at h
  · split at h
    · cases h
    · rename_i hs
      simpa using hs
  · cases h
theorem strings_Join.calls (A0 : Option Addr) (c0 : Nat) (l0 : List ByteArray) (a1 : ByteArray) (r : ByteArray) (w : World) (hr0 : Kd.C Kd.string w A0 l0.length l0) (hc0 : l0.length ≤ c0) (h : strings_Join.f l0 a1 = some r) :
    Calls Tryd.prog 59 #[.slice A0 l0.length c0, .string a1] w fun e w' => e = .returned (.string r) ∧ Below w.heap.size w w' := by
  unfold strings_Join.f at h
  split at h
  · rename_i hb
    obtain ⟨hN, hlen⟩ := hb
    obtain rfl := Option.some.inj h
    cases l0 with
    | nil => exact (Tryd.strings_Join_none A0 c0 a1 w).mono fun e w' ⟨he, hw⟩ => ⟨he, by rw [hw]; exact Below.refl _ _⟩
    | cons x l =>
      have hcell : ∀ (j : Nat) y, (x :: l)[j]? = some y → ∃ ad, A0 = some ad ∧ w.cell? (ad.add j) = some (.string y) := by
        intro j y hj
        have hlt := (List.getElem?_eq_some_iff.1 hj).1
        obtain ⟨ad, c, e, _, hK, hc⟩ := Kd.C_get hr0 ByteArray.empty (j : Int) (by omega) (by omega)
        rw [Int.toNat_natCast] at hK hc
        rw [List.getD_eq_getElem?_getD, hj] at hK
        refine ⟨ad, e, ?_⟩
        have := hc 0 (.string y) (by rw [show c = [.string y] from hK]; rfl)
        simpa [Kd.string, Kd.scalar] using this
      obtain ⟨ad, rfl, h0⟩ := hcell 0 x rfl
      have hsp := spot_of_cell h0
      obtain ⟨bk, o, sp⟩ := ad
      have e0 : (⟨bk, o, sp⟩ : Addr).add 0 = ⟨bk, o, sp⟩ := rfl
      rw [e0] at hsp h0
      simp only at hsp
      subst hsp
      have hbk : bk < w.heap.size := World.block_lt_of_cell? w _ h0
      exact Tryd.strings_Join bk o c0 (x :: l) a1 w (fun j y hj => by
        obtain ⟨ad, e, hc⟩ := hcell j y hj
        obtain rfl := Option.some.inj e
        have ha : (⟨bk, o, none⟩ : Addr).add j = ⟨bk, o + j, none⟩ := by unfold Addr.add; split <;> simp_all
        rw [← ha]
        exact hc) hbk hN hc0 hlen
  · cases h
end Go.Proofs.YthmnohecmmknpaaDoor.Given
