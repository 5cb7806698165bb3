/- The register's All, walked. -/
import Derived.Test.YtjacpmmlkgcjjaaDoorAll
namespace Go.Proofs.YtjacpmmlkgcjjaaDoor.Latest
open Go.RowKit Go.ChangeMaps Go.Shelf Go.Sort Go.Proofs.YtjacpmmlkgcjjaaDoorW.PrintWords Go.Proofs.YtjacpmmlkgcjjaaDoorW.PrintLast Go.Proofs.YtjacpmmlkgcjjaaDoor.Given Go.Proofs.YtjacpmmlkgcjjaaDoor.PA Go.Proofs.YtjacpmmlkgcjjaaDoor.Val
open Go.Maps (Keyed string_keyed)
open Go.WideMaps
set_option linter.unusedVariables false
set_option linter.unusedSimpArgs false
set_option maxHeartbeats 4000000 in
set_option maxRecDepth 100000 in
theorem All_calls (g b : Nat) (L : List S33) (w : World) (hr : RegAt w g b L) (hL : L.length < 1000000) :
    Calls Tryd.prog 13 #[.pointer (some ⟨g, 0, none⟩)] w fun e w' => ∃ v O, e = .returned v ∧ List.Perm O L ∧ List.Pairwise (fun a b => byName a b ≤ 0) O ∧ Kd.R k33 33 w' w.heap.size (fun _ => True) v O ∧ Below w.heap.size w w' := by
  have hreg := hr.reg
  have hmap := hr.map
  have hbl := hmap.lt
  have HL := Lib.hid hL
  obtain ⟨o, hrange, hit⟩ := hmap.range Tryd.underlying27
  have HIT := Lib.hid hit
  clear hmap hit hr hL
  have hc0 : w.cell? ⟨g, 0, none⟩ = some (.map (some b)) := (blk_cell hreg 0).trans rfl
  have HREG := Lib.hid hreg
  clear hreg
  go_enter Tryd.func13, Tryd.ntmps13
  go_wp2
  go_loopg [3] L.length (fun k v3 wr => ∃ done rest : List S33, Hid (RangeAt Tryd.prog 9 wr b w.heap.size (ents L) (ents rest)) ∧ Hid (rest.length ≤ k) ∧ Hid (List.Perm (done ++ rest) L) ∧ Hid (Kd.R k33 33 wr (w.heap.size + 1) (fun _ => True) v3 done) ∧ Hid (Below w.heap.size w wr) ∧ Hid (w.heap.size + 1 ≤ wr.heap.size))
  case atStart => exact ⟨[], L, HIT, Lib.hid (Nat.le_refl _), Lib.hid (List.Perm.refl _), Lib.hid (Kd.R_nil _ _ _ _ _), Lib.hid (below_alloc (Below.refl _ _) _), Lib.hid (by simp)⟩
  case round =>
    obtain ⟨done, rest, HR, HK, HP, HO, HB, HS⟩ := hrel
    rcases RangeAt.next HR.out (Nat.ne_of_lt hbl) 0 with ⟨hrest, hrun⟩ | ⟨l1, p, l2, w2, hl, hrun, hr2, hst, hent⟩
    · have HRE := Lib.hid hrest
      clear hrest
      rcases R_own HO.out with ⟨hlen, h0 | ⟨g', cap', cur, hv, hb, hw, h1, h2, h3, h4⟩⟩
      · obtain ⟨rfl, hd0⟩ := h0
        have hd : done = [] := List.eq_nil_of_length_eq_zero hd0
        have hHD := Lib.hid hd
        clear hd hlen hd0
        go_wp2_with fail
        refine (show Calls Tryd.prog 25 _ _ _ from AnyF.slices_SortFunc_none Tryd.sortCell none 0 _ wr).mono ?_
        rintro e w' ⟨rfl, rfl⟩
        go_wp2
        go_ret
        have hrest : rest = [] := by simpa [ents] using HRE.out
        have hdn := hHD.out
        subst hrest hdn
        exact ⟨_, [], rfl, HP.out, List.Pairwise.nil, Kd.R_nil _ _ _ _ _, HB.out⟩
      · subst hv
        have HOW := Lib.hid (R_own HO.out)
        clear hlen h1 h2 h3 h4 hw
        have HBG := Lib.hid hb
        have hlt : done.length < 4611686018427387904 := by
          have h1 := HP.out.length_eq
          have h2 := HL.out
          simp only [List.length_append] at h1
          omega
        have HLT := Lib.hid hlt
        clear hlt hb
        go_wp2_with fail
        refine (SortCells done g' _ cap' (w.heap.size + 1) wr HOW.out rfl HLT.out).mono ?_
        rintro e w' ⟨rfl, ys, hp, hs, ho, hst⟩
        have HPS := Lib.hid hp
        have HSS := Lib.hid hs
        have HOS := Lib.hid ho
        have HST := Lib.hid hst
        clear hp hs ho hst
        go_wp2
        go_ret
        have hrest : rest = [] := by simpa [ents] using HRE.out
        subst hrest
        have hly : ys.length = done.length := HPS.out.length_eq
        refine ⟨_, ys, rfl, HPS.out.trans (by simpa using HP.out), HSS.out, Kd.R_lower (own_R (by rw [hly]; exact HOS.out) (fun _ _ => trivial)) (by omega), ?_⟩
        have h1 := HST.out
        have h2 := HBG.out
        exact HB.out.trans ⟨h1.os, h1.tape, h1.output, h1.size, fun i hi => h1.block i (by have := HS.out; omega) (by omega)⟩
    · obtain ⟨M1, M2', hrest, rfl, h2⟩ := List.map_eq_append_iff.1 hl
      obtain ⟨d, M2, rfl, h3, rfl⟩ := List.map_eq_cons_iff.1 h2
      subst h3
      subst hrest
      rw [← List.map_append] at hr2
      have HR2 : Hid (RangeAt Tryd.prog 9 w2 b w.heap.size (ents L) (ents (M1 ++ M2))) := Lib.hid hr2
      have HST := Lib.hid hst
      clear hl hr2 hst h2
      unfold val33 at hrun hent
      have hO2 : Kd.R k33 33 w2 (w.heap.size + 1) (fun _ => True) u3 done := Kd.R_mono (Kd.R_step (Kd.R_bound HO.out) (fun k hk _ => HST.out.block k (by omega))) (fun _ _ => trivial)
      have HO2 := Lib.hid hO2
      have hs2 : w.heap.size + 1 ≤ w2.heap.size := by rw [HST.out.size]; exact HS.out
      have HS2 := Lib.hid hs2
      have hdl : (done.length + 1) * 64 ≤ 140737488355328 := by
        have h1 := HP.out.length_eq
        have h2 := HL.out
        simp only [List.length_append, List.length_cons] at h1
        omega
      have HDL := Lib.hid hdl
      clear hs2 hdl hO2 HO
      go_wp2_with ((with_reducible refine gate_builtin (b := .append) (xs := #[.tmp 17, .tmp 19]) rfl ?_); at_builtin; go_loud (refine Kd.R_append k33 (w0 := w2.alloc (.cells #[.string d.f0, .int .i64 d.f1.f0, .int .i64 d.f1.f1, .int .i64 d.f2.f0, .int .i64 d.f2.f1, .string d.f2.f2] 33)) (w.heap.size + 1) rfl (.tmp 17) (.tmp 19) 22 33 (.agg #[.string ⟨#[]⟩, .int .i64 0, .int .i64 0, .int .i64 0, .int .i64 0, .string ⟨#[]⟩]) 64 rfl Tryd.underlying22 info33 rfl (by decide) (by omega) u3 done d (cells33 d) (fun _ => True) (fun _ => False) rfl (by show Value.slice (some ⟨w2.heap.size + 1, 0, none⟩) 1 1 = _; simp) (k33_mkM _ _ _ d) (fun _ hk => hk.elim) (fun _ _ => trivial) (Kd.R_alloc HO2.out _) (Below.refl _ _) (by have := HS2.out; simp; omega) HDL.out ?_); intro v1 w3 ho hb hg hat; have HO3 := Lib.hid ho; have HB3 := Lib.hid hb; clear ho hb hg hat)
      go_roundg (M1 ++ M2).length
      case measure =>
        have := HK.out
        simp only [List.length_append, List.length_cons] at this ⊢
        omega
      case rel =>
        have hbb : w3.heap[b]? = w2.heap[b]? := (HB3.out.block b (by omega)).trans (Below.heap_alloc _ _ _ (by have := HS2.out; omega))
        have hbr : w3.heap[w.heap.size]? = w2.heap[w.heap.size]? := (HB3.out.block _ (by omega)).trans (Below.heap_alloc _ _ _ (by have := HS2.out; omega))
        refine ⟨done ++ [d], M1 ++ M2, Lib.hid (HR2.out.same hbb hbr), Lib.hid (Nat.le_refl _), Lib.hid ?_, HO3, Lib.hid ?_, Lib.hid (by have h1 := HB3.out.size; have h2 := HS2.out; simp at h1; omega)⟩
        · refine List.Perm.trans ?_ HP.out
          simp only [List.append_assoc]
          exact List.Perm.append_left _ ((show List.Perm (d :: (M1 ++ M2)) (M1 ++ d :: M2) from List.perm_middle.symm))
        · have h1 : Below w.heap.size w w2 := ⟨HST.out.os.trans HB.out.os, HST.out.tape.trans HB.out.tape, HST.out.output.trans HB.out.output, by have := HS2.out; omega, fun i hi => (HST.out.block i (by omega)).trans (HB.out.block i hi)⟩
          exact (below_alloc h1 _).trans (HB3.out.mono (by omega))
theorem AllN_calls (w : World) : Calls Tryd.prog 13 #[.pointer none] w fun e w' => e = .returned (.slice none 0 0) ∧ w' = w := by
  go_enter Tryd.func13, Tryd.ntmps13
  go_wp2
  go_ret
  exact ⟨rfl, rfl⟩
set_option maxHeartbeats 1000000 in
theorem PutN_calls (c : S33) (w : World) :
    Calls Tryd.prog 12 #[.pointer none, val33 c] w fun e w' => e = .returned (.tuple #[.bool false, .int .i64 1]) ∧ Below w.heap.size w w' := by
  unfold val33
  go_enter Tryd.func12, Tryd.ntmps12
  go_wp2
  go_ret2
  exact ⟨rfl, by first | exact (Below.refl _ _).alloc (Nat.le_refl _) _ | exact Below.refl _ _⟩
end Go.Proofs.YtjacpmmlkgcjjaaDoor.Latest
