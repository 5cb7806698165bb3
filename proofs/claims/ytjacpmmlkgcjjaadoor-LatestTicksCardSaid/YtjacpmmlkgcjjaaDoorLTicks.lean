/- LatestTicks: the plain law, the row, the card. -/
import Derived.Test.YtjacpmmlkgcjjaaDoorLaid
import Derived.Test.YtjacpmmlkgcjjaaDoorPBx
import Derived.Test.YtjacpmmlkgcjjaaDoorOpen
namespace Go.Proofs.YtjacpmmlkgcjjaaDoor.LTicks
open Go.ChangeShapes Go.WideShapes Go.ChangeAt Go.RowKit Go.Proofs.YtjacpmmlkgcjjaaDoor.Given Go.Proofs.YtjacpmmlkgcjjaaDoor.PB Go.Proofs.YtjacpmmlkgcjjaaDoor.LaidW Go.Proofs.YtjacpmmlkgcjjaaDoorW.PrintWords Go.Proofs.YtjacpmmlkgcjjaaDoorW.PrintMore Go.Proofs.YtjacpmmlkgcjjaaDoor.Val Go.Proofs.YtjacpmmlkgcjjaaDoor.Latest
set_option linter.unusedVariables false
set_option linter.unusedSimpArgs false

theorem cmpI_pos {a b : Int} (h : b < a) : cmpI a b = 1 := by unfold cmpI; rw [if_neg (by omega), if_neg (by omega)]
theorem cmpI_neg {a b : Int} (h : a < b) : cmpI a b = -1 := by unfold cmpI; rw [if_pos h]
theorem cmpI_self (a : Int) : cmpI a a = 0 := by unfold cmpI; rw [if_neg (by omega), if_pos rfl]
theorem ord_gt {t a : Int} (h : a < t) (r b : Int) : 0 < ordI t r a b := by
  unfold ordI
  rw [cmpI_pos h]
  show (0 : Int) < if (1 : Int) = 0 then _ else 1
  rw [if_neg (by decide)]
  decide
theorem ord_self (a b : Int) : ordI a b a b = 0 := by
  unfold ordI
  rw [cmpI_self, cmpI_self]
  rfl
theorem ord_anti (a b c d : Int) : ordI a b c d = - ordI c d a b := by
  have h : ∀ x y : Int, cmpI x y = - cmpI y x := by
    intro x y
    unfold cmpI
    split <;> split <;> (try split) <;> (try split) <;> omega
  unfold ordI orI
  rw [h a c, h b d]
  split <;> split <;> (try omega) <;> (unfold orI; split <;> split <;> (try omega) <;> rfl)
theorem ticks_true (a b c d r : Int) (ha0 : -9223372036854775808 ≤ a) (ha : a ≤ 9223372036854775807) (hc0 : -9223372036854775808 ≤ c) (hc : c ≤ 9223372036854775807) : hedgerowlaw36_LatestTicks.f 2 a b c d r = some true := by
  unfold hedgerowlaw36_LatestTicks.f hedgerowlaw36_fixed.f latestTick.f
  have ht1 : 1 ≤ tickT a c := by unfold tickT mn mx; split <;> split <;> (try split) <;> omega
  have ht2 : tickT a c ≤ 1099511627776 := by unfold tickT mn mx; split <;> split <;> (try split) <;> omega
  have hr1 : 0 ≤ tickR r := by unfold tickR mn mx; split <;> split <;> omega
  have hr2 : tickR r ≤ 15 := by unfold tickR mn mx; split <;> split <;> omega
  have hr3 : 0 ≤ r → r < 16 → tickR r = r := by intro h1 h2; unfold tickR mn mx; split <;> split <;> omega
  have hj : hedgerowlaw36_LatestTicks.j0 2 false a b c d (tickT a c) (tickR r) = some true := by
    refine (hedgerowlaw36_LatestTicks.j0.eq_2 _ _ _ _ _ _ _ _).trans ?_
    rw [if_neg (by decide)]
    by_cases hm : mx a c ≥ 1099511627776
    · rw [if_pos hm]
      have : tickT a c = 1099511627776 := by
        unfold tickT
        generalize mx a c = m at hm
        unfold mn mx
        split <;> split <;> omega
      rw [this]
      rfl
    · rw [if_neg hm]
      have hmm : mx (mx a c) 0 < 1099511627776 := by
        generalize mx a c = m at hm
        unfold mx
        split <;> omega
      have hm0 : 0 ≤ mx (mx a c) 0 := by
        generalize mx a c = m
        unfold mx
        split <;> omega
      have hta : tickT a c = mx (mx a c) 0 + 1 := by
        unfold tickT mn
        rw [if_neg (by omega)]
      have hw : wrap64 (mx (mx a c) 0 + 1) = mx (mx a c) 0 + 1 := w64 (by omega) (by omega)
      rw [if_pos (by rw [hta, hw])]
      have hla : a < tickT a c := by rw [hta]; unfold mx; split <;> split <;> omega
      have hlc : c < tickT a c := by rw [hta]; unfold mx; split <;> split <;> omega
      unfold latestLater.f
      simp only [Option.bind_some]
      rw [if_pos (decide_eq_true (ord_gt hla _ _)), if_pos (decide_eq_true (ord_gt hlc _ _)), ord_self, if_neg (by decide)]
      by_cases hg : 0 < ordI a b c d
      · rw [if_pos (decide_eq_true hg)]
        have : ¬ 0 < ordI c d a b := by have := ord_anti a b c d; omega
        rw [decide_eq_false this]
        rfl
      · rw [if_neg (by simpa using hg)]
        rfl
  simp only [Option.bind_some, if_true]
  rw [if_neg (by omega), if_neg (by omega), if_neg (by omega), if_neg (by omega)]
  by_cases h0 : r ≥ 0
  · rw [if_pos h0]
    by_cases h1 : r < 16
    · rw [if_pos h1, hr3 h0 h1]
      rw [hr3 h0 h1] at hj
      simpa using hj
    · rw [if_neg h1]
      exact hj
  · rw [if_neg h0]
    exact hj

theorem opens29 : Opens Tryd.prog 29 PA.k29 (fun x => (Lit.int .i64 x.f0).wf = true ∧ (Lit.int .i64 x.f1).wf = true) :=
  Opens.iso (Opens.struct Tryd.underlying29 (OpensF.cons (Opens.int Tryd.underlying3 (by kernel_rfl)) rfl (OpensF.one (Opens.int Tryd.underlying3 (by kernel_rfl)) rfl)) (by kernel_rfl)) _ (fun x => ⟨x.1, x.2⟩) (fun _ => rfl)

set_option maxRecDepth 100000 in
theorem contract (H : Type) (enc : TypeId × Value → H) (W : World) (base : Nat) (args : Array Value) (ds gs : List (DataW H)) (before : List MemPlace)
    (hval : ∀ (j : Nat) t v, Tryd.f5.params[j]? = some t → args[j]? = some v → Value.okWide Tryd.prog W .any base t v)
    (hW : DataW.Whole enc Tryd.prog Tryd.f5.params.toList Rows.latestTicksSpec.vars false W args.toList ds gs before) :
    Calls Tryd.prog 5 args W fun e W' => ∃ v, e = .returned v ∧ Rows.latestTicksSpec.post enc Tryd.prog Tryd.f5 false true false false W args v W' := by
  have hW' := hW
  obtain ⟨p, q, hA0, hV, rfl, hfz, hnd⟩ := hW
  have hA : DataW.TrodAll enc Tryd.prog W 0 (fun _ => true) true Tryd.f5.params.toList args.toList ds p := hA0
  rw [Tryd.params5] at hA hval
  obtain ⟨v0, vs0, d0, ds0, p0, q0, hargs, rfl, rfl, h0, r0⟩ := trodAll_cons hA
  obtain ⟨v1, vs1, d1, ds1, p1, q1, rfl, rfl, rfl, h1, r1⟩ := trodAll_cons r0
  obtain ⟨v2, vs2, d2, ds2, p2, q2, rfl, rfl, rfl, h2, r2⟩ := trodAll_cons r1
  obtain ⟨rfl, rfl, rfl⟩ := trodAll_nil r2
  obtain rfl : args = #[v0, v1, v2] := by cases args; simp_all
  obtain ⟨rfl, rfl⟩ := trodVars_none hV
  obtain ⟨x, cs0, rfl, hx, hx1, hx2⟩ := Opens.agg opens29 Tryd.underlying29 (hval 0 _ v0 rfl rfl) h0
  obtain ⟨y, cs1, rfl, hy, hy1, hy2⟩ := Opens.agg opens29 Tryd.underlying29 (hval 1 _ v1 rfl rfl) h1
  obtain ⟨r, rfl, hr⟩ := Opens.intv Tryd.underlying3 (by kernel_rfl) (hval 2 _ v2 rfl rfl) h2
  obtain rfl : cs0 = #[.int .i64 x.f0, .int .i64 x.f1] := by
    have := PA.k29_open hx
    cases cs0
    simp_all
  obtain rfl : cs1 = #[.int .i64 y.f0, .int .i64 y.f1] := by
    have := PA.k29_open hy
    cases cs1
    simp_all
  clear hA0
  have bx := bounds_i64 hx1
  have by' := bounds_i64 hy1
  refine (hedgerowlaw36_LatestTicks.calls 2 x.f0 x.f1 y.f0 y.f1 r true W (ticks_true _ _ _ _ _ bx.1 bx.2 by'.1 by'.2)).mono fun e W' ⟨he, hb⟩ => ?_
  subst he
  refine ⟨_, rfl, post_true laidOut ?_ rfl (by kernel_rfl) Tryd.underlying4 hW' rfl rfl rfl hb⟩
  rw [Tryd.params5]
  intro t ht
  simp only [List.mem_cons, List.mem_nil_iff, or_false] at ht
  rcases ht with rfl | rfl | rfl <;> exact ⟨by kernel_rfl, of_decide_eq_true (by kernel_rfl)⟩

def wargs : Array Value := #[.agg #[.int .i64 0, .int .i64 0], .agg #[.int .i64 0, .int .i64 0], .int .i64 0]
theorem reads (os : Os) {H : Type} (enc : TypeId × Value → H) : ∃ places, DataW.whole enc Tryd.prog ((laidWorld os).forCall (fun _ _ => 0) ⟨#[], wargs, []⟩).memory Tryd.f5.params.toList Rows.latestTicksSpec.vars false wargs.toList 8 = some ([.agg [.lit (.int .i64 0), .lit (.int .i64 0)], .agg [.lit (.int .i64 0), .lit (.int .i64 0)], .lit (.int .i64 0)], [], places) :=
  ⟨[], by kernel_rfl⟩
set_option maxRecDepth 100000 in
theorem lifted (os : Os) (started : os.Started) (H : Type) (enc : TypeId × Value → H) (F : Stop.Interp) :
    ReturnsInHanded {} Tryd.checked os 5 .any ((OpenSpec.ofChange Rows.latestTicksSpec).preRow enc Tryd.prog Tryd.f5 Rows.latestTicksRow.domain false Rows.latestTicksRow.laid) (((OpenSpec.ofChange Rows.latestTicksSpec).at F).post enc Tryd.prog Tryd.f5 false true false false) := by
  obtain ⟨places, hx⟩ := reads os enc
  refine returnsInHanded_of_row (C := Tryd.checked) (s := OpenSpec.ofChange Rows.latestTicksSpec) own started (by kernel_rfl) Tryd.func5
    (witness_row_atRef (enc := enc) (C := Tryd.checked) false (laidWorld os) wargs rfl (by kernel_rfl) (by kernel_rfl) (by kernel_rfl)
      (OpenSpec.preRow_of_cond 8 hx (by kernel_rfl) (fun k hk => by cases hk) (by kernel_rfl) (laid_met os wargs))) ?_
  intro W base args ds gs before hval hW _ _ _ hL _ _
  exact contract H enc W base args ds gs before hval hW
theorem said : Rows.LatestTicksSaid :=
  OpenClaim.holds_of_cond 5 Tryd.f5 rfl rfl rfl rfl rfl rfl rfl ⟨rfl, rfl, rfl, rfl, rfl⟩ rfl rfl rfl rfl rfl (by kernel_rfl) Tryd.func5 (by kernel_rfl)
    (of_decide_eq_true (by kernel_rfl)) (by unfold Func.isWrapper; first | (rw [if_pos (by decide +kernel)]; kernel_rfl) | (rw [if_neg (by decide +kernel)]; exact ⟨rfl, rfl⟩))
    (fun os started H enc _ F => by rw [OpenClaim.pre_eq_preRow]; exact lifted os started H enc F)
theorem plain (f : FuncId) (fn : Func) (hf : Tryd.pinned.checked.prog.funcNamed "hedgerow/hedgerowlaw36.LatestTicks" = some f) (hfn : Tryd.pinned.checked.prog.funcs[f]? = some fn) :
    false = Tryd.pinned.checked.prog.looks [] ∧ ∀ (j : Nat) t, fn.params[j]? = some t → Tryd.pinned.checked.prog.wantsStandIn t = false := by
  obtain rfl : f = 5 := Option.some.inj ((show Tryd.prog.funcNamed "hedgerow/hedgerowlaw36.LatestTicks" = some 5 by kernel_rfl).symm.trans hf) |>.symm
  obtain rfl : fn = Tryd.f5 := (Option.some.inj (Tryd.func5.symm.trans hfn)).symm
  refine ⟨by kernel_rfl, fun j t ht => ?_⟩
  have hm := Array.mem_of_getElem? ht
  rw [show Tryd.f5.params = #[29, 29, 3] from by kernel_rfl] at hm
  simp at hm
  rcases hm with rfl | rfl
  · exact (show Tryd.prog.wantsStandIn 29 = false by kernel_rfl)
  · exact (show Tryd.prog.wantsStandIn 3 = false by kernel_rfl)
theorem card : Rows.LatestTicksCardSaid :=
  Claim7.holds_tied_plain_at .later [] _ _ _ _ said (fun _ h => by cases h) (by kernel_rfl) (fun _ h => by cases h) latestTicks_row_tie rfl ⟨rfl, rfl⟩ (by kernel_rfl) rfl plain (by kernel_rfl)
#print axioms card
end Go.Proofs.YtjacpmmlkgcjjaaDoor.LTicks
