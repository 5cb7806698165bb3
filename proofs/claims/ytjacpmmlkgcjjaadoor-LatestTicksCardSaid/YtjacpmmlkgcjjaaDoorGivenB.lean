/- The fixed facts, Later and Tick, in the print's words. -/
import Derived.Test.YtjacpmmlkgcjjaaDoorFixed
namespace Go.Proofs.YtjacpmmlkgcjjaaDoor.Given
set_option linter.unusedVariables false
open Go.RowKit Go.Proofs.YtjacpmmlkgcjjaaDoor.PA Go.Proofs.YtjacpmmlkgcjjaaDoorW.PrintWords Go.Proofs.YtjacpmmlkgcjjaaDoorW.PrintMore
def hedgerowlaw36_fixed.f : Option Bool := some true
theorem hedgerowlaw36_fixed.calls (r : Bool) (w : World) (h : hedgerowlaw36_fixed.f = some r) : Calls Tryd.prog 7 #[] w fun e w' => e = .returned (.bool r) ∧ Below w.heap.size w w' := by
  obtain rfl := Option.some.inj h
  exact Latest.fixed_calls w
def tickT (a0 b0 : Int) : Int := (mn (mx (mx a0 b0) 0) 1099511627775) + 1
def tickR (r : Int) : Int := mn (mx r 0) 15
def latestTick.f (a0 a1 b0 b1 r : Int) : Option (Int × Int) := some (tickT a0 b0, tickR r)
theorem latestTick.calls (a0 a1 b0 b1 r : Int) (r1 r2 : Int) (w : World) (h : latestTick.f a0 a1 b0 b1 r = some (r1, r2)) :
    Calls Tryd.prog 16 #[.agg #[.int .i64 a0, .int .i64 a1], .agg #[.int .i64 b0, .int .i64 b1], .int .i64 r] w fun e w' => e = .returned (.agg #[.int .i64 r1, .int .i64 r2]) ∧ Below w.heap.size w w' :=
  latest_Tick.calls a0 a1 b0 b1 r r1 r2 w h
def latestLater.f (a b c d : Int) : Option Bool := some (decide (0 < Latest.ordI a b c d))
theorem latestLater.calls (a b c d : Int) (r : Bool) (w : World) (h : latestLater.f a b c d = some r) :
    Calls Tryd.prog 17 #[.agg #[.int .i64 a, .int .i64 b], .agg #[.int .i64 c, .int .i64 d]] w fun e w' => e = .returned (.bool r) ∧ Below w.heap.size w w' :=
  latest_Later.calls 100 a b c d r w ((Latest.later_is a b c d 100 (by omega)).trans h)
end Go.Proofs.YtjacpmmlkgcjjaaDoor.Given
