/- Boxes as six numbers, and their halves. -/
import Derived.Test.YtdkckhihleffeaaGreatGeoS
namespace Go.Proofs.YtdkckhihleffeaaGreat
set_option linter.all false
open Go.RowKit

/-- A box, as six numbers. -/
structure Bx where
  a : Int
  b : Int
  c : Int
  d : Int
  e : Int
  f : Int
deriving Inhabited, DecidableEq
def Bx.val (x : Bx) : Array Value := #[.int .i64 x.a, .int .i64 x.b, .int .i64 x.c, .int .i64 x.d, .int .i64 x.e, .int .i64 x.f]
def Bx.ok (x : Bx) : Bool := splOk x.a x.b x.c x.d x.e x.f
def Bx.v (x : Bx) : Bool := bP x.a x.b x.c x.d x.e x.f
def Bx.ax (x : Bx) : Nat := axis (x.d - x.a) (x.e - x.b) (x.f - x.c)
def Bx.pts (x : Bx) : Int := ptsP x.a x.b x.c x.d x.e x.f
/-- Its halves. -/
def Bx.fst (x : Bx) : Bx := ⟨keepI x.ok x.a, keepI x.ok x.b, keepI x.ok x.c, spE x.ok x.ax 0 x.a x.d, spE x.ok x.ax 1 x.b x.e, spE x.ok x.ax 2 x.c x.f⟩
def Bx.snd (x : Bx) : Bx := ⟨spB x.ok x.ax 0 x.a x.d, spB x.ok x.ax 1 x.b x.e, spB x.ok x.ax 2 x.c x.f, keepI x.ok x.d, keepI x.ok x.e, keepI x.ok x.f⟩
/-- Its center. -/
def Bx.c0 (x : Bx) : Int := cen x.v x.a x.d
def Bx.c1 (x : Bx) : Int := cen x.v x.b x.e
def Bx.c2 (x : Bx) : Int := cen x.v x.c x.f
theorem Bx.split (x : Bx) (u : World) : Calls Tryz.prog 37 #[.agg x.val] u fun e w' => e = .returned (.tuple #[.agg x.fst.val, .agg x.snd.val, .bool x.ok]) ∧ u.grownBy w' none := split_any x.a x.b x.c x.d x.e x.f u
end Go.Proofs.YtdkckhihleffeaaGreat
