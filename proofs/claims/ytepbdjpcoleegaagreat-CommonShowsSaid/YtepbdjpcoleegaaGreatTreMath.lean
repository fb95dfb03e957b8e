import Derived.Test.YtepbdjpcoleegaaGreatResOrd

/- Traces: their fields, their order (no program in sight). -/
namespace Go.Proofs.YtepbdjpcoleegaaGreat
open Eng
structure Tre where
 van : Int
 dst : Int
 pro : Int
 deriving DecidableEq
instance : Inhabited Tre := ⟨⟨0, 0, 0⟩⟩
def Tre.cs (s : Tre) : List SV := [.i .i64 s.van, .i .u32 s.dst, .i .i64 s.pro]
def Tre.keys (s : Tre) : List Int := [s.van, s.dst, s.pro]
end Go.Proofs.YtepbdjpcoleegaaGreat
