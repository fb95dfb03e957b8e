import Derived.Test.YtfeiiadligkamaaGreatEv
namespace Go.Proofs.YtfeiiadligkamaaGreat
open Eng
structure Res where
 vantage:Int
 run:Int
 number:Int
 at_:Int
 dst:Int
 proto:Int
 flow:Int
 ttl:Int
 answered:Bool
 doubled:Bool
 back:Int
 from_:Int
 kind:Int
 code:Int
 left:Int
 id:Int
 quoted:Int
 deriving DecidableEq
instance:Inhabited Res:=⟨⟨0,0,0,0,0,0,0,0,false,false,0,0,0,0,0,0,0⟩⟩
def Res.cs (s:Res):List SV:=[.i .i64 s.vantage,.i .i64 s.run,.i .i64 s.number,.i .i64 s.at_,.i .u32 s.dst,.i .i64 s.proto,.i .i64 s.flow,.i .i64 s.ttl,.b s.answered,.b s.doubled,.i .i64 s.back,.i .u32 s.from_,.i .i64 s.kind,.i .i64 s.code,.i .i64 s.left,.i .i64 s.id,.i .i64 s.quoted]
end Go.Proofs.YtfeiiadligkamaaGreat
