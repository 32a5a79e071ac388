import Derived.Test.YtbomggfklfbnkaaGreatDoorKTrkC
import Derived.Test.YtbomggfklfbnkaaGreatDoorKRefB
set_option maxRecDepth 100000
set_option maxHeartbeats 8000000
set_option linter.unusedSimpArgs false
set_option linter.unusedVariables false
namespace Go.RX
def fP (o:Oper):Bool:=match o.dst with
 |some 35=>false
 |_=>fN o
end Go.RX
namespace Go.Proofs.YtbomggfklfbnkaaGreatDoor
open Go.RowKit Go.Grid Go.Maps Go.Sort Go.Shelf Go.Chain
theorem RC.bl {P:Nat} {w w':World} {k:Int} {nm:ByteArray} {t f a b c:Int} {p:Option Addr} {n cp:Nat} (h:RC P w k nm t f a b c p n cp) (hb:Below w.heap.size w w'):RC P w' k nm t f a b c p n cp:=
 ⟨zP hb h.c0,zP hb h.c1,zP hb h.c2,zP hb h.c3,zP hb h.c4,zP hb h.c5,zP hb h.c6,zP hb h.c7⟩
end Go.Proofs.YtbomggfklfbnkaaGreatDoor
