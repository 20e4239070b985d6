import Derived.JoinedOf
import Derived.Test.YtiaeohgghaaciaaGreatDoorCards
import Derived.Test.YtiaeohgghaaciaaGreatDoorRows
import Derived.Test.YtiaeohgghaaciaaGreatDoorB01
namespace Go.Proofs.YtiaeohgghaaciaaGreatDoor
open Go Go.Maps Go.RowKit Go.Extern.Stop Go.Stop Go.Extern Go.Proofs.Tryz
set_option linter.all false
set_option maxRecDepth 100000
set_option maxHeartbeats 4000000
theorem TopAlike_j1:Rows.topAlikeRow.wf (OpenSpec.ofChange Rows.topAlikeSpec)=true:=aW
theorem TopAlike_j2:laidOutB prog=true:=aW
theorem TopAlike_j3:mapsRowed prog=true:=aW
theorem TopAlike_j4:Tryz.f3.params.all (prog.readableRec ·)=true:=aW
theorem TopAlike_j5:namedTie prog Rows.topAlikeRow.named Rows.topAlikeSpec.vars=true:=aW
theorem TopAlike_j6:(Rows.topAlikeRow.stops== [])=true:=aW
theorem TopAlike_j7:(prog.stops== [])=true:=aW
theorem TopAlike_j8:(Rows.topAlikeRow.knobs== [])=true:=aW
theorem TopAlike_j9:(prog.stopKnobs== [])=true:=aW
theorem TopAlike_j10:(Rows.topAlikeRow.inPlace==prog.inPlace 3)=true:=aW
theorem TopAlike_j11:(Rows.topAlikeRow.unfollowed==prog.unfollowed 3)=true:=aW
theorem TopAlike_j12:(Rows.topAlikeRow.recurses==prog.recurses 3)=true:=aW
end Go.Proofs.YtiaeohgghaaciaaGreatDoor
