import Derived.JoinedOf
import Derived.Test.YtiaeohgghaaciaaGreatDoorCards
import Derived.Test.YtiaeohgghaaciaaGreatDoorRows
import Derived.Test.YtiaeohgghaaciaaGreatDoorA01
namespace Go.Proofs.YtiaeohgghaaciaaGreatDoor
open Go Go.Maps Go.RowKit Go.Extern.Stop Go.Stop Go.Extern Go.Proofs.Tryz
set_option linter.all false
set_option maxRecDepth 100000
set_option maxHeartbeats 4000000
theorem TopEither_j1:Rows.topEitherRow.wf (OpenSpec.ofChange Rows.topEitherSpec)=true:=aW
theorem TopEither_j2:laidOutB prog=true:=aW
theorem TopEither_j3:mapsRowed prog=true:=aW
theorem TopEither_j4:Tryz.f4.params.all (prog.readableRec ·)=true:=aW
theorem TopEither_j5:namedTie prog Rows.topEitherRow.named Rows.topEitherSpec.vars=true:=aW
theorem TopEither_j6:(Rows.topEitherRow.stops== [])=true:=aW
theorem TopEither_j7:(prog.stops== [])=true:=aW
theorem TopEither_j8:(Rows.topEitherRow.knobs== [])=true:=aW
theorem TopEither_j9:(prog.stopKnobs== [])=true:=aW
theorem TopEither_j10:(Rows.topEitherRow.inPlace==prog.inPlace 4)=true:=aW
theorem TopEither_j11:(Rows.topEitherRow.unfollowed==prog.unfollowed 4)=true:=aW
theorem TopEither_j12:(Rows.topEitherRow.recurses==prog.recurses 4)=true:=aW
end Go.Proofs.YtiaeohgghaaciaaGreatDoor
