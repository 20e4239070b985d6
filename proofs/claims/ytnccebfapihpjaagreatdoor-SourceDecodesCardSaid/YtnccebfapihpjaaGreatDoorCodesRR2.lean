/- Contracts of the document's package kinref3: GetUe, GetSe, GetRice. -/
import Derived.Test.YtnccebfapihpjaaGreatDoorCodesRR
namespace Go.Proofs.YtnccebfapihpjaaGreatDoor
open Go Go.RowKit Go.Extern.Stop Go.Stop Go.Extern

end Go.Proofs.YtnccebfapihpjaaGreatDoor
