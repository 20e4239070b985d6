/- Contracts of the document's package kinref3: the codes put. -/
import Derived.Test.YtnccebfapihpjaaDoorCodesW
namespace Go.Proofs.YtnccebfapihpjaaDoor
open Go Go.RowKit Go.Extern.Stop Go.Stop Go.Extern

end Go.Proofs.YtnccebfapihpjaaDoor
