/- PatternParts: for every three texts the law returns true. No condition. -/
import Derived.Test.YtkepmbkghmkodaaPatParts
namespace Go.Proofs.Ytkepmbkghmkodaa.Pure
open Go.RowKit Go.Proofs.Ytkepmbkghmkodaa.P Go.Proofs.YtkepmbkghmkodaaW.PrintWords Go.Proofs.YtkepmbkghmkodaaW.PrintLast
theorem PatternParts : deadfalllaw08_PatternParts.Pure := Go.Proofs.Ytkepmbkghmkodaa.Pat.PatternParts_f
end Go.Proofs.Ytkepmbkghmkodaa.Pure
