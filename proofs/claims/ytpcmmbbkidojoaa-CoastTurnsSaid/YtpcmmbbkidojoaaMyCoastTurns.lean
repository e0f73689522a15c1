/- The law CoastTurns over numbers: a hit after misses leaves a track as it was, but for its misses; a track ends after more misses than the limit. No condition beyond what the types give. -/
import Derived.Test.YtpcmmbbkidojoaaInCoastTurns
import Derived.Test.YtpcmmbbkidojoaaLCoastTurns
namespace Go.Proofs.Ytpcmmbbkidojoaa.MyCoastTurns
open Go.RowKit Go.Proofs.Ytpcmmbbkidojoaa.Opens Go.Proofs.Ytpcmmbbkidojoaa.MCoastTurns Go.Proofs.YtpcmmbbkidojoaaW.PrintWords Go.Proofs.YtpcmmbbkidojoaaW.PrintLast Go.Proofs.YtpcmmbbkidojoaaW.PrintMore Go.Proofs.Ytpcmmbbkidojoaa.InCoastTurns Go.Proofs.Ytpcmmbbkidojoaa.Base Go.Proofs.Ytpcmmbbkidojoaa.LCoastTurns
theorem proved : Pure := by
  intro a0 a1 a2 a3 a4 a5 a6 a7 a8 a9 a10 a11 a12 a13 a14 a15 a16 a17 a18 a19 lim _ _ _ _ _ _ _ _ _ _ _ _ _ _ _ _ _ _ _ _ _
  exact Ev.rounds (turns a0 a1 a2 a3 a4 a5 a6 a7 a8 a9 a10 a11 a12 a13 a14 a15 a16 a17 a18 a19 lim)
end Go.Proofs.Ytpcmmbbkidojoaa.MyCoastTurns
