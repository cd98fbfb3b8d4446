/- A cell as a kind. -/
import Derived.Test.YtkhbmamcbhjafaaKeysK
import Derived.Test.YtkhbmamcbhjafaaCellsPa
namespace Go.Proofs.Ytkhbmamcbhjafaa.Keys
open Go.RowKit Go.Proofs.YtkhbmamcbhjafaaW.PrintWords Go.Proofs.Ytkhbmamcbhjafaa.PRef Go.Proofs.Ytkhbmamcbhjafaa.Sl
abbrev kC := k73
theorem infoC : (Try.prog.info? 73).map (fun i => (i.zero, i.size, i.bytes)) = some (some (.agg #[.int .i64 0, .int .i64 0, .int .i64 0, .string ⟨#[]⟩]), 4, 40) := by kernel_rfl
theorem flatC : Flat kC := fun w b x cs h => by
  obtain rfl := k73_open h
  exact k73_mkM _ _ _ _
end Go.Proofs.Ytkhbmamcbhjafaa.Keys
