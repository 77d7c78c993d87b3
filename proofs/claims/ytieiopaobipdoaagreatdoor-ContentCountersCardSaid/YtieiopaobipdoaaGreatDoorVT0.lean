/- Runs of Text. -/
import Derived.Test.YtieiopaobipdoaaGreatDoorVT
namespace Go.Proofs.YtieiopaobipdoaaGreatDoor.HM
open Go Go.RowKit
theorem tx_0_0 : (okR 0 0 && (okR 0 1 && (okR 0 2 && (okR 0 3 && (okR 0 4 && (okR 0 5 && (okR 0 6 && (okR 0 7 && (okR 0 8 && (okR 0 9 && (okR 0 10 && (okR 0 11 && (okR 0 12 && (okR 0 13 && (okR 0 14 && (okR 0 15 && (okR 0 16 && (okR 0 17 && (okR 0 18 && (okR 0 19 && (okR 0 20 && (okR 0 21 && (okR 0 22 && (okR 0 23 && (okR 0 24))))))))))))))))))))))))) = true := by kernel_rfl
theorem tx_0_1 : (okR 0 25 && (okR 0 26 && (okR 0 27 && (okR 0 28 && (okR 0 29 && (okR 0 30 && (okR 0 31 && (okR 0 32 && (okR 0 33 && (okR 0 34 && (okR 0 35 && (okR 0 36 && (okR 0 37 && (okR 0 38 && (okR 0 39 && (okR 0 40 && (okR 0 41 && (okR 0 42 && (okR 0 43 && (okR 0 44 && (okR 0 45 && (okR 0 46 && (okR 0 47 && (okR 0 48 && (okR 0 49))))))))))))))))))))))))) = true := by kernel_rfl
end Go.Proofs.YtieiopaobipdoaaGreatDoor.HM
