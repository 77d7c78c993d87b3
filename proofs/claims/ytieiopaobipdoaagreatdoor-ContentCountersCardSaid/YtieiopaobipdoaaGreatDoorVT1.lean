/- Runs of Text. -/
import Derived.Test.YtieiopaobipdoaaGreatDoorVT
namespace Go.Proofs.YtieiopaobipdoaaGreatDoor.HM
open Go Go.RowKit
theorem tx_1_0 : (okR 1 0 && (okR 1 1 && (okR 1 2 && (okR 1 3 && (okR 1 4 && (okR 1 5 && (okR 1 6 && (okR 1 7 && (okR 1 8 && (okR 1 9 && (okR 1 10 && (okR 1 11 && (okR 1 12 && (okR 1 13 && (okR 1 14 && (okR 1 15 && (okR 1 16 && (okR 1 17 && (okR 1 18 && (okR 1 19 && (okR 1 20 && (okR 1 21 && (okR 1 22 && (okR 1 23 && (okR 1 24))))))))))))))))))))))))) = true := by kernel_rfl
theorem tx_1_1 : (okR 1 25 && (okR 1 26 && (okR 1 27 && (okR 1 28 && (okR 1 29 && (okR 1 30 && (okR 1 31 && (okR 1 32 && (okR 1 33 && (okR 1 34 && (okR 1 35 && (okR 1 36 && (okR 1 37 && (okR 1 38 && (okR 1 39 && (okR 1 40 && (okR 1 41 && (okR 1 42 && (okR 1 43 && (okR 1 44 && (okR 1 45 && (okR 1 46 && (okR 1 47 && (okR 1 48 && (okR 1 49))))))))))))))))))))))))) = true := by kernel_rfl
end Go.Proofs.YtieiopaobipdoaaGreatDoor.HM
