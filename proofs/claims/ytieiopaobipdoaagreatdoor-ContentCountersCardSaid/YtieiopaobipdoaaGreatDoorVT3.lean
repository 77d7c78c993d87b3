/- Runs of Text. -/
import Derived.Test.YtieiopaobipdoaaGreatDoorVT
namespace Go.Proofs.YtieiopaobipdoaaGreatDoor.HM
open Go Go.RowKit
theorem tx_3_0 : (okR 3 0 && (okR 3 1 && (okR 3 2 && (okR 3 3 && (okR 3 4 && (okR 3 5 && (okR 3 6 && (okR 3 7 && (okR 3 8 && (okR 3 9 && (okR 3 10 && (okR 3 11 && (okR 3 12 && (okR 3 13 && (okR 3 14 && (okR 3 15 && (okR 3 16 && (okR 3 17 && (okR 3 18 && (okR 3 19 && (okR 3 20 && (okR 3 21 && (okR 3 22 && (okR 3 23 && (okR 3 24))))))))))))))))))))))))) = true := by kernel_rfl
theorem tx_3_1 : (okR 3 25 && (okR 3 26 && (okR 3 27 && (okR 3 28 && (okR 3 29 && (okR 3 30 && (okR 3 31 && (okR 3 32 && (okR 3 33 && (okR 3 34 && (okR 3 35 && (okR 3 36 && (okR 3 37 && (okR 3 38 && (okR 3 39 && (okR 3 40 && (okR 3 41 && (okR 3 42 && (okR 3 43 && (okR 3 44 && (okR 3 45 && (okR 3 46 && (okR 3 47 && (okR 3 48 && (okR 3 49))))))))))))))))))))))))) = true := by kernel_rfl
end Go.Proofs.YtieiopaobipdoaaGreatDoor.HM
