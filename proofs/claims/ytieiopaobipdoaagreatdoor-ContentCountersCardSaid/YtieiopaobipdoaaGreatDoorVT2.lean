/- Runs of Text. -/
import Derived.Test.YtieiopaobipdoaaGreatDoorVT
namespace Go.Proofs.YtieiopaobipdoaaGreatDoor.HM
open Go Go.RowKit
theorem tx_2_0 : (okR 2 0 && (okR 2 1 && (okR 2 2 && (okR 2 3 && (okR 2 4 && (okR 2 5 && (okR 2 6 && (okR 2 7 && (okR 2 8 && (okR 2 9 && (okR 2 10 && (okR 2 11 && (okR 2 12 && (okR 2 13 && (okR 2 14 && (okR 2 15 && (okR 2 16 && (okR 2 17 && (okR 2 18 && (okR 2 19 && (okR 2 20 && (okR 2 21 && (okR 2 22 && (okR 2 23 && (okR 2 24))))))))))))))))))))))))) = true := by kernel_rfl
theorem tx_2_1 : (okR 2 25 && (okR 2 26 && (okR 2 27 && (okR 2 28 && (okR 2 29 && (okR 2 30 && (okR 2 31 && (okR 2 32 && (okR 2 33 && (okR 2 34 && (okR 2 35 && (okR 2 36 && (okR 2 37 && (okR 2 38 && (okR 2 39 && (okR 2 40 && (okR 2 41 && (okR 2 42 && (okR 2 43 && (okR 2 44 && (okR 2 45 && (okR 2 46 && (okR 2 47 && (okR 2 48 && (okR 2 49))))))))))))))))))))))))) = true := by kernel_rfl
end Go.Proofs.YtieiopaobipdoaaGreatDoor.HM
