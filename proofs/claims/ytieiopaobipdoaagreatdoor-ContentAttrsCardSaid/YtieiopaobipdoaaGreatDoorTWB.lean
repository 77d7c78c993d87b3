/- fleuronlaw18.ContentCuts returns true for all arguments, and leaves what was there. -/
import Derived.Test.YtieiopaobipdoaaGreatDoorTW
import Derived.Test.YtieiopaobipdoaaGreatDoorTGE
import Derived.Test.YtieiopaobipdoaaGreatDoorPE
namespace Go.Proofs.YtieiopaobipdoaaGreatDoor.Cut
open Go Go.RowKit
theorem tabs_move {W w' : World} (h : HM.Tabs W) (hb : Below W.heap.size W w') : HM.Tabs w' := by
  letI : HM.Amb := HM.Amb.none
  obtain ⟨arr, el, fr, h1, h2, _⟩ := HM.tab_at HM.gNameS h
  unfold HM.Tabs Lib.TabIs World.var? at *
  rw [HM.gNameS, Option.bind_some] at *
  rw [hb.block _ h2]
  exact h
theorem awk {W : World} (hT : HM.Tabs W) : Awk W := fun w hb => by
  letI : HM.Amb := HM.Amb.none
  exact HM.awake_c (tabs_move hT hb)
theorem cuts_card (n : Int) (g : ByteArray) (t : Int) {W : World} (hT : HM.Tabs W) : GoodC n g t W := cuts_all n g t (awk hT)
end Go.Proofs.YtieiopaobipdoaaGreatDoor.Cut
