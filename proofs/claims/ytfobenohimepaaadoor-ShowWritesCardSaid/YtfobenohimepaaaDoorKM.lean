/- fleuronref15.words. -/
import Derived.Test.YtfobenohimepaaaDoorKN
import Derived.Test.YtfobenohimepaaaDoorKO
namespace Go.Proofs.YtfobenohimepaaaDoor.Num
open Go Go.RowKit
def wordsO : Obj := .cells (wordL.map fun l => Value.string ⟨l.toArray⟩).toArray 9
set_option maxRecDepth 100000 in
theorem words_run (w : World) : Calls Tryd.prog 22 #[] w fun e w' => e = .returned (.slice (some ⟨w.heap.size, 0, none⟩) 6 6) ∧ w' = w.alloc wordsO := by
  go_enter Tryd.func22, Tryd.ntmps22
  go_wp2
  go_ret
  exact ⟨rfl, rfl⟩
theorem words_cell (W : World) (k : Nat) (h : k < 6) : (W.alloc wordsO).cell? ⟨W.heap.size, k, none⟩ = some (.string ⟨(wordL.getD k []).toArray⟩) := by
  rw [wordsO, World.cell?_alloc_new]
  match k with
  | 0 => rfl
  | 1 => rfl
  | 2 => rfl
  | 3 => rfl
  | 4 => rfl
  | 5 => rfl
end Go.Proofs.YtfobenohimepaaaDoor.Num
