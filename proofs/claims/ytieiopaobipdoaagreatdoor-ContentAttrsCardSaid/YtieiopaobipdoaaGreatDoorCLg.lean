/- fleuronref1.Lower of any text. -/
import Derived.Test.YtieiopaobipdoaaGreatDoorCLb
import Derived.Laws.IdiomStrings
namespace Go.Proofs.YtieiopaobipdoaaGreatDoor.Dom
open Go Go.RowKit Num

def Low1 (s : ByteArray) (B z : Nat) (W : World) (s4 : Value) (wr : World) : Prop :=
  ∃ k : Nat, k ≤ s.size ∧ s4 = .int .i64 (k : Int) ∧ Below B W wr ∧ ∃ cs, wr.heap[B]? = some (.cells cs 5 (z, z + 1)) ∧ s.size ≤ z ∧ s.size ≤ cs.size ∧ ∀ j (h : j < s.size), cs[j]? = some (.int .u8 ((if j < k then lowB s[j] else s[j]).toNat : Int))
theorem frozen_not {w : World} {b z : Nat} {cs : Array Value} {T : TypeId} (hb : w.heap[b]? = some (.cells cs T (z, z + 1))) (j : Nat) (h : j < z) : w.frozen? ⟨b, j, none⟩ = false := by
  simp only [World.frozen?, hb]
  simp; omega
theorem lowB_hit {c : UInt8} (h1 : 65 ≤ c.toNat) (h2 : c.toNat ≤ 90) : (c.toNat : Int) + 32 = ((lowB c).toNat : Int) := by
  unfold lowB
  rw [if_pos ⟨h1, h2⟩]
  have : (UInt8.ofNat (c.toNat + 32)).toNat = c.toNat + 32 := by
    show (c.toNat + 32) % 256 = _
    omega
  rw [this]; rfl
theorem lowB_miss {c : UInt8} (h : ¬ (65 ≤ c.toNat ∧ c.toNat ≤ 90)) : lowB c = c := by
  unfold lowB; rw [if_neg h]
theorem low_step (s : ByteArray) (k : Nat) (hk : k < s.size) (cs : Array Value) (hz : s.size ≤ cs.size) (h : ∀ j (h : j < s.size), cs[j]? = some (.int .u8 ((if j < k then lowB s[j] else s[j]).toNat : Int))) :
    ∀ j (h : j < s.size), (cs.setIfInBounds k (.int .u8 ((lowB s[k]).toNat : Int)))[j]? = some (.int .u8 ((if j < k + 1 then lowB s[j] else s[j]).toNat : Int)) := by
  intro j hj
  rw [Array.getElem?_setIfInBounds]
  by_cases e : k = j
  · subst e
    rw [if_pos rfl, if_pos (by omega), if_pos (by omega)]
  · rw [if_neg e, h j hj]
    by_cases hjk : j < k
    · rw [if_pos hjk, if_pos (by omega)]
    · rw [if_neg hjk, if_neg (by omega)]
theorem low_stay (s : ByteArray) (k : Nat) (hk : k < s.size) (cs : Array Value) (hm : lowB s[k] = s[k]) (h : ∀ j (h : j < s.size), cs[j]? = some (.int .u8 ((if j < k then lowB s[j] else s[j]).toNat : Int))) :
    ∀ j (h : j < s.size), cs[j]? = some (.int .u8 ((if j < k + 1 then lowB s[j] else s[j]).toNat : Int)) := by
  intro j hj
  rw [h j hj]
  by_cases e : j = k
  · subst e; rw [if_neg (by omega), if_pos (by omega), hm]
  · by_cases hjk : j < k
    · rw [if_pos hjk, if_pos (by omega)]
    · rw [if_neg hjk, if_neg (by omega)]
set_option maxRecDepth 100000 in
set_option maxHeartbeats 2000000 in
theorem lower1 (s : ByteArray) (w : World) (hs : s.size ≤ 1000000) : Calls Tryz.prog 19 #[.string s] w fun e w' => e = .returned (.string (lowS s)) ∧ Below w.heap.size w w' := by
  have hcv := run_bytes_of_string (P := Tryz.prog) w 9 26 5 s Tryz.underlying9 Tryz.underlying26 Tryz.underlying5
  obtain ⟨cap, hcap⟩ : ∃ cap, grownCap w s.size 0 5 = cap := ⟨_, rfl⟩
  rw [hcap] at hcv
  obtain ⟨z, hz⟩ : ∃ z, (bytesRow s cap).size = z := ⟨_, rfl⟩
  have hzs : s.size ≤ z := by rw [← hz]; unfold bytesRow; simp
  have hzs2 : s.size ≤ (bytesRow s cap).size := by rw [hz]; exact hzs
  have hh : (w.drew.alloc (.cells (bytesRow s cap) 5 (z, z + 1))).heap[w.heap.size]? = some (.cells (bytesRow s cap) 5 (z, z + 1)) := by
    show (w.heap.push _)[w.heap.size]? = _
    simp
  have hrow : ∀ j (h : j < s.size), (bytesRow s cap)[j]? = some (.int .u8 ((if j < 0 then lowB s[j] else s[j]).toNat : Int)) := fun j hj => by
    rw [bytesRow_at s _ j hj, if_neg (by omega)]; rfl
  have hB : Below w.heap.size w (w.drew.alloc (.cells (bytesRow s cap) 5 (z, z + 1))) := (Below.drew (Below.refl _ w)).alloc (Nat.le_refl _) _
  rw [hz] at hcv
  have HH := Lib.hid hh
  have HR := Lib.hid hrow
  have HB := Lib.hid hB
  have HZ2 := Lib.hid hzs2
  clear hz hh hrow hB hcap hzs2
  go_enter Tryz.func19, Tryz.ntmps19
  go_wp2
  clear hcv
  go_loopw [4] (fun x4 wr => Low1 s w.heap.size z w x4 wr) (fun x4 _ => s.size - (intOf x4).toNat)
  case atStart => exact ⟨0, Nat.zero_le _, rfl, HB.out, _, HH.out, hzs, HZ2.out, HR.out⟩
  case round =>
    clear HH HR HB HZ2
    obtain ⟨k, hk, rfl, BW, cs, hh, _, hcs, hrow⟩ := hrel
    by_cases hlt : k < s.size
    · have hc : wr.cell? ⟨w.heap.size, k, none⟩ = some (.int .u8 (s[k].toNat : Int)) := by
        rw [Lib.cell_of_heap hh, hrow k hlt, if_neg (by omega)]
      have hf : wr.frozen? ⟨w.heap.size, k, none⟩ = false := frozen_not hh k (by omega)
      have hb : s[k].toNat < 256 := s[k].toNat_lt
      have HH := Lib.hid hh
      have HW := Lib.hid BW
      have HR := Lib.hid hrow
      clear hh BW hrow
      by_cases h1 : 65 ≤ s[k].toNat ∧ s[k].toNat ≤ 90
      · obtain ⟨h1, h2⟩ := h1
        have HE := Lib.hid (lowB_hit h1 h2)
        go_wp2
        go_roundw
        case rel => exact ⟨k + 1, by omega, by go_num, HW.out.setCell (Nat.le_refl _) _, _, set_heap HH.out k _, hzs, by simpa using hcs, by rw [HE.out]; exact low_step s k hlt cs hcs HR.out⟩
        case measure => simp [intOf]; omega
      · have HE := Lib.hid (lowB_miss h1)
        by_cases h2 : 65 ≤ s[k].toNat
        all_goals
          go_wp2
          go_roundw
          case rel => exact ⟨k + 1, by omega, by go_num, HW.out, _, HH.out, hzs, hcs, low_stay s k hlt cs HE.out HR.out⟩
          case measure => simp [intOf]; omega
    · obtain rfl : k = s.size := by omega
      have hl : (lowL s.data.toList).length = s.size := by unfold lowL; simp
      have hbk := run_convert_bytes_back (P := Tryz.prog) wr 26 9 5 ⟨w.heap.size, 0, none⟩ cap (lowL s.data.toList) Tryz.underlying26 Tryz.underlying5 Tryz.underlying9 (fun j hj => by
        have hj' : j < s.size := by omega
        have e : (⟨w.heap.size, 0, none⟩ : Addr).add j = ⟨w.heap.size, j, none⟩ := by
          unfold Addr.add
          split
          · rename_i h; subst h; rfl
          · simp
        rw [e, Lib.cell_of_heap hh, hrow j hj', if_pos hj']
        simp only [lowL, List.getElem_map]
        rfl)
      rw [hl] at hbk
      have HW := Lib.hid BW
      clear hh BW hrow hl
      go_wp2
      go_ret
      exact ⟨rfl, HW.out⟩
end Go.Proofs.YtieiopaobipdoaaGreatDoor.Dom
