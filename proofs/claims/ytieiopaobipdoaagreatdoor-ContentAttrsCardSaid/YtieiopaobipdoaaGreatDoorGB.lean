/- slices.Backward over a slice of ints, and system.chosen: the signs at places, the last place first. -/
import Derived.Test.YtieiopaobipdoaaGreatDoorGK
import Derived.Test.YtieiopaobipdoaaGreatDoorGL
import Derived.RangeFuncNested
import Derived.RangeFuncBound
import Derived.RangeFuncCalls
import Derived.RangeFuncLeaves
import Derived.Shelf.Abstract
import Derived.Shelf.RegionOpen
import Derived.WalkKit
import Derived.OwnWalkIn
import Derived.TacticsInMore
import Derived.LoopNIn
import Derived.LoopIn
import Derived.Lib.Hide
namespace Go.Proofs.YtieiopaobipdoaaGreatDoor.Num
open Go Go.RowKit Go.Shelf Go.Proofs
attribute [local go_sem] Oper.semAt_some
def upto {α : Type} (f : Nat → α) (k : Nat) : List α := (List.range k).map f
theorem upto_succ {α : Type} (f : Nat → α) (k : Nat) : upto f (k + 1) = upto f k ++ [f k] := by simp [upto, List.range_succ]
theorem upto_length {α : Type} (f : Nat → α) (k : Nat) : (upto f k).length = k := by simp [upto]
def bk (zs : List Nat) (len j : Nat) : Nat × Nat := (len - 1 - j, zs[len - 1 - j]?.getD 0)
theorem upto_bk (zs : List Nat) : (upto (bk zs zs.length) zs.length).map (·.2) = zs.reverse := by
  apply List.ext_getElem
  · simp [upto]
  · intro i h1 h2
    have h3 : i < zs.length := by simpa [upto] using h1
    have h4 : zs.length - 1 - i < zs.length := by omega
    simp [upto, bk, h4]
set_option maxRecDepth 100000 in
set_option maxHeartbeats 2000000 in
theorem back1_in {α : Type} (enc : α → Nat × Nat) (f : Nat → α) (n : Nat) (hn : 1 ≤ n) (l Bs B2 bb b off len cap : Nat) (zs : List Nat) (hreach : len ≤ 1000) (hB1 : Bs < B2) (hB3 : Bs ≠ bb) (hb1 : b < B2) (hb2 : b ≠ bb) (hf : ∀ j, j < len → enc (f j) = bk zs len j) (J Jx : List α → World → Prop)
    (hY : ∀ pre x W, J pre W → pre.length < len → YieldAt Fence.wide (n - 1) Tryz.prog l #[.int .i64 ((enc x).1 : Int), .int .i64 ((enc x).2 : Int)] W fun e W' =>
      (e = .returned (.bool true) ∧ J (pre ++ [x]) W' ∧ KpB B2 bb W W') ∨ (e = .returned (.bool false) ∧ Jx (pre ++ [x]) W'))
    (W : World) (hBs : W.cell? ⟨Bs, 0, none⟩ = some (.slice (some ⟨b, off, none⟩) len cap)) (hc : ∀ j, j < len → W.cell? ⟨b, off + j, none⟩ = some (.int .i64 ((zs[j]?.getD 0 : Nat) : Int))) (h0 : J [] W) :
    CallsIn Fence.wide n Tryz.prog 136 #[.func (.yield l) #[] #[], .pointer (some ⟨Bs, 0, none⟩)] W fun e W' => (∃ v, e = .returned v) ∧
      ((∃ ys, ys = upto f len ∧ J ys W') ∨ (∃ pre, (∃ k, k ≤ len ∧ pre = upto f k) ∧ Jx pre W')) := by
  refine callsIn_of_wp Tryz.func136 rfl trivial ?_ rfl
  simp only [Tryz.ntmps136, List.size_toArray, List.length_cons, List.length_nil, Nat.reduceAdd, Nat.reduceSub, Array.replicate_succ, Array.replicate_zero, List.push_toArray, List.append_toArray, List.nil_append, List.cons_append]
  gi_wp2
  gi_loopw [3] (fun i wr => ∃ m : Nat, m ≤ len ∧ i = .int .i64 ((m : Int) - 1) ∧ J (upto f (len - m)) wr ∧ KpB B2 bb W wr)
    (fun i _ => (intOf i + 1).toNat)
  case atStart => exact ⟨len, Nat.le_refl _, rfl, by rw [Nat.sub_self]; exact h0, KpB.refl _ _ _⟩
  case round =>
    obtain ⟨m, hm, rfl, hJs, hnx⟩ := hrel
    have hbs' : wr.cell? ⟨Bs, 0, none⟩ = some (.slice (some ⟨b, off, none⟩) len cap) := (hnx.cell (p := ⟨Bs, 0, none⟩) hB1 hB3).trans hBs
    rcases m with _ | m
    · have e0 : ((0 : Nat) : Int) - 1 = -1 := rfl
      rw [e0]
      gi_wp2
      go_end0
      exact ⟨⟨_, rfl⟩, .inl ⟨_, rfl, by rw [Nat.sub_zero] at hJs; exact hJs⟩⟩
    · have hcx : wr.cell? ⟨b, off + m, none⟩ = some (.int .i64 ((zs[m]?.getD 0 : Nat) : Int)) := (hnx.cell (p := ⟨b, off + m, none⟩) hb1 hb2).trans (hc m (by omega))
      have ek : enc (f (len - (m + 1))) = (m, zs[m]?.getD 0) := by rw [hf _ (by omega)]; unfold bk; rw [show len - 1 - (len - (m + 1)) = m by omega]
      have el : len - m = len - (m + 1) + 1 := by omega
      obtain ⟨fn, tmps, assign, body, hy, hR⟩ := hY _ (f (len - (m + 1))) wr hJs (by rw [upto_length]; omega)
      rw [ek] at hy
      have e0 : ((m + 1 : Nat) : Int) - 1 = (m : Int) := by omega
      rw [e0]
      have HL := Lib.hid el
      have HS := Lib.hid hbs'
      clear ek el e0 hf hY hc
      have hlt : m < len := by omega
      gi_wp2
      refine hR.mono ?_
      rintro e W3 (⟨rfl, hJ3, hk3⟩ | ⟨rfl, hJx3⟩)
      · have hbs3 : W3.cell? ⟨Bs, 0, none⟩ = some (.slice (some ⟨b, off, none⟩) len cap) := (hk3.cell (p := ⟨Bs, 0, none⟩) hB1 hB3).trans hbs'
        gi_wp2
        go_roundw
        case rel => exact ⟨m, by omega, rfl, by rw [HL.out, upto_succ]; exact hJ3, hnx.trans hk3⟩
        case measure => simp [intOf]
      · gi_wp2
        refine bodyPost_ret (results_none rfl _ _ _) rfl ?_
        exact ⟨⟨_, rfl⟩, .inr ⟨_, ⟨len - (m + 1) + 1, by omega, by rw [upto_succ]⟩, hJx3⟩⟩
set_option maxHeartbeats 1000000 in
theorem back_in (n : Nat) (a : Option Addr) (len cap : Nat) (w : World) :
    CallsIn Fence.wide n Tryz.prog 122 #[.slice a len cap] w fun e w' => e = .returned (.func (.func 136) #[] #[.pointer (some ⟨w.heap.size, 0, none⟩)]) ∧ w' = w.alloc (.cells #[.slice a len cap] 55) := by
  refine callsIn_of_wp Tryz.func122 rfl trivial ?_ rfl
  simp only [Tryz.ntmps122, List.size_toArray, List.length_cons, List.length_nil, Nat.reduceAdd, Nat.reduceSub, Array.replicate_succ, Array.replicate_zero, List.push_toArray, List.append_toArray, List.nil_append, List.cons_append]
  gi_wp2
  go_ret
  exact ⟨rfl, rfl⟩
abbrev Pl (sn : Nat) := { x : Nat × Nat // x.2 < sn }
def bkS (sn : Nat) (h : 0 < sn) (zs : List Nat) (len j : Nat) : Pl sn := if g : (bk zs len j).2 < sn then ⟨bk zs len j, g⟩ else ⟨(0, 0), h⟩
theorem bkS_val (sn : Nat) (h : 0 < sn) (zs : List Nat) (hz : ∀ d ∈ zs, d < sn) (j : Nat) (hj : j < zs.length) : (bkS sn h zs zs.length j).1 = bk zs zs.length j := by
  have h4 : zs.length - 1 - j < zs.length := by omega
  unfold bkS
  rw [dif_pos]
  show (zs[zs.length - 1 - j]?.getD 0) < sn
  rw [List.getElem?_eq_getElem h4]
  exact hz _ (List.getElem_mem _)
def cat {sn : Nat} (syms : List (List UInt8)) (pre : List (Pl sn)) : List UInt8 := pre.flatMap fun x => syms.getD x.1.2 []
theorem cat_snoc {sn : Nat} (syms : List (List UInt8)) (pre : List (Pl sn)) (x : Pl sn) : cat syms (pre ++ [x]) = cat syms pre ++ syms.getD x.1.2 [] := by simp [cat]
theorem cat_all (sn : Nat) (h : 0 < sn) (syms : List (List UInt8)) (zs : List Nat) (hz : ∀ d ∈ zs, d < sn) : cat syms (upto (bkS sn h zs zs.length) zs.length) = Reg.chS syms zs := by
  have e : (upto (bkS sn h zs zs.length) zs.length).map (fun x => x.1) = upto (bk zs zs.length) zs.length := by
    unfold upto
    rw [List.map_map]
    apply List.map_congr_left
    intro j hj
    exact bkS_val sn h zs hz j (List.mem_range.1 hj)
  have e2 : cat syms (upto (bkS sn h zs zs.length) zs.length) = ((upto (bkS sn h zs zs.length) zs.length).map (fun x => x.1)).flatMap fun x => syms.getD x.2 [] := by
    unfold cat; rw [List.flatMap_map]
  rw [e2, e]
  have e3 : (upto (bk zs zs.length) zs.length).flatMap (fun x => syms.getD x.2 []) = ((upto (bk zs zs.length) zs.length).map (·.2)).flatMap fun p => syms.getD p [] := by rw [List.flatMap_map]
  rw [e3, upto_bk]; rfl
theorem cat_len {sn : Nat} (syms : List (List UInt8)) (hb : ∀ s ∈ syms, s.length ≤ 1000) : ∀ pre : List (Pl sn), (cat syms pre).length ≤ 1000 * pre.length
  | [] => by simp [cat]
  | x :: r => by
    have h := cat_len syms hb r
    have e : cat syms (x :: r) = syms.getD x.1.2 [] ++ cat syms r := by simp [cat]
    have h2 : (syms.getD x.1.2 []).length ≤ 1000 := by
      rw [List.getD]
      cases hx : syms[x.1.2]? with
      | none => simp
      | some s => exact hb s (List.mem_of_getElem? hx)
    rw [e, List.length_append, List.length_cons]; omega
def Rnd (n₀ B2 b : Nat) {sn : Nat} (syms : List (List UInt8)) (len : Nat) (sv : Value) (sb so : Nat) (w0 : World) (pre : List (Pl sn)) (W : World) : Prop :=
  Bld B2 b (Lib.byteCells (cat syms pre)) W ∧ (pre.length ≤ len ∧ (W.cell? ⟨n₀, 3, none⟩ = some sv ∧ (∀ j, j < sn → W.cell? ⟨sb, so + j, none⟩ = some (.string ⟨(syms.getD j []).toArray⟩)) ∧ Below n₀ w0 W))
theorem Rnd.own (n₀ B2 b sn : Nat) (syms : List (List UInt8)) (len : Nat) (sv : Value) (sb so : Nat) (w0 : World) (hn : n₀ ≤ w0.heap.size) (hB : n₀ ≤ B2) : OwnFrom B2 (Rnd n₀ B2 b (sn := sn) syms len sv sb so w0) := by
  unfold Rnd
  refine OwnFrom.and (fun s A C row hs hg hr => hs.kept hg fun r e => (hr r e).2) (OwnFrom.and (ownFrom_pure _ _) (OwnFrom.and (Own.from (fun s A C row hs hg hr => cell_kept hs hg hr) _) (OwnFrom.and ?_ (ownFrom_below hn hB))))
  refine Own.from ?_ _
  intro s A C row hs hg hr j hj
  exact cell_kept (hs j hj) hg hr
set_option maxRecDepth 100000 in
set_option maxHeartbeats 4000000 in
theorem chosen_in (D : Array Value) (sb so sn sc b off cap : Nat) (syms : List (List UInt8)) (zs : List Nat) (w : World) (hD : D[3]? = some (.slice (some ⟨sb, so, none⟩) sn sc)) (hsb : sb < w.heap.size)
    (hs : ∀ j, j < sn → w.cell? ⟨sb, so + j, none⟩ = some (.string ⟨(syms.getD j []).toArray⟩)) (hsl : ∀ s ∈ syms, s.length ≤ 1000) (hb : b < w.heap.size) (hl : zs.length ≤ 60) (h0 : 0 < sn) (_hsn : sn ≤ 1000)
    (hz : ∀ d ∈ zs, d < sn) (hc : ∀ j, j < zs.length → w.cell? ⟨b, off + j, none⟩ = some (.int .i64 ((zs[j]?.getD 0 : Nat) : Int))) :
    Calls Tryz.prog 91 #[.agg D, .slice (some ⟨b, off, none⟩) zs.length cap] w fun e w' => e = .returned (.tuple #[.string ⟨(Reg.chS syms zs).toArray⟩, .bool true]) ∧ Below w.heap.size w w' := by
  obtain ⟨len, hlen⟩ : ∃ len, zs.length = len := ⟨_, rfl⟩
  have HZ : Hid (∀ d ∈ zs, d < sn) := Lib.hid hz
  have HC : Hid (∀ j, j < zs.length → w.cell? ⟨b, off + j, none⟩ = some (.int .i64 ((zs[j]?.getD 0 : Nat) : Int))) := Lib.hid hc
  have HS : Hid (∀ j, j < sn → w.cell? ⟨sb, so + j, none⟩ = some (.string ⟨(syms.getD j []).toArray⟩)) := Lib.hid hs
  have HL : Hid (zs.length = len) := Lib.hid hlen
  have HD : Hid (D[3]? = some (.slice (some ⟨sb, so, none⟩) sn sc)) := Lib.hid hD
  rw [hlen] at hl ⊢
  clear hz hc hs hlen hD
  refine (callsIn_wide (n := 5)).1 ?_
  refine callsIn_of_wp_marks Tryz.func91 rfl trivial ?_ rfl
  simp only [Tryz.ntmps91, List.size_toArray, List.length_cons, List.length_nil, Nat.reduceAdd, Nat.reduceSub, Array.replicate_succ, Array.replicate_zero, List.push_toArray, List.append_toArray, List.nil_append, List.cons_append]
  have hd60 : decide ((60 : Int) < (len : Int)) = false := by simp; omega
  gi_wp2_with (refine ⟨trivial, ?_⟩; gi_at_call 122; refine (back_in _ _ _ _ _).mono ?_; rintro e w' ⟨rfl, rfl⟩)
  have hsz : (((w.alloc (.cells D 75)).alloc (.cells #[.pointer none, .slice none 0 0] 92)).alloc (.cells #[.slice (some ⟨b, off, none⟩) len cap] 55)).heap.size = w.heap.size + 1 + 1 + 1 := by simp
  have hb0 : Bld (w.heap.size + 1 + 1 + 1) (w.heap.size + 1) [] (((w.alloc (.cells D 75)).alloc (.cells #[.pointer none, .slice none 0 0] 92)).alloc (.cells #[.slice (some ⟨b, off, none⟩) len cap] 55)) := by
    have h1 := Bld.new (w.alloc (.cells D 75))
    rw [World.size_alloc] at h1
    refine h1.alloc (by simp) ⟨_, ?_, .inl rfl⟩ _
    have := heap_alloc_new (w.alloc (.cells D 75)) (.cells #[.pointer none, .slice none 0 0] 92)
    rwa [World.size_alloc] at this
  have hB3 : Below w.heap.size w (((w.alloc (.cells D 75)).alloc (.cells #[.pointer none, .slice none 0 0] 92)).alloc (.cells #[.slice (some ⟨b, off, none⟩) len cap] 55)) := (((Below.refl _ w).alloc (Nat.le_refl _) _).alloc (by simp) _).alloc (by simp; omega) _
  have hcs : (((w.alloc (.cells D 75)).alloc (.cells #[.pointer none, .slice none 0 0] 92)).alloc (.cells #[.slice (some ⟨b, off, none⟩) len cap] 55)).cell? ⟨w.heap.size + 1 + 1, 0, none⟩ = some (.slice (some ⟨b, off, none⟩) len cap) := by
    have := Lib.cell_of_heap (heap_alloc_new ((w.alloc (.cells D 75)).alloc (.cells #[.pointer none, .slice none 0 0] 92)) (.cells #[.slice (some ⟨b, off, none⟩) len cap] 55)) 0
    simpa using this
  have hcd : (((w.alloc (.cells D 75)).alloc (.cells #[.pointer none, .slice none 0 0] 92)).alloc (.cells #[.slice (some ⟨b, off, none⟩) len cap] 55)).cell? ⟨w.heap.size, 3, none⟩ = some (.slice (some ⟨sb, so, none⟩) sn sc) := by
    rw [World.cell?_alloc_lt _ _ _ (by simp; omega), World.cell?_alloc_lt _ _ _ (by simp), Lib.cell_of_heap (heap_alloc_new w _)]
    exact HD.out
  obtain ⟨W3, hW3⟩ : ∃ W3, ((w.alloc (.cells D 75)).alloc (.cells #[.pointer none, .slice none 0 0] 92)).alloc (.cells #[.slice (some ⟨b, off, none⟩) len cap] 55) = W3 := ⟨_, rfl⟩
  rw [hW3] at hsz hb0 hB3 hcs hcd ⊢
  have HW3 := Lib.hid hW3
  have HZ3 := Lib.hid hsz
  clear hW3
  have hP0 : Rnd w.heap.size (w.heap.size + 1 + 1 + 1) (w.heap.size + 1) (sn := sn) syms len (.slice (some ⟨sb, so, none⟩) sn sc) sb so w [] W3 := ⟨hb0, Nat.zero_le _, hcd, fun j hj => (hB3.cell (p := ⟨sb, so + j, none⟩) hsb).trans (HS.out j hj), hB3⟩
  refine wpIn_rangeFunc_ownG rfl (by omega) (gf := 136) (lb := #[.pointer (some ⟨w.heap.size + 1 + 1, 0, none⟩)]) rfl trivial (enters_of Tryz.func136 (by kernel_rfl) rfl)
    (encs := fun x : Pl sn => #[.int .i64 (x.1.1 : Int), .int .i64 (x.1.2 : Int)]) (Kp := KpB (w.heap.size + 1 + 1 + 1) (w.heap.size + 1)) (S := fun ys => ys = upto (bkS sn h0 zs len) len) (Sp := fun pre => ∃ k, k ≤ len ∧ pre = upto (bkS sn h0 zs len) k) (N := len) (w0 := W3) ?seq
    (fun h k => h.trans k) (fun W l o o' hl _ _ _ => KpB.put o' (by rw [← hsz]; exact hl)) (Below.refl _ _) (fun _ => rfl)
    (Rnd w.heap.size (w.heap.size + 1 + 1 + 1) (w.heap.size + 1) (sn := sn) syms len (.slice (some ⟨sb, so, none⟩) sn sc) sb so w) (fun _ _ _ => False)
    (by rw [hsz]; exact Rnd.own _ _ _ _ _ _ _ _ _ _ (Nat.le_refl _) (by omega)) (fun _ _ _ _ _ hs _ _ => hs) hP0
    (fun x => { tmps := #[Value.agg D, Value.slice (some { block := b, off := off }) len cap,
          Value.pointer (some { block := w.heap.size, off := 0 }), undef, Value.string { data := #[] },
          Value.bool false, Value.pointer (some { block := w.heap.size + 1, off := 0 }), undef, .int .i64 (x.1.2 : Int),
          Value.slice (some { block := b, off := off }) len cap, Value.int IntKind.i64 ↑len, Value.bool false,
          Value.slice (some { block := b, off := off }) len cap,
          Value.func (Fn.func 136) #[] #[Value.pointer (some { block := w.heap.size + 1 + 1, off := 0 })], .int .i64 (x.1.1 : Int), .int .i64 (x.1.2 : Int),
          undef, undef, undef, undef, undef, undef, undef], defers := [] }) ?assign ?body ?done ?stop
  case seq =>
    intro l J Jx W hW _ _ hY h0'
    rw [HZ3.out] at hW
    refine back1_in (fun x : Pl sn => x.1) (bkS sn h0 zs len) _ (by omega) l (w.heap.size + 1 + 1) (w.heap.size + 1 + 1 + 1) (w.heap.size + 1) b off len cap zs (by omega) (by omega) (by omega) (by omega) (by omega) (fun j hj => ?_) J Jx hY W ?_ ?_ h0'
    · rw [← HL.out] at hj ⊢; exact bkS_val sn h0 zs HZ.out j hj
    · exact (hW.cell (p := ⟨w.heap.size + 1 + 1, 0, none⟩) (by show w.heap.size + 1 + 1 < _; omega)).trans hcs
    · intro j hj
      exact ((hW.cell (p := ⟨b, off + j, none⟩) (by show b < _; omega)).trans (hB3.cell (p := ⟨b, off + j, none⟩) hb)).trans (HC.out j (by rw [HL.out]; exact hj))
  case assign =>
    intro l x W K hK
    gi_wp2
    exact hK
  case body =>
    rintro l pre x W ⟨hbl, hpl, hd, hsy, hbw⟩ hlt
    have hx := x.2
    have hxc := hsy x.1.2 hx
    have hcl := cat_len syms hsl pre
    have hwr := writeB _ _ _ (⟨(syms.getD x.1.2 []).toArray⟩ : ByteArray) W hbl (by
      have h2 : (syms.getD x.1.2 []).length ≤ 1000 := by
        rw [List.getD]
        cases hx : syms[x.1.2]? with
        | none => simp
        | some s => exact hsl s (List.mem_of_getElem? hx)
      rw [Lib.byteCells_length]
      show _ + (syms.getD x.1.2 []).toArray.size ≤ _
      rw [List.size_toArray]
      omega)
    have HSY := Lib.hid hsy
    have HSL := Lib.hid hsl
    clear hsy hsl hcl
    gi_wp2_with (refine ⟨trivial, ?_⟩; gi_at_call 27; refine (CallsIn.inRound l (callsIn_wide.2 hwr)).mono ?_; rintro e W' ⟨rfl, hbl', hk', ho'⟩)
    rw [hsz]
    refine ⟨ho'.from _, hk', ?_, by simp; omega, (hk'.cell (p := ⟨w.heap.size, 3, none⟩) (by show w.heap.size < _; omega) (by show w.heap.size ≠ _; omega)).trans hd, fun j hj => (hk'.cell (p := ⟨sb, so + j, none⟩) (by show sb < _; omega) (by show sb ≠ _; omega)).trans (HSY.out j hj), hbw.trans (hk'.below (by omega) (by omega))⟩
    rw [cat_snoc, Lib.byteCells_append]; exact hbl'
  case done =>
    rintro K2 ys W hK rfl ⟨hbl, _, _, _, hbw⟩ hK2
    have hca : cat syms (upto (bkS sn h0 zs len) len) = Reg.chS syms zs := by rw [← HL.out]; exact cat_all sn h0 syms zs HZ.out
    rw [hca] at hbl
    have hst := str_any _ _ _ W hbl.is (by have := hbl.2.1; omega)
    have HB := Lib.hid hbl
    clear hbl hca
    gi_wp2_with (refine ⟨trivial, ?_⟩; gi_at_call 28; refine (callsIn_wide.2 hst).mono ?_; rintro e W' ⟨rfl, hB', hO'⟩)
    have hK3 := hO'.same K2 _ hK2 rfl
    refine ⟨by simp, .inl ⟨_, _, rfl, run_takeDeferred hK3, ?_⟩⟩
    have hb4 : Below w.heap.size w W' := hbw.trans (hB'.mono (by omega))
    rw [hsz] at hK
    refine ⟨.tuple #[.string ⟨(Reg.chS syms zs).toArray⟩, .bool true], ?_, rfl, hb4.trans (belowK_b (w := w) (Nat.le_refl _) W' K2 _ _ (by omega) hK3 rfl rfl)⟩
    simp [results, Tryz.results91, go_sem]
  case stop =>
    rintro D c pre W hD _ h _
    exact h.elim
end Go.Proofs.YtieiopaobipdoaaGreatDoor.Num
