/- content.One of the law's counters. -/
import Derived.Test.YtieiopaobipdoaaGreatDoorVS
import Derived.Test.YtieiopaobipdoaaGreatDoorVA
import Derived.Test.YtieiopaobipdoaaGreatDoorVJ
import Derived.Test.YtieiopaobipdoaaGreatDoorTWB
import Derived.LoopTactic
import Derived.WalkKit
import Derived.ProofKit
import Derived.OpenShut
import Derived.Lib.Hide
import Derived.BigCall
namespace Go.Proofs.YtieiopaobipdoaaGreatDoor.Cnt
open Go Go.RowKit HM
variable [E : Amb]
omit [E : Amb] in
theorem bcell {W w1 : World} (hb : Below W.heap.size W w1) : (∀ b o, b < W.heap.size → w1.cell? ⟨b, o, none⟩ = W.cell? ⟨b, o, none⟩) ∧ (∀ b o, b < W.heap.size → w1.frozen? ⟨b, o, none⟩ = W.frozen? ⟨b, o, none⟩) :=
  ⟨fun b o h => hb.cell (p := ⟨b, o, none⟩) h, fun b o h => hb.frozen (p := ⟨b, o, none⟩) h⟩
structure TxOk (st : ByteArray) (T : Nat → List UInt8) (W : World) (a : Addr) : Prop where
  call : ∀ n : Nat, n < 50 → ∀ S w, RegH S W a w → Calls Tryz.prog 16 #[.pointer (some a), .string st, .int .i64 (n : Int)] w (TextE S W a (T n) w)
  len : ∀ n : Nat, n < 50 → (T n).length ≤ 100
def OneE (S : List Nat) (W : World) (a : Addr) (t : ByteArray) (w : World) (e : Ending) (w' : World) : Prop := e = .returned (.string t) ∧ Step S W a w w'
theorem step_box {S : List Nat} {W w : World} {a : Addr} (H : RegH S W a w) (o : Obj) : Step S W a w (w.alloc o) := Step.of_below H ((Below.refl _ w).alloc (Nat.le_refl _) _)
set_option maxHeartbeats 1000000 in
theorem one_words {S : List Nat} {W w : World} {a : Addr} (H : RegH S W a w) (v : Value) (t sep st : ByteArray) :
    Calls Tryz.prog 17 #[.pointer (some a), v, .agg #[.int .i64 1, .string t, .string sep, .string st]] w (OneE S W a t w) := by
  have hs := step_box H (.cells #[.int .i64 1, .string t, .string sep, .string st] 60)
  have HS := Lib.hid hs
  clear hs
  go_enter Tryz.func17, Tryz.ntmps17
  go_wp2
  go_ret
  exact ⟨rfl, HS.out⟩
set_option maxHeartbeats 1000000 in
theorem one_quote {S : List Nat} {W w : World} {a : Addr} (H : RegH S W a w) (v : Value) :
    Calls Tryz.prog 17 #[.pointer (some a), v, .agg #[.int .i64 5, .string ⟨#[]⟩, .string ⟨#[]⟩, .string ⟨#[]⟩]] w (OneE S W a ⟨#[]⟩ w) := by
  have hs := step_box H (.cells #[.int .i64 5, .string ⟨#[]⟩, .string ⟨#[]⟩, .string ⟨#[]⟩] 60)
  have HS := Lib.hid hs
  clear hs
  go_enter Tryz.func17, Tryz.ntmps17
  go_wp2
  go_ret
  exact ⟨rfl, HS.out⟩
set_option maxHeartbeats 1000000 in
theorem one_none {S : List Nat} {W w : World} {a : Addr} (H : RegH S W a w) (v : Value) (k : Int) (hk : k = 3 ∨ k = 4) (t sep : ByteArray) :
    Calls Tryz.prog 17 #[.pointer (some a), v, .agg #[.int .i64 k, .string t, .string sep, .string ⟨#[110, 111, 110, 101]⟩]] w (OneE S W a ⟨#[]⟩ w) := by
  have hs := step_box H (.cells #[.int .i64 k, .string t, .string sep, .string ⟨#[110, 111, 110, 101]⟩] 60)
  have HS := Lib.hid hs
  clear hs
  rcases hk with rfl | rfl
  all_goals
    go_enter Tryz.func17, Tryz.ntmps17
    go_wp2
    go_ret
    exact ⟨rfl, HS.out⟩
omit [E : Amb] in
theorem set_below {ns : List Nat} {v : Value} {w w' : World} (h : SetAt ns v w) (hb : Below w.heap.size w w') : SetAt ns v w' := by
  obtain ⟨g, cap, arr, el, fr, h1, h2, h3⟩ := h
  exact ⟨g, cap, arr, el, fr, h1, (hb.block g (Array.getElem?_eq_some_iff.1 h2).1).trans h2, h3⟩
set_option maxHeartbeats 1000000 in
theorem one_counter {S : List Nat} {W w : World} {a : Addr} (H : RegH S W a w) {ns : List Nat} (h1 : 1 ≤ ns.length) (h2 : ns.length ≤ 10) (hb : ∀ n ∈ ns, n < 50) {v : Value} (hv : SetAt ns v w) (hT : Tabs W) {st : ByteArray} {T : Nat → List UInt8} (hX : TxOk st T W a)
    (hst : (st.toList == [110, 111, 110, 101]) = false) :
    Calls Tryz.prog 17 #[.pointer (some a), v, .agg #[.int .i64 3, .string ⟨#[110]⟩, .string ⟨#[]⟩, .string st]] w (OneE S W a ⟨(T (ns.getD (ns.length - 1) 0)).toArray⟩ w) := by
  have hst2 : ¬ st.toList = [110, 111, 110, 101] := by simpa using hst
  have hs := step_box H (.cells #[.int .i64 3, .string ⟨#[110]⟩, .string ⟨#[]⟩, .string st] 60)
  have hT1 : Tabs (w.alloc (.cells #[.int .i64 3, .string ⟨#[110]⟩, .string ⟨#[]⟩, .string st] 60)) := Cut.tabs_move hT hs.low'
  have hval := value_c h1 h2 hb (set_below hv ((Below.refl _ w).alloc (Nat.le_refl _) (.cells #[.int .i64 3, .string ⟨#[110]⟩, .string ⟨#[]⟩, .string st] 60))) hT1
  have hn : ns.getD (ns.length - 1) 0 < 50 := by
    rw [List.getD, List.getElem?_eq_getElem (by omega)]
    exact hb _ (List.getElem_mem _)
  generalize ns.getD (ns.length - 1) 0 = n at hval hn ⊢
  have HS := Lib.hid hs
  clear hs hT1
  go_enter Tryz.func17, Tryz.ntmps17
  go_wp2_with (go_at_call 36; refine hval.mono ?_)
  rintro e w2 ⟨rfl, hB2⟩
  obtain ⟨hc, hf⟩ := bcell hB2
  have HS2 := Lib.hid (HS.out.trans (Step.of_below HS.out.reg hB2))
  clear hval hB2
  have htx := hX.call n hn S w2 HS2.out.reg
  go_wp2_with (go_at_call 16; refine htx.mono ?_)
  rintro e w3 ⟨rfl, hS3⟩
  have HS3 := Lib.hid (HS2.out.trans hS3)
  clear hS3 htx hc hf
  go_wp2
  go_ret
  exact ⟨rfl, HS3.out⟩
omit [E : Amb] in
theorem tail_le (sep : List UInt8) : ∀ xs : List (List UInt8), (∀ x ∈ xs, x.length ≤ 100) → (Lib.joinTail sep xs).length ≤ (sep.length + 100) * xs.length
  | [], _ => by simp [Lib.joinTail]
  | x :: r, h => by
    have h1 := h x (List.mem_cons_self ..)
    have h2 := tail_le sep r fun y hy => h y (List.mem_cons_of_mem _ hy)
    have e : Lib.joinTail sep (x :: r) = (sep ++ x) ++ Lib.joinTail sep r := by simp [Lib.joinTail]
    rw [e, List.length_append, List.length_append, List.length_cons, Nat.mul_add]
    omega
omit [E : Amb] in
theorem join_le (sep : List UInt8) (xs : List (List UInt8)) (h : ∀ x ∈ xs, x.length ≤ 100) : (Lib.join xs sep).length ≤ (sep.length + 100) * xs.length := by
  cases xs with
  | nil => simp [Lib.join_nil]
  | cons x r =>
    have h1 := h x (List.mem_cons_self ..)
    have h2 := tail_le sep r fun y hy => h y (List.mem_cons_of_mem _ hy)
    rw [Lib.join_cons, List.length_append, List.length_cons, Nat.mul_add]
    omega
def strs (T : Nat → List UInt8) (ns : List Nat) (j : Nat) : List Value := (ns.take j).map fun n => Value.string ⟨(T n).toArray⟩
omit [E : Amb] in
theorem strs_succ (T : Nat → List UInt8) (ns : List Nat) (j n : Nat) (h : ns[j]? = some n) : strs T ns (j + 1) = strs T ns j ++ [.string ⟨(T n).toArray⟩] := by
  obtain ⟨hj, e⟩ := List.getElem?_eq_some_iff.1 h
  unfold strs
  rw [List.take_succ_eq_append_getElem hj, e, List.map_append]; rfl
def CtI (T : Nat → List UInt8) (ns : List Nat) (K : List Nat) (B : Nat) (W : World) (a : Addr) (w3 : World) (s9 s44 : Value) (wr : World) : Prop :=
  ∃ j : Nat, j ≤ ns.length ∧ s44 = .int .i64 (j : Int) ∧ wr.ownsRow B 9 1 s9 j (strs T ns j) ∧ RegH (K ++ s9.ownBlock.toList) W a wr ∧ (∀ b ∈ K, wr.heap[b]? = w3.heap[b]?) ∧ B ≤ wr.heap.size
omit [E : Amb] in
theorem own_same {w w' : World} {B : Nat} {e : TypeId} {size : Nat} {v : Value} {n : Nat} {xs : List Value} (h : w.ownsRow B e size v n xs) (hs : ∀ b ∈ v.ownBlock.toList, w'.heap[b]? = w.heap[b]?) : w'.ownsRow B e size v n xs := by
  refine ⟨h.1, ?_⟩
  rcases h.2 with h | ⟨g, cap, cur, rfl, h2, h3, h4⟩
  · exact .inl h
  · exact .inr ⟨g, cap, cur, rfl, h2, (hs g (by simp [Value.ownBlock])).trans h3, h4⟩
theorem reg_append {K : List Nat} {W w w1 w2 : World} {a : Addr} {v v' : Value} {B : Nat} {e : TypeId} {size n : Nat} {xs : List Value} (H : RegH (K ++ v.ownBlock.toList) W a w) (hb : Below w.heap.size w w1) (hg : w1.grownBy w2 v.ownBlock) (hf : ∀ g, v'.ownBlock = some g → v.ownBlock = some g ∨ w1.heap.size ≤ g) (ho : w2.ownsRow B e size v' n xs) : RegH (K ++ v'.ownBlock.toList) W a w2 := by
  refine H.move (S := K ++ v.ownBlock.toList) ⟨hg.os.trans hb.os, hg.tape.trans hb.tape, hg.output.trans hb.output, Nat.le_trans hb.size hg.size, fun k hk hn => ?_⟩ fun b hb2 => ?_
  · refine (hg.block k (Nat.lt_of_lt_of_le hk hb.size) fun he => hn ?_).trans (hb.block k hk)
    rw [← he]; simp
  · rcases List.mem_append.1 hb2 with h | h
    · exact .inl (List.mem_append_left _ h)
    · have hv : v'.ownBlock = some b := by simpa using h
      rcases hf b hv with h2 | h2
      · exact .inl (List.mem_append_right _ (by rw [h2]; simp))
      · exact .inr ⟨Nat.le_trans hb.size h2, (ho.lt b hv).2⟩
omit [E : Amb] in
theorem infoStr : (Tryz.prog.info? 9).map (fun i => (i.zero, i.size, i.bytes)) = some (some (.string .empty), 1, 16) := by kernel_rfl
set_option maxHeartbeats 4000000 in
set_option maxRecDepth 100000 in
theorem one_counters {S : List Nat} {W w : World} {a : Addr} (H : RegH S W a w) {ns : List Nat} (h1 : 1 ≤ ns.length) (h2 : ns.length ≤ 10) (hb : ∀ n ∈ ns, n < 50) {v : Value} (hv : SetAt ns v w) (hT : Tabs W) {st sep : ByteArray} (hsep : sep.size ≤ 10) {T : Nat → List UInt8} (hX : TxOk st T W a)
    (hst : (st.toList == [110, 111, 110, 101]) = false) :
    Calls Tryz.prog 17 #[.pointer (some a), v, .agg #[.int .i64 4, .string ⟨#[110]⟩, .string sep, .string st]] w (OneE S W a ⟨(Lib.join (ns.map T) sep.data.toList).toArray⟩ w) := by
  have hst2 : ¬ st.toList = [110, 111, 110, 101] := by simpa using hst
  obtain ⟨i0, hi, hz0, hz1, hz2⟩ := info_parts infoStr
  have hs := step_box H (.cells #[.int .i64 4, .string ⟨#[110]⟩, .string sep, .string st] 60)
  have hT1 : Tabs (w.alloc (.cells #[.int .i64 4, .string ⟨#[110]⟩, .string sep, .string st] 60)) := Cut.tabs_move hT hs.low'
  have hv1 := set_below hv ((Below.refl _ w).alloc (Nat.le_refl _) (.cells #[.int .i64 4, .string ⟨#[110]⟩, .string sep, .string st] 60))
  have hval := value_c h1 h2 hb hv1 hT1
  generalize ns.getD (ns.length - 1) 0 = nl at hval
  have HS := Lib.hid hs
  have HV1 := Lib.hid hv1
  clear hs hT1 hv hv1
  go_enter Tryz.func17, Tryz.ntmps17
  go_wp2_with (go_at_call 36; refine hval.mono ?_)
  rintro e w2 ⟨rfl, hB2⟩
  obtain ⟨hc2, hf2⟩ := bcell hB2
  have HS2 := Lib.hid (HS.out.trans (Step.of_below HS.out.reg hB2))
  have hvs := values_c h1 h2 hb (set_below HV1.out hB2) (Cut.tabs_move hT HS2.out.low')
  have HB2 := Lib.hid hB2
  clear hval hB2
  go_wp2_with (go_at_call 37; refine hvs.mono ?_)
  rintro e w3 ⟨b, o, c, rfl, hb0, hb1, hcell, hB3⟩
  have hbox : w3.heap[w.heap.size]? = some (.cells #[.int .i64 4, .string ⟨#[110]⟩, .string sep, .string st] 60 (0, 0)) :=
    (hB3.block _ (by have := HB2.out.size; simp at this; omega)).trans ((HB2.out.block _ (by simp)).trans (heap_alloc_new w _))
  have HB3 := Lib.hid hB3
  have HS3 := Lib.hid (HS2.out.trans (Step.of_below HS2.out.reg hB3))
  have hB03 : Below w.heap.size w w3 := (((Below.refl _ w).alloc (Nat.le_refl _) _).trans (HB2.out.mono (by simp))).trans (hB3.mono (by have := HB2.out.size; simp at this; omega))
  have hR3 : RegH (w.heap.size :: b :: S) W a w3 := H.move (.of_below hB03) fun k hk => by
    have h2s := HB2.out.size
    simp at h2s
    have h3s := hB3.size
    rcases List.mem_cons.1 hk with rfl | hk
    · exact .inr ⟨Nat.le_refl _, by omega⟩
    · rcases List.mem_cons.1 hk with rfl | hk
      · exact .inr ⟨by omega, hb1⟩
      · exact .inl hk
  have HR3 := Lib.hid hR3
  have HC := Lib.hid hcell
  have HBX := Lib.hid hbox
  clear hB3 hB03 hR3 hcell hbox hc2 hf2
  go_wp2
  go_loopw [9, 44] (fun x9 x44 wr => CtI T ns (w.heap.size :: b :: S) w3.heap.size W a w3 x9 x44 wr) (fun _ x44 _ => ns.length - (intOf x44).toNat)
  case atStart => exact ⟨0, Nat.zero_le _, rfl, World.ownsRow_nil _ _ _ _, by simpa [Value.ownBlock] using HR3.out, fun _ _ => rfl, Nat.le_refl _⟩
  case round =>
    obtain ⟨j, hj, rfl, hown, hreg, hsame, hsz⟩ := hrel
    have hbx : wr.heap[w.heap.size]? = some (.cells #[.int .i64 4, .string ⟨#[110]⟩, .string sep, .string st] 60 (0, 0)) := (hsame _ (by simp)).trans HBX.out
    have hst3 : wr.cell? ⟨w.heap.size, 3, none⟩ = some (.string st) := by rw [Lib.cell_of_heap hbx]; rfl
    have hst4 : wr.cell? ⟨w.heap.size, 2, none⟩ = some (.string sep) := by rw [Lib.cell_of_heap hbx]; rfl
    by_cases hjl : j < ns.length
    · obtain ⟨n, hn⟩ : ∃ n, ns[j]? = some n := ⟨_, List.getElem?_eq_getElem hjl⟩
      have hn50 := hb n (List.mem_of_getElem? hn)
      have hcx : wr.cell? ⟨b, o + j, none⟩ = some (.int .i64 (n : Int)) := (World.cell?_of_block (hsame b (by simp))).trans (HC.out j n hn)
      have htx := hX.call n hn50 _ wr hreg
      have hS5 := Lib.hid (strs_succ T ns j n hn)
      have HOWN := Lib.hid hown
      have HSM := Lib.hid hsame
      clear hown hsame hbx hreg
      go_wp2_with (go_at_call 16; refine htx.mono ?_)
      rintro e w4 ⟨rfl, hS4⟩
      have hown4 := own_same HOWN.out (fun b' hb' => hS4.same b' (List.mem_append_right _ hb'))
      have hz4 := hS4.size
      have HS4 := Lib.hid hS4
      clear hS4 htx hcx hst3 hst4
      go_wp2_with (at_builtin; refine append_two rfl _ _ 31 rfl w3.heap.size 9 i0 (.string .empty) 1 16 Tryz.underlying31 hi hz0 hz1 hz2 rfl (by decide) _ j (strs T ns j) rfl (hown4.alloc _) ⟨w4.heap.size, 0, none⟩ 1 1 [.string ⟨(T n).toArray⟩] rfl rfl ?c1 ?c2 ?c3 ?c4 ?c5 (by decide) ?_)
      case c1 =>
        intro j u hj
        match j, hj with
        | 0, hj => simp at hj; subst hj; simp [Addr.add]
      case c2 => intro u hu; simp at hu; subst hu; rfl
      case c3 => unfold maxLen; omega
      case c4 => omega
      case c5 => simp; omega
      intro v' w5 hown5 hg5 hf5
      have hreg5 := reg_append HS4.out.reg ((Below.refl w4.heap.size w4).alloc (Nat.le_refl _) _) hg5 (fun g hg => (hf5 g hg).imp id fun h => by rw [World.size_alloc]; exact h) hown5
      have hsm5 : ∀ k ∈ w.heap.size :: b :: S, w5.heap[k]? = w3.heap[k]? := fun k hk => by
        have hk3 := (HR3.out.out k hk).2
        refine (hg5.block k (by simp; omega) fun he => ?_).trans ((Lib.alloc_old w4 _ k (by omega)).trans ((HS4.out.same k (List.mem_append_left _ hk)).trans (HSM.out k hk)))
        have := (hown4.lt k he.symm).1
        omega
      have hz5 : w3.heap.size ≤ w5.heap.size := by have := hg5.size; simp at this; omega
      clear hg5 hf5 hown4
      go_wp2
      go_roundw
      case rel => exact ⟨j + 1, by omega, by go_num, by rw [hS5.out]; exact hown5, hreg5, hsm5, hz5⟩
      case measure => simp [intOf]; omega
    · obtain rfl : j = ns.length := by omega
      have hall : strs T ns ns.length = (ns.map fun n => (⟨(T n).toArray⟩ : ByteArray)).map Value.string := by simp [strs, List.map_map, Function.comp_def]
      rw [hall] at hown
      have hxl : (ns.map fun n => (⟨(T n).toArray⟩ : ByteArray)).length = ns.length := by simp
      obtain ⟨gg, cap, cur, rfl, hgb, hgg, hgc, _, _, _⟩ : ∃ g cap cur, _ = Value.slice (some ⟨g, 0, none⟩) ns.length cap ∧ w3.heap.size ≤ g ∧ wr.heap[g]? = some (.cells cur 9 (0, 0)) ∧ ns.length ≤ cap ∧ cap ≤ maxLen ∧ cur.size = cap * 1 ∧ cur.toList.take (ns.length * 1) = _ := by
        rcases hown.2 with ⟨_, h0⟩ | h
        · omega
        · exact h
      have hlen : (Lib.join ((ns.map fun n => (⟨(T n).toArray⟩ : ByteArray)).map (·.data.toList)) sep.data.toList).length ≤ 140737488355328 := by
        have h := join_le sep.data.toList ((ns.map fun n => (⟨(T n).toArray⟩ : ByteArray)).map (·.data.toList)) fun x hx => by
          simp only [List.map_map, List.mem_map, Function.comp_def] at hx
          obtain ⟨n, hn, rfl⟩ := hx
          exact hX.len n (hb n hn)
        have hl : ((ns.map fun n => (⟨(T n).toArray⟩ : ByteArray)).map (·.data.toList)).length = ns.length := by simp
        have hs10 : sep.data.toList.length = sep.size := by simp
        rw [hl, hs10] at h
        have := Nat.mul_le_mul (show sep.size + 100 ≤ 110 by omega) h2
        omega
      have hJ := Tryz.strings_Join gg 0 cap (ns.map fun n => (⟨(T n).toArray⟩ : ByteArray)) sep wr (fun q x hq => by
        have := hown.cells (g := gg) rfl q (.string x) (by rw [List.getElem?_map, hq]; rfl)
        rw [show (⟨gg, 0 + q, none⟩ : Addr) = (⟨gg, 0, none⟩ : Addr).add q by simp [Addr.add]]
        exact this) (Array.getElem?_eq_some_iff.1 hgg).1 (by rw [hxl]; omega) (by rw [hxl]; exact hgc) hlen
      rw [hxl] at hJ
      have hjs : (ns.map fun n => (⟨(T n).toArray⟩ : ByteArray)).map (·.data.toList) = ns.map T := by simp [List.map_map, Function.comp_def]
      rw [hjs] at hJ
      have HREG := Lib.hid hreg
      have HSM := Lib.hid hsame
      have hne : ¬ (ns.length : Int) = 0 := by omega
      clear hown hsame hbx hreg hall hxl hlen hjs hgg
      go_wp2_with (go_at_call 38; refine hJ.mono ?_)
      rintro e w5 ⟨rfl, hB5⟩
      go_wp2
      go_ret
      refine ⟨rfl, ?_⟩
      have hr2 : RegH S W a wr := HREG.out.move (.refl _ wr) fun k hk => .inl (by simp [hk])
      have hf := Step.of_below hr2 hB5
      refine ⟨hf.reg, fun k hk => (hf.same k hk).trans ((HSM.out k (by simp [hk])).trans (HS3.out.same k hk)), hf.low, Nat.le_trans HS3.out.size (Nat.le_trans hsz hf.size)⟩
set_option maxHeartbeats 1000000 in
theorem one_counter0 {S : List Nat} {W w : World} {a : Addr} (H : RegH S W a w) (hT : Tabs W) {st : ByteArray} {T : Nat → List UInt8} (hX : TxOk st T W a)
    (hst : (st.toList == [110, 111, 110, 101]) = false) :
    Calls Tryz.prog 17 #[.pointer (some a), .slice none 0 0, .agg #[.int .i64 3, .string ⟨#[110]⟩, .string ⟨#[]⟩, .string st]] w (OneE S W a ⟨(T 0).toArray⟩ w) := by
  have hst2 : ¬ st.toList = [110, 111, 110, 101] := by simpa using hst
  have hs := step_box H (.cells #[.int .i64 3, .string ⟨#[110]⟩, .string ⟨#[]⟩, .string st] 60)
  have hval := value_nil (Cut.tabs_move hT hs.low')
  have HS := Lib.hid hs
  clear hs
  go_enter Tryz.func17, Tryz.ntmps17
  go_wp2_with (go_at_call 36; refine hval.mono ?_)
  rintro e w2 ⟨rfl, hB2⟩
  obtain ⟨hc, hf⟩ := bcell hB2
  have HS2 := Lib.hid (HS.out.trans (Step.of_below HS.out.reg hB2))
  clear hval hB2
  have htx := hX.call 0 (by omega) S w2 HS2.out.reg
  go_wp2_with (go_at_call 16; refine htx.mono ?_)
  rintro e w3 ⟨rfl, hS3⟩
  have HS3 := Lib.hid (HS2.out.trans hS3)
  clear hS3 htx hc hf
  go_wp2
  go_ret
  exact ⟨rfl, HS3.out⟩
set_option maxHeartbeats 2000000 in
theorem one_counters0 {S : List Nat} {W w : World} {a : Addr} (H : RegH S W a w) (hT : Tabs W) {st sep : ByteArray} {T : Nat → List UInt8} (hX : TxOk st T W a)
    (hst : (st.toList == [110, 111, 110, 101]) = false) :
    Calls Tryz.prog 17 #[.pointer (some a), .slice none 0 0, .agg #[.int .i64 4, .string ⟨#[110]⟩, .string sep, .string st]] w (OneE S W a ⟨(T 0).toArray⟩ w) := by
  have hst2 : ¬ st.toList = [110, 111, 110, 101] := by simpa using hst
  have hs := step_box H (.cells #[.int .i64 4, .string ⟨#[110]⟩, .string sep, .string st] 60)
  have hval := value_nil (Cut.tabs_move hT hs.low')
  have HS := Lib.hid hs
  clear hs
  go_enter Tryz.func17, Tryz.ntmps17
  go_wp2_with (go_at_call 36; refine hval.mono ?_)
  rintro e w2 ⟨rfl, hB2⟩
  obtain ⟨hc2, hf2⟩ := bcell hB2
  have HS2 := Lib.hid (HS.out.trans (Step.of_below HS.out.reg hB2))
  have hvs := values_nil (Cut.tabs_move hT HS2.out.low')
  have hz2 := hB2.size
  simp at hz2
  clear hval hB2
  go_wp2_with (go_at_call 37; refine hvs.mono ?_)
  rintro e w3 ⟨rfl, hB3⟩
  obtain ⟨hc3, hf3⟩ := bcell hB3
  have hst3 : w3.cell? ⟨w.heap.size, 3, none⟩ = some (.string st) := by
    rw [hc3 _ _ (by omega), hc2 _ _ (by simp), Lib.cell_of_heap (heap_alloc_new w _)]; rfl
  have HS3 := Lib.hid (HS2.out.trans (Step.of_below HS2.out.reg hB3))
  clear hvs hB3 hc2 hf2 hc3 hf3
  have htx := hX.call 0 (by omega) S w3 HS3.out.reg
  go_wp2
  refine wp_loop_rounds 1 ?_
  rw [rounds_succ]
  go_wp2_with (go_at_call 16; refine htx.mono ?_)
  rintro e w4 ⟨rfl, hS4⟩
  have HS4 := Lib.hid (HS3.out.trans hS4)
  clear hS4 htx
  go_wp2
  go_ret
  exact ⟨rfl, HS4.out⟩
end Go.Proofs.YtieiopaobipdoaaGreatDoor.Cnt
