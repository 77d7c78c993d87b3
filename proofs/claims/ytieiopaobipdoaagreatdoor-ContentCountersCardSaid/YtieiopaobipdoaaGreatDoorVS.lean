/- scope.Value and scope.Values of counters n and m by turns: runs with numbers that nobody knows. -/
import Derived.Test.YtieiopaobipdoaaGreatDoorVH
namespace Go.Proofs.YtieiopaobipdoaaGreatDoor.HM
open Go Go.RowKit
variable [E : Amb]
def numV (j : Nat) : V := .lin .i64 0 [⟨1, j, 0, 49⟩]
def setV : Nat → Nat → List V
  | _, 0 => []
  | j, k + 1 => [.str [110], .int .i64 (.ofNat j), numV j, .bool false, .str [109], .int .i64 (.ofNat j), .int .i64 99, .bool false] ++ setV (j + 1) k
noncomputable def vlR (L : Nat) : Option (V × Hp) := goK 36 [.pl (2 * L) 4 (setV 0 L), .str [110]] Hp.empty
noncomputable def vsR (L : Nat) : Option (V × Hp) := goK 37 [.pl (2 * L) 4 (setV 0 L), .str [110]] Hp.empty
def numsV : Nat → Nat → List V
  | _, 0 => []
  | j, k + 1 => numV j :: numsV (j + 1) k
noncomputable def vlB (L : Nat) : Bool := match vlR L with
  | some (.tup [x, .bool true], _) => V.same x (numV (L - 1))
  | _ => false
noncomputable def vsB (L : Nat) : Bool := match vsR L with
  | some (.sl a o n 1, h) => match sliceV h (.sl a o n 1) with
    | some xs => V.sames xs (numsV 0 L)
    | none => false
  | _ => false
omit [E : Amb] in
theorem vl_1 : (vlB 1 && vsB 1) = true := by kernel_rfl
omit [E : Amb] in
theorem vl_2 : (vlB 2 && vsB 2) = true := by kernel_rfl
omit [E : Amb] in
theorem vl_3 : (vlB 3 && vsB 3) = true := by kernel_rfl
omit [E : Amb] in
theorem vl_4 : (vlB 4 && vsB 4) = true := by kernel_rfl
omit [E : Amb] in
theorem vl_5 : (vlB 5 && vsB 5) = true := by kernel_rfl
omit [E : Amb] in
theorem vl_6 : (vlB 6 && vsB 6) = true := by kernel_rfl
omit [E : Amb] in
theorem vl_7 : (vlB 7 && vsB 7) = true := by kernel_rfl
omit [E : Amb] in
theorem vl_8 : (vlB 8 && vsB 8) = true := by kernel_rfl
omit [E : Amb] in
theorem vl_9 : (vlB 9 && vsB 9) = true := by kernel_rfl
omit [E : Amb] in
theorem vl_10 : (vlB 10 && vsB 10) = true := by kernel_rfl
omit [E : Amb] in
theorem vl_ok (L : Nat) (h1 : 1 ≤ L) (h2 : L ≤ 10) : vlB L = true ∧ vsB L = true := by
  have e : L = 1 ∨ L = 2 ∨ L = 3 ∨ L = 4 ∨ L = 5 ∨ L = 6 ∨ L = 7 ∨ L = 8 ∨ L = 9 ∨ L = 10 := by omega
  rcases e with rfl | rfl | rfl | rfl | rfl | rfl | rfl | rfl | rfl | rfl
  · simpa only [Bool.and_eq_true] using vl_1
  · simpa only [Bool.and_eq_true] using vl_2
  · simpa only [Bool.and_eq_true] using vl_3
  · simpa only [Bool.and_eq_true] using vl_4
  · simpa only [Bool.and_eq_true] using vl_5
  · simpa only [Bool.and_eq_true] using vl_6
  · simpa only [Bool.and_eq_true] using vl_7
  · simpa only [Bool.and_eq_true] using vl_8
  · simpa only [Bool.and_eq_true] using vl_9
  · simpa only [Bool.and_eq_true] using vl_10
omit [E : Amb] in
theorem nil_ok : (match goK 36 [.nils, .str [110]] Hp.empty with
  | some (r, _) => V.same r (.tup [.int .i64 0, .bool false])
  | none => false) = true := by kernel_rfl
omit [E : Amb] in
theorem nils_ok : (match goK 37 [.nils, .str [110]] Hp.empty with
  | some (r, _) => V.same r .nils
  | none => false) = true := by kernel_rfl
def rowF : Nat → List Nat → List Value
  | _, [] => []
  | j, n :: r => [.string ⟨#[110]⟩, .int .i64 (j : Int), .int .i64 (n : Int), .bool false, .string ⟨#[109]⟩, .int .i64 (j : Int), .int .i64 99, .bool false] ++ rowF (j + 1) r
omit [E : Amb] in
theorem rowF_len : ∀ (j : Nat) (ns : List Nat), (rowF j ns).length = 8 * ns.length
  | _, [] => rfl
  | j, n :: r => by simp only [rowF, List.length_append, List.length_cons, List.length_nil, rowF_len (j + 1) r]; omega
omit [E : Amb] in
theorem rowF_snoc : ∀ (j : Nat) (ns : List Nat) (n : Nat), rowF j (ns ++ [n]) = rowF j ns ++ [.string ⟨#[110]⟩, .int .i64 ((j + ns.length : Nat) : Int), .int .i64 (n : Int), .bool false, .string ⟨#[109]⟩, .int .i64 ((j + ns.length : Nat) : Int), .int .i64 99, .bool false]
  | j, [], n => by simp [rowF]
  | j, m :: r, n => by
    simp only [List.cons_append, rowF, rowF_snoc (j + 1) r n, List.length_cons, List.nil_append]
    rw [show j + 1 + r.length = j + (r.length + 1) by omega]
theorem set_VR {ρ : Ren} : ∀ (j : Nat) (ns : List Nat), (∀ (i n : Nat), ns[i]? = some n → E.num (j + i) = (n : Int) ∧ n < 50) → VRs ρ (setV j ns.length) (rowF j ns)
  | _, [], _ => VRs.nil _
  | j, n :: r, h => by
    have h0 := h 0 n rfl
    have hr := set_VR (ρ := ρ) (j + 1) r fun i m hi => by
      have := h (i + 1) m (by simpa using hi)
      rwa [show j + 1 + i = j + (i + 1) by omega]
    refine VRs.cons (.str _) (VRs.cons (.int _ _) (VRs.cons (.lin _ _ _ _ (fun t ht => ?_) ?_) (VRs.cons (.bool _) (VRs.cons (.str _) (VRs.cons (.int _ _) (VRs.cons (.int _ _) (VRs.cons (.bool _) hr)))))))
    · simp only [List.mem_singleton] at ht; subst ht
      have e : E.num j = (n : Int) := by simpa using h0.1
      refine ⟨?_, ?_⟩ <;> (show (_ : Int) ≤ _) <;> (simp only []; omega)
    · have e : E.num j = (n : Int) := by simpa using h0.1
      simp only [sumR, valR]; omega
omit [E : Amb] in
theorem setV_len : ∀ (j k : Nat), (setV j k).length = 8 * k
  | _, 0 => rfl
  | j, k + 1 => by simp only [setV, List.length_append, List.length_cons, List.length_nil, setV_len (j + 1) k]; omega
def SetAt (ns : List Nat) (v : Value) (w : World) : Prop := ∃ g cap arr el fr, v = .slice (some ⟨g, 0, none⟩) (2 * ns.length) cap ∧ w.heap[g]? = some (.cells arr el fr) ∧ 2 * ns.length ≤ cap ∧ arr.toList.take (8 * ns.length) = rowF 0 ns ∧ 8 * ns.length ≤ arr.size
theorem set_arg {ns : List Nat} {g cap : Nat} {arr : Array Value} {el : TypeId} {fr : Nat × Nat} (hE : ∀ (i n : Nat), ns[i]? = some n → E.num (0 + i) = (n : Int) ∧ n < 50) (hcap : 2 * ns.length ≤ cap) (ht : arr.toList.take (8 * ns.length) = rowF 0 ns) (hs : 8 * ns.length ≤ arr.size) :
    VRs (memR g ⟨arr, el, fr⟩) [.pl (2 * ns.length) 4 (setV 0 ns.length), .str [110]] [.slice (some ⟨g, 0, none⟩) (2 * ns.length) cap, .string ⟨#[110]⟩] := by
  have hset := set_VR (ρ := (memR g ⟨arr, el, fr⟩).bare) 0 ns hE
  refine VRs.cons (.pl _ _ _ g 0 _ ⟨arr, el, fr⟩ (by simp [memR]) hcap (by rw [setV_len]; omega) (by rw [setV_len]; show 0 + _ ≤ arr.size; omega) fun i x u hx hu => ?_) (VRs.cons (.str _) (VRs.nil _))
  have hi : i < 8 * ns.length := by rw [← setV_len 0 ns.length]; exact (List.getElem?_eq_some_iff.1 hx).1
  refine hset.2 i x u hx ?_
  rw [← ht, List.getElem?_take, if_pos hi]
  have hu : arr[0 + i]? = some u := hu
  rw [Nat.zero_add] at hu
  simpa using hu
def ValueE (n : Nat) (w : World) (e : Ending) (w' : World) : Prop := e = .returned (.tuple #[.int .i64 (n : Int), .bool true]) ∧ Below w.heap.size w w'
def ValuesE (ns : List Nat) (w : World) (e : Ending) (w' : World) : Prop := ∃ b o c, e = .returned (.slice (some ⟨b, o, none⟩) ns.length c) ∧ w.heap.size ≤ b ∧ b < w'.heap.size ∧ (∀ (j n : Nat), ns[j]? = some n → w'.cell? ⟨b, o + j, none⟩ = some (.int .i64 (n : Int))) ∧ Below w.heap.size w w'
theorem sl_new {Γ : Glob} {N0 : Nat} {w0 : Fr} {ρ : Ren} {h : Hp} {w : World} (H : Rel Γ N0 w0 ρ h w) {a o n : Nat} {u : Value} (hv : VR ρ (.sl a o n 1) u) {xs : List V} (hs : sliceV h (.sl a o n 1) = some xs) :
    ∃ b o' c, u = .slice (some ⟨b, o', none⟩) xs.length c ∧ N0 ≤ b ∧ b < w.heap.size ∧ ∀ (i : Nat) y, xs[i]? = some y → ∃ v, w.cell? ⟨b, o' + i, none⟩ = some v ∧ VR ρ y v := by
  simp only [sliceV] at hs
  split at hs
  · rename_i fam fb fz ys hg
    split at hs
    · rename_i hc
      simp only [Bool.and_eq_true] at hc
      have hn1 := Nat.le_of_ble_eq_true hc.1
      have hn0 : 0 < n := Nat.le_of_ble_eq_true hc.2
      simp only [Option.some.injEq] at hs; subst hs
      have hlen : ((ys.drop o).take n).length = n := by simp; omega
      cases hv with
      | sl0 => omega
      | sl _ _ _ _ c L hL hcc hl =>
        obtain ⟨L', k1, k2, arr, el, fr, k3, k4, k5, k6, k7⟩ := (H.blk a _ (some_ne hL) hg).ex
        obtain rfl : L = L' := by rw [hL] at k1; injection k1
        refine ⟨L.b, L.base + o, c, by rw [hlen], k2, (Array.getElem?_eq_some_iff.1 k3).1, fun i y hy => ?_⟩
        have hi : i < n := by have := (List.getElem?_eq_some_iff.1 hy).1; omega
        rw [List.getElem?_take, if_pos hi, List.getElem?_drop] at hy
        have hlt : L.base + o + i < arr.size := by have := (List.getElem?_eq_some_iff.1 hy).1; omega
        refine ⟨arr[L.base + o + i], by rw [cell_of_heap k3]; simp, k6 (o + i) y _ hy ?_⟩
        rw [show L.base + (o + i) = L.base + o + i by omega]; simp
    · cases hs
  · cases hs
omit [E : Amb] in
theorem numsV_at : ∀ (j k i : Nat), i < k → (numsV j k)[i]? = some (numV (j + i))
  | _, 0, _, h => by omega
  | j, k + 1, 0, _ => rfl
  | j, k + 1, i + 1, h => by
    rw [numsV, List.getElem?_cons_succ, numsV_at (j + 1) k i (by omega), show j + 1 + i = j + (i + 1) by omega]
omit [E : Amb] in
theorem numsV_len : ∀ (j k : Nat), (numsV j k).length = k
  | _, 0 => rfl
  | j, k + 1 => by rw [numsV, List.length_cons, numsV_len (j + 1) k]
omit [E : Amb] in
theorem nums_E {ns : List Nat} (hl : ns.length ≤ 10) (hb : ∀ n ∈ ns, n < 50) (i n : Nat) (h : ns[i]? = some n) : (HM.Amb.nums (ns.map fun n : Nat => (n : Int))).num (0 + i) = (n : Int) ∧ n < 50 := by
  have hi := (List.getElem?_eq_some_iff.1 h).1
  refine ⟨?_, hb n (List.mem_of_getElem? h)⟩
  rw [Nat.zero_add]
  exact HM.Amb.nums_at i _ (by rw [List.getElem?_map, h]; rfl) (by omega)
end Go.Proofs.YtieiopaobipdoaaGreatDoor.HM
namespace Go.Proofs.YtieiopaobipdoaaGreatDoor.Cnt
open Go Go.RowKit
theorem value_c {ns : List Nat} (h1 : 1 ≤ ns.length) (h2 : ns.length ≤ 10) (hb : ∀ n ∈ ns, n < 50) {v : Value} {w : World} (hv : HM.SetAt ns v w) (hT : HM.Tabs w) :
    Calls Tryz.prog 36 #[v, .string ⟨#[110]⟩] w (HM.ValueE (ns.getD (ns.length - 1) 0) w) := by
  letI : HM.Amb := HM.Amb.nums (ns.map fun n : Nat => (n : Int))
  obtain ⟨g, cap, arr, el, fr, rfl, hg, hc, ht, hs⟩ := hv
  have hr := (HM.vl_ok ns.length h1 h2).1
  unfold HM.vlB at hr
  split at hr
  · rename_i x h' e
    have hx := HM.V.same_eq _ _ hr
    subst hx
    have H : HM.Rel HM.gam w.heap.size ⟨w, 0, HM.memR g ⟨arr, el, fr⟩, []⟩ (HM.memR g ⟨arr, el, fr⟩) HM.Hp.empty w := HM.Rel.startK (HM.glob_ok hT) 0 _ (fun _ _ => rfl) (fun a L h => by cases h) fun c m' hc => by
      simp only [HM.memR] at hc
      split at hc
      · rename_i e; subst e; simp only [Option.some.injEq] at hc; subst hc; exact hg
      · cases hc
    refine ((HM.goK_sound _) _ _ _ _ e w.heap.size _ _ w #[_, _] H (HM.set_arg (HM.nums_E h2 hb) hc ht hs)).mono ?_
    rintro e' w' ⟨ρ', u, rfl, _, k1, k2⟩
    refine ⟨?_, k1.below⟩
    obtain ⟨us, rfl, hus⟩ := k2.tup_inv
    obtain ⟨u1, us1, e1, g1, r1⟩ := hus.cons_inv
    obtain ⟨u2, us2, e2, g2, r2⟩ := r1.cons_inv
    have e3 := r2.nil_inv
    subst e3 e2
    obtain rfl : us = #[u1, u2] := by cases us; simp_all
    obtain ⟨n, hn⟩ : ∃ n, ns[ns.length - 1]? = some n := ⟨_, List.getElem?_eq_getElem (by omega)⟩
    have hE := (HM.nums_E h2 hb (ns.length - 1) n hn).1
    rw [Nat.zero_add] at hE
    have hd : ns.getD (ns.length - 1) 0 = n := by rw [List.getD, hn]; rfl
    rw [hd]
    cases g1 with
    | lin _ _ _ m hok hm =>
      cases g2
      simp only [HM.sumR, HM.valR] at hm
      rw [hE] at hm
      rw [show m = (n : Int) by omega]
  · cases hr
theorem values_c {ns : List Nat} (h1 : 1 ≤ ns.length) (h2 : ns.length ≤ 10) (hb : ∀ n ∈ ns, n < 50) {v : Value} {w : World} (hv : HM.SetAt ns v w) (hT : HM.Tabs w) :
    Calls Tryz.prog 37 #[v, .string ⟨#[110]⟩] w (HM.ValuesE ns w) := by
  letI : HM.Amb := HM.Amb.nums (ns.map fun n : Nat => (n : Int))
  obtain ⟨g, cap, arr, el, fr, rfl, hg, hc, ht, hs⟩ := hv
  have hr := (HM.vl_ok ns.length h1 h2).2
  unfold HM.vsB at hr
  split at hr
  · rename_i a o n h' e
    split at hr
    · rename_i xs hxs
      have hx := HM.V.sames_eq _ _ hr
      subst hx
      have H : HM.Rel HM.gam w.heap.size ⟨w, 0, HM.memR g ⟨arr, el, fr⟩, []⟩ (HM.memR g ⟨arr, el, fr⟩) HM.Hp.empty w := HM.Rel.startK (HM.glob_ok hT) 0 _ (fun _ _ => rfl) (fun a L h => by cases h) fun c m' hc => by
        simp only [HM.memR] at hc
        split at hc
        · rename_i e; subst e; simp only [Option.some.injEq] at hc; subst hc; exact hg
        · cases hc
      refine ((HM.goK_sound _) _ _ _ _ e w.heap.size _ _ w #[_, _] H (HM.set_arg (HM.nums_E h2 hb) hc ht hs)).mono ?_
      rintro e' w' ⟨ρ', u, rfl, _, k1, k2⟩
      obtain ⟨b, o', c, rfl, hb0, hb1, hcell⟩ := HM.sl_new k1 k2 hxs
      refine ⟨b, o', c, by rw [HM.numsV_len], hb0, hb1, fun j n hj => ?_, k1.below⟩
      have hjl := (List.getElem?_eq_some_iff.1 hj).1
      obtain ⟨u, hu, hr⟩ := hcell j _ (HM.numsV_at 0 _ j hjl)
      have hE := (HM.nums_E h2 hb j n hj).1
      rw [hu]
      cases hr with
      | lin _ _ _ m hok hm =>
        simp only [HM.sumR, HM.valR] at hm
        rw [hE] at hm
        rw [show m = (n : Int) by omega]
    · cases hr
  · cases hr
def ValueN (w : World) (e : Ending) (w' : World) : Prop := e = .returned (.tuple #[.int .i64 0, .bool false]) ∧ Below w.heap.size w w'
def ValuesN (w : World) (e : Ending) (w' : World) : Prop := e = .returned (.slice none 0 0) ∧ Below w.heap.size w w'
theorem value_nil {w : World} (hT : HM.Tabs w) : Calls Tryz.prog 36 #[.slice none 0 0, .string ⟨#[110]⟩] w (ValueN w) := by
  letI : HM.Amb := HM.Amb.none
  have hr := HM.nil_ok
  split at hr
  · rename_i r h' e
    have hx := HM.V.same_eq _ _ hr
    subst hx
    refine ((HM.goK_sound _) _ _ _ _ e w.heap.size _ _ w #[.slice none 0 0, .string ⟨#[110]⟩] (HM.Rel.start (HM.glob_ok hT)) (HM.VRs.cons .nils (HM.VRs.cons (.str _) (HM.VRs.nil _)))).mono ?_
    rintro e' w' ⟨ρ', u, rfl, _, k1, k2⟩
    refine ⟨?_, k1.below⟩
    obtain ⟨us, rfl, hus⟩ := k2.tup_inv
    obtain ⟨u1, us1, e1, g1, r1⟩ := hus.cons_inv
    obtain ⟨u2, us2, e2, g2, r2⟩ := r1.cons_inv
    have e3 := r2.nil_inv
    subst e3 e2
    obtain rfl : us = #[u1, u2] := by cases us; simp_all
    cases g1; cases g2; rfl
  · cases hr
theorem values_nil {w : World} (hT : HM.Tabs w) : Calls Tryz.prog 37 #[.slice none 0 0, .string ⟨#[110]⟩] w (ValuesN w) := by
  letI : HM.Amb := HM.Amb.none
  have hr := HM.nils_ok
  split at hr
  · rename_i r h' e
    have hx := HM.V.same_eq _ _ hr
    subst hx
    refine ((HM.goK_sound _) _ _ _ _ e w.heap.size _ _ w #[.slice none 0 0, .string ⟨#[110]⟩] (HM.Rel.start (HM.glob_ok hT)) (HM.VRs.cons .nils (HM.VRs.cons (.str _) (HM.VRs.nil _)))).mono ?_
    rintro e' w' ⟨ρ', u, rfl, _, k1, k2⟩
    cases k2
    exact ⟨rfl, k1.below⟩
  · cases hr
end Go.Proofs.YtieiopaobipdoaaGreatDoor.Cnt
