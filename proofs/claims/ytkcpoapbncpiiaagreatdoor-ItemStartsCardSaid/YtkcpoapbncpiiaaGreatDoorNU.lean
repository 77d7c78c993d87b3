/- item.Number of any text. -/
import Derived.Test.YtkcpoapbncpiiaaGreatDoorNT
namespace Go.Proofs.YtkcpoapbncpiiaaGreatDoor.Num
open Go Go.RowKit
def OkP (l : List UInt8) : Prop := l = [] ∨ ∃ c r, l = c :: r ∧ (c.toNat = 45 ∨ c.toNat = 43 ∨ dg c = true) ∧ ∀ x ∈ r, dg x = true
theorem okP_of {s : ByteArray} {I K J : Nat} (hK : signed s.data.toList I = K) (hJ : scan dg s.data.toList K = J) : OkP (s.extract I J).data.toList := by
  rw [extract_list]
  have hd : ∀ x ∈ (s.data.toList.drop K).take (J - K), dg x = true := fun x hx => by
    rw [← hJ, take_scan] at hx
    exact mem_takeWhile dg _ x hx
  have hge := scan_ge dg s.data.toList K
  rcases signed_cases hK with rfl | ⟨rfl, c, hc, hs⟩
  · cases hx : (s.data.toList.drop K).take (J - K) with
    | nil => exact .inl rfl
    | cons c r =>
      rw [hx] at hd
      exact .inr ⟨c, r, rfl, .inr (.inr (hd c (List.mem_cons_self ..))), fun x hx => hd x (List.mem_cons_of_mem _ hx)⟩
  · rw [drop_take_succ hc (by omega)]
    exact .inr ⟨c, _, rfl, hs.elim (fun h => .inr (.inl h)) .inl, hd⟩
theorem trim_digits {r : List UInt8} (h : ∀ x ∈ r, dg x = true) : Lib.trimLeftS r [43, 45] = r := by
  unfold Lib.trimLeftS
  cases r with
  | nil => rfl
  | cons c r =>
    have hc := dg_nat (h c (List.mem_cons_self ..))
    rw [List.dropWhile_cons, if_neg]
    intro hh
    simp at hh
    rcases hh with rfl | rfl
    · exact absurd hc.1 (by decide)
    · exact absurd hc.1 (by decide)
theorem trim_sign {c : UInt8} {r : List UInt8} (hc : c.toNat = 45 ∨ c.toNat = 43) (h : ∀ x ∈ r, dg x = true) : Lib.trimLeftS (c :: r) [43, 45] = r := by
  have e : Lib.trimLeftS (c :: r) [43, 45] = Lib.trimLeftS r [43, 45] := by
    unfold Lib.trimLeftS
    rw [List.dropWhile_cons, if_pos]
    have : c = 45 ∨ c = 43 := by
      rcases hc with hc | hc
      · exact .inl (UInt8.toNat_inj.1 (by rw [hc]; rfl))
      · exact .inr (UInt8.toNat_inj.1 (by rw [hc]; rfl))
    rcases this with rfl | rfl <;> rfl
  rw [e, trim_digits h]
theorem bytes_dg (r : List UInt8) (h : ∀ x ∈ r, dg x = true) : ∀ k (hk : k < (⟨r.toArray⟩ : ByteArray).size), 48 ≤ (⟨r.toArray⟩ : ByteArray)[k].toNat ∧ (⟨r.toArray⟩ : ByteArray)[k].toNat ≤ 57 := fun k hk => by
  have := at_list ⟨r.toArray⟩ k hk
  exact dg_nat (h _ (List.mem_of_getElem? (by simpa using this)))
theorem intP_any (s : ByteArray) (w : World) (hs : s.size ≤ maxLen) (h : OkP s.data.toList) : Calls Tryz.prog 31 #[.string s] w fun e w' => e = .returned (.int .i64 (intV s.data.toList)) ∧ Below w.heap.size w w' := by
  rcases h with h | ⟨c, r, e, hc, hr⟩
  · have hz : s.size = 0 := by
      have : s.data.toList.length = 0 := by rw [h]; rfl
      simpa using this
    have := intP_none s w hs (by omega) (by rw [h]; rfl)
    rw [h]; exact this
  · have hl : s.size = r.length + 1 := by
      have : s.data.toList.length = r.length + 1 := by rw [e]; rfl
      simpa using this
    have h0 : 0 < s.size := by omega
    have hc0 : s[0] = c := by
      have := at_list s 0 h0
      rw [e] at this; simpa using this.symm
    have hsz : ∀ l : List UInt8, (⟨l.toArray⟩ : ByteArray).size = l.length := fun l => by
      show l.toArray.size = _
      simp
    have sign : ∀ neg, (((s[0].toNat : Int) == 45) = neg) → (c.toNat = 45 ∨ c.toNat = 43) → intV s.data.toList = sgnV neg (val r) → Calls Tryz.prog 31 #[.string s] w fun e w' => e = .returned (.int .i64 (intV s.data.toList)) ∧ Below w.heap.size w w' := by
      intro neg hn hcc hv
      rw [hv]
      by_cases hr0 : r = []
      · subst hr0
        have := intP_none s w hs (by simp at hl; omega) (by rw [e]; exact trim_sign hcc (fun x hx => by cases hx))
        have e0 : sgnV neg (val []) = 0 := by cases neg <;> rfl
        rw [e0]; exact this
      · have hpos : 0 < r.length := List.length_pos_iff.2 hr0
        exact intP_some s ⟨r.toArray⟩ w (val r) neg hs (by have := hsz r; omega) (by have := hsz r; omega) (by have := hsz r; omega) (by rw [e]; exact trim_sign hcc hr) h0 hn (bytes_dg r hr) (Lib.hid (by rw [vk_all]; simp))
    rcases hc with hc | hc | hc
    · exact sign true (by rw [hc0, hc]; rfl) (.inl hc) (by rw [e, intV, if_pos hc]; rfl)
    · exact sign false (by rw [hc0, hc]; rfl) (.inr hc) (by rw [e, intV, if_neg (by omega), if_pos hc]; rfl)
    · have hn := dg_nat hc
      have hall : ∀ x ∈ s.data.toList, dg x = true := fun x hx => by
        rw [e] at hx
        rcases List.mem_cons.1 hx with rfl | hx
        · exact hc
        · exact hr x hx
      have hv : intV s.data.toList = sgnV false (val s.data.toList) := by rw [e, intV, if_neg (by omega), if_neg (by omega)]; rfl
      rw [hv]
      refine intP_some s s w (val s.data.toList) false hs (by omega) (Nat.le_refl _) h0 (trim_digits hall) h0 (by rw [hc0]; simp; omega) (fun k hk => ?_) (Lib.hid (by rw [vk_all]; simp))
      exact dg_nat (hall _ (List.mem_of_getElem? (at_list s k hk)))
set_option maxRecDepth 100000 in
set_option maxHeartbeats 1000000 in
theorem numberP_any (s : ByteArray) (w : World) (hs : s.size ≤ maxLen) : Calls Tryz.prog 17 #[.string s] w fun e w' => e = .returned (.tuple #[.int .i64 (numV s.data.toList).1, .bool (numV s.data.toList).2]) ∧ Below w.heap.size w w' := by
  have hs' : s.size ≤ 9223372036854775807 := hs
  obtain ⟨I, hI⟩ : ∃ I, scan wh s.data.toList 0 = I := ⟨_, rfl⟩
  have hI1 : I ≤ s.size := by rw [← hI]; have := scan_le (p := wh) (l := s.data.toList) (i := 0) (Nat.zero_le _); simpa using this
  have HI := Lib.hid hI
  clear hI
  go_enter Tryz.func17, Tryz.ntmps17
  go_upto_block 0 with fail
  go_cut [4] (fun s4 wx => w = wx ∧ s4 = .int .i64 I)
  case first =>
    go_wp2_with fail
    go_loopg [4] s.size (fun g s4 wx => w = wx ∧ ∃ k : Nat, k ≤ s.size ∧ g = s.size - k ∧ s4 = .int .i64 k ∧ scan wh s.data.toList k = I)
    case atStart => exact ⟨rfl, 0, Nat.zero_le _, rfl, rfl, HI.out⟩
    case round =>
      obtain ⟨rfl, k, hk, rfl, rfl, hf⟩ := hrel
      have HF := Lib.hid hf
      clear hf
      by_cases hlt : k < s.size
      · cases hw : wh s[k] with
        | true =>
          have hc := wh_nat hw
          have HW := Lib.hid hw
          clear hw
          go_wp2_with (go_at_call 29; refine (white_t _ _ hc).mono ?_; rintro e w' ⟨rfl, rfl⟩)
          go_roundg (s.size - (k + 1))
          case measure => omega
          case rel => exact ⟨rfl, k + 1, by omega, rfl, by go_num, by rw [← hit wh s k hlt HW.out]; exact HF.out⟩
        | false =>
          obtain ⟨c1, c2, c3⟩ := wh_not hw
          have hb : s[k].toNat < 256 := s[k].toNat_lt
          have HW := Lib.hid hw
          clear hw
          have hkI : Hid (k = I) := Lib.hid (by rw [← HF.out, miss wh s k hlt HW.out])
          go_wp2_with (go_at_call 29; refine (white_f _ _ c1 c2 c3).mono ?_; rintro e w' ⟨rfl, rfl⟩)
          go_meet
          exact ⟨rfl, by rw [hkI.out]⟩
      · have hkI : Hid (k = I) := Lib.hid (by rw [← HF.out, atEnd wh s k (by omega)])
        go_wp2
        go_meet
        exact ⟨rfl, by rw [hkI.out]⟩
  case rest =>
    obtain ⟨rfl, rfl⟩ := hcut
    obtain ⟨K, hK⟩ : ∃ K, signed s.data.toList I = K := ⟨_, rfl⟩
    have hK1 : I ≤ K ∧ K ≤ s.size := by
      rw [← hK]; unfold signed
      split
      · rename_i c hc
        have := (List.getElem?_eq_some_iff.1 hc).1
        simp at this
        split <;> omega
      · omega
    have HK := Lib.hid hK
    clear hK
    go_upto_region 5 with fail
    go_cut [36] (fun s36 wx => w = wx ∧ ((s36 = .bool true ∧ K = I + 1 ∧ I + 1 ≤ s.size) ∨ (s36 = .bool false ∧ K = I ∧ I ≤ s.size)))
    case first =>
      by_cases hlt : I < s.size
      · have hIl := at_list s I hlt
        have HI2 := Lib.hid hIl
        clear hIl
        by_cases h43 : s[I].toNat = 43
        · have e1 : ((s[I].toNat : Int) == 43) = true := by simp; omega
          have hk : Hid (K = I + 1) := Lib.hid (by rw [← HK.out, signed, HI2.out]; simp [sg, h43])
          clear h43
          go_wp2
          go_meet
          exact ⟨rfl, .inl ⟨rfl, hk.out, by omega⟩⟩
        · by_cases h45 : s[I].toNat = 45
          · have e1 : ((s[I].toNat : Int) == 43) = false := by simp; omega
            have e2 : ((s[I].toNat : Int) == 45) = true := by simp; omega
            have hk : Hid (K = I + 1) := Lib.hid (by rw [← HK.out, signed, HI2.out]; simp [sg, h45])
            clear h43 h45
            go_wp2
            go_meet
            exact ⟨rfl, .inl ⟨rfl, hk.out, by omega⟩⟩
          · have e1 : ((s[I].toNat : Int) == 43) = false := by simp; omega
            have e2 : ((s[I].toNat : Int) == 45) = false := by simp; omega
            have hk : Hid (K = I) := Lib.hid (by rw [← HK.out, signed, HI2.out]; simp [sg, h43, h45])
            clear h43 h45
            go_wp2
            go_meet
            exact ⟨rfl, .inr ⟨rfl, hk.out, by omega⟩⟩
      · have hk : Hid (K = I) := Lib.hid (by rw [← HK.out, signed, List.getElem?_eq_none (by simp; omega)])
        go_wp2
        go_meet
        exact ⟨rfl, .inr ⟨rfl, hk.out, by omega⟩⟩
    case rest =>
      obtain ⟨rfl, hcut⟩ := hcut
      obtain ⟨J, hJ⟩ : ∃ J, scan dg s.data.toList K = J := ⟨_, rfl⟩
      have hJ1 : K ≤ J ∧ J ≤ s.size := by
        rw [← hJ]
        have h1 := scan_le (p := dg) (l := s.data.toList) (i := K) (by simp; omega)
        have h2 := scan_ge dg s.data.toList K
        simp at h1
        omega
      have HJ := Lib.hid hJ
      clear hJ
      rcases hcut with ⟨rfl, hk, hI2⟩ | ⟨rfl, hk, hI2⟩
      all_goals
       have HKI := Lib.hid hk
       clear hk
       go_upto_block 2 with fail
       go_cut [4, 6] (fun s4 s6 wx => w = wx ∧ s4 = .int .i64 J ∧ s6 = .int .i64 K)
       case first =>
         go_wp2_with fail
         go_loopg [4] (s.size - K) (fun g s4 wx => w = wx ∧ ∃ k : Nat, K ≤ k ∧ k ≤ s.size ∧ g = s.size - k ∧ s4 = .int .i64 k ∧ scan dg s.data.toList k = J)
         case atStart => exact ⟨rfl, K, by omega, by omega, rfl, by rw [HKI.out]; all_goals go_num, HJ.out⟩
         case round =>
           obtain ⟨rfl, k, hk0, hk, rfl, rfl, hf⟩ := hrel
           have HF := Lib.hid hf
           clear hf
           by_cases hlt : k < s.size
           · cases hw : dg s[k] with
             | true =>
               obtain ⟨c1, c2⟩ := dg_nat hw
               have HW := Lib.hid hw
               have hb : s[k].toNat < 256 := s[k].toNat_lt
               clear hw
               go_wp2_with (go_at_call 30; refine (digit_t _ _ (by omega) (by omega)).mono ?_; rintro e w' ⟨rfl, rfl⟩)
               go_roundg (s.size - (k + 1))
               case measure => omega
               case rel => exact ⟨rfl, k + 1, by omega, by omega, rfl, by go_num, by rw [← hit dg s k hlt HW.out]; exact HF.out⟩
             | false =>
               have hkI : Hid (k = J) := Lib.hid (by rw [← HF.out, miss dg s k hlt hw])
               have hcc : s[k].toNat < 48 ∨ (48 ≤ s[k].toNat ∧ 57 < s[k].toNat) := by
                 simp only [dg, Bool.and_eq_false_iff, decide_eq_false_iff_not] at hw; omega
               have hb : s[k].toNat < 256 := s[k].toNat_lt
               clear hw
               rcases hcc with hcc | ⟨hc1, hc2⟩
               all_goals
                 go_wp2_with (go_at_call 30; refine (digit_f _ _ (by omega)).mono ?_; rintro e w' ⟨rfl, rfl⟩)
                 go_meet
                 exact ⟨rfl, by rw [hkI.out], by rw [HKI.out]; all_goals go_num⟩
           · have hkI : Hid (k = J) := Lib.hid (by rw [← HF.out, atEnd dg s k (by omega)])
             go_wp2
             go_meet
             exact ⟨rfl, by rw [hkI.out], by rw [HKI.out]; all_goals go_num⟩
       case rest =>
         obtain ⟨rfl, rfl, rfl⟩ := hcut
         have HV : Hid (numV s.data.toList = (intV ((s.data.toList.drop I).take (J - I)), decide (K < J))) := Lib.hid (by unfold numV; rw [HI.out, HK.out, HJ.out])
         have hO : OkP (s.extract I J).data.toList := okP_of HK.out HJ.out
         have hS : (s.extract I J).size ≤ maxLen := by simp; omega
         have hIJ : (I : Int) ≤ (J : Int) := by omega
         have hJs : (J : Int) ≤ (s.size : Int) := by omega
         go_wp2_with (go_at_call 31; refine (intP_any _ _ hS hO).mono ?_; rintro e w' ⟨rfl, hB⟩)
         go_ret2
         exact ⟨by rw [HV.out]; rfl, hB⟩
end Go.Proofs.YtkcpoapbncpiiaaGreatDoor.Num
