/- fleuronref15.Number of any text. -/
import Derived.Test.YtkcpoapbncpiiaaGreatDoorNI
import Derived.Deep.CutBlock
import Derived.Deep.DeepCutAuto
namespace Go.Proofs.YtkcpoapbncpiiaaGreatDoor.Num
open Go Go.RowKit
theorem wh_nat {c : UInt8} (h : wh c = true) : (c.toNat : Int) = 10 ∨ (c.toNat : Int) = 9 ∨ (c.toNat : Int) = 32 := by
  simp only [wh, Bool.or_eq_true, decide_eq_true_eq] at h; omega
theorem wh_not {c : UInt8} (h : wh c = false) : (c.toNat : Int) ≠ 10 ∧ (c.toNat : Int) ≠ 9 ∧ (c.toNat : Int) ≠ 32 := by
  simp only [wh, Bool.or_eq_false_iff, decide_eq_false_iff_not] at h; omega
theorem hit (p : UInt8 → Bool) (s : ByteArray) (k : Nat) (h : k < s.size) (hp : p s[k] = true) : scan p s.data.toList k = scan p s.data.toList (k + 1) :=
  scan_hit (by simpa using h) hp
theorem miss (p : UInt8 → Bool) (s : ByteArray) (k : Nat) (h : k < s.size) (hp : p s[k] = false) : scan p s.data.toList k = k :=
  scan_miss (by simpa using h) hp
theorem atEnd (p : UInt8 → Bool) (s : ByteArray) (k : Nat) (h : s.size ≤ k) : scan p s.data.toList k = k := scan_end (by simpa using h)
theorem extract_list (s : ByteArray) (i j : Nat) : (s.extract i j).data.toList = (s.data.toList.drop i).take (j - i) := by
  rw [ByteArray.data_extract, Array.toList_extract]
theorem signed_cases {l : List UInt8} {I K : Nat} (h : signed l I = K) : K = I ∨ (K = I + 1 ∧ ∃ c, l[I]? = some c ∧ (c.toNat = 43 ∨ c.toNat = 45)) := by
  unfold signed at h
  split at h
  · rename_i c hc
    split at h
    · rename_i hs
      exact .inr ⟨h.symm, c, hc, by simpa [sg] using hs⟩
    · exact .inl h.symm
  · exact .inl h.symm
theorem take_scan (p : UInt8 → Bool) (l : List UInt8) (K : Nat) : (l.drop K).take (scan p l K - K) = (l.drop K).takeWhile p := by
  unfold scan
  rw [Nat.add_sub_cancel_left]
  exact (List.prefix_iff_eq_take.1 (List.takeWhile_prefix p)).symm
theorem drop_take_succ {l : List UInt8} {I J : Nat} {c : UInt8} (h : l[I]? = some c) (hJ : I + 1 ≤ J) : (l.drop I).take (J - I) = c :: (l.drop (I + 1)).take (J - (I + 1)) := by
  obtain ⟨hi, hc⟩ := List.getElem?_eq_some_iff.1 h
  rw [List.drop_eq_getElem_cons hi, hc, show J - I = (J - (I + 1)) + 1 by omega, List.take_succ_cons]
theorem numV_zero {s : ByteArray} {I K J : Nat} (hI : scan wh s.data.toList 0 = I) (hK : signed s.data.toList I = K) (hJ : scan dg s.data.toList K = J) (h : J = K) : numV s.data.toList = (0, false) := by
  unfold numV
  rw [hI, hK, hJ, h]
  rcases signed_cases hK with rfl | ⟨rfl, c, hc, hs⟩
  · simp [intV]
  · rw [drop_take_succ hc (Nat.le_refl _), Nat.sub_self, List.take_zero, intV]
    rcases hs with hs | hs
    · rw [if_neg (by omega), if_pos hs]; simp [val]; omega
    · rw [if_pos hs]; simp [val]; omega
theorem numV_some {s : ByteArray} {I K J : Nat} (hI : scan wh s.data.toList 0 = I) (hK : signed s.data.toList I = K) (hJ : scan dg s.data.toList K = J) (h : K < J) : numV s.data.toList = (intV ((s.data.toList.drop I).take (J - I)), true) := by
  unfold numV
  rw [hI, hK, hJ]
  simp [h]
theorem mem_takeWhile (p : UInt8 → Bool) : ∀ (l : List UInt8) (x : UInt8), x ∈ l.takeWhile p → p x = true
  | [], x, h => by simp at h
  | c :: r, x, h => by
    rw [List.takeWhile_cons] at h
    split at h
    · rename_i hc
      rcases List.mem_cons.1 h with rfl | h
      · exact hc
      · exact mem_takeWhile p r x h
    · simp at h
theorem okI_of {s : ByteArray} {I K J : Nat} (hK : signed s.data.toList I = K) (hJ : scan dg s.data.toList K = J) (h : K < J) : OkI (s.extract I J).data.toList := by
  rw [extract_list]
  have hd : ∀ x ∈ (s.data.toList.drop K).take (J - K), dg x = true := fun x hx => by
    rw [← hJ, take_scan] at hx
    exact mem_takeWhile dg _ x hx
  have hn : (s.data.toList.drop K).take (J - K) ≠ [] := by
    rw [← hJ, take_scan]
    intro he
    have : scan dg s.data.toList K = K := by unfold scan; rw [he]; rfl
    omega
  rcases signed_cases hK with rfl | ⟨rfl, c, hc, hs⟩
  · cases hx : (s.data.toList.drop K).take (J - K) with
    | nil => exact absurd hx hn
    | cons c r =>
      rw [hx] at hd
      exact ⟨c, r, rfl, .inr (.inr (hd c (List.mem_cons_self ..))), fun x hx => hd x (List.mem_cons_of_mem _ hx)⟩
  · rw [drop_take_succ hc (by omega)]
    exact ⟨c, _, rfl, hs.elim (fun h => .inr (.inl h)) .inl, hd⟩
set_option maxRecDepth 100000 in
set_option maxHeartbeats 1000000 in
theorem numberR_any (s : ByteArray) (w : World) (hs : s.size ≤ maxLen) : Calls Tryz.prog 18 #[.string s] w fun e w' => e = .returned (.tuple #[.int .i64 (numV s.data.toList).1, .bool (numV s.data.toList).2]) ∧ w = w' := by
  have hs' : s.size ≤ 9223372036854775807 := hs
  obtain ⟨I, hI⟩ : ∃ I, scan wh s.data.toList 0 = I := ⟨_, rfl⟩
  have hI1 : I ≤ s.size := by rw [← hI]; have := scan_le (p := wh) (l := s.data.toList) (i := 0) (Nat.zero_le _); simpa using this
  have HI := Lib.hid hI
  clear hI
  go_enter Tryz.func18, Tryz.ntmps18
  go_upto_block 0 with fail
  go_cut [4] (fun s4 wx => w = wx ∧ s4 = .int .i64 I)
  case first =>
    go_wp2_with fail
    go_loopg [4] s.size (fun g s4 wx => w = wx ∧ ∃ k : Nat, k ≤ s.size ∧ g = s.size - k ∧ s4 = .int .i64 k ∧ scan wh s.data.toList k = I)
    case atStart => exact ⟨rfl, 0, Nat.zero_le _, rfl, rfl, HI.out⟩
    case round =>
      obtain ⟨rfl, k, hk, rfl, rfl, hf⟩ := hrel
      have HF := Lib.hid hf
      clear hf
      by_cases hlt : k < s.size
      · cases hw : wh s[k] with
        | true =>
          have hc := wh_nat hw
          have HW := Lib.hid hw
          clear hw
          go_wp2_with (go_at_call 32; refine (whiteR_t _ _ hc).mono ?_; rintro e w' ⟨rfl, rfl⟩)
          go_roundg (s.size - (k + 1))
          case measure => omega
          case rel => exact ⟨rfl, k + 1, by omega, rfl, by go_num, by rw [← hit wh s k hlt HW.out]; exact HF.out⟩
        | false =>
          obtain ⟨c1, c2, c3⟩ := wh_not hw
          have hb : s[k].toNat < 256 := s[k].toNat_lt
          have HW := Lib.hid hw
          clear hw
          have hkI : Hid (k = I) := Lib.hid (by rw [← HF.out, miss wh s k hlt HW.out])
          go_wp2_with (go_at_call 32; refine (whiteR_f _ _ c1 c2 c3).mono ?_; rintro e w' ⟨rfl, rfl⟩)
          go_meet
          exact ⟨rfl, by rw [hkI.out]⟩
      · have hkI : Hid (k = I) := Lib.hid (by rw [← HF.out, atEnd wh s k (by omega)])
        go_wp2
        go_meet
        exact ⟨rfl, by rw [hkI.out]⟩
  case rest =>
    obtain ⟨rfl, rfl⟩ := hcut
    obtain ⟨K, hK⟩ : ∃ K, signed s.data.toList I = K := ⟨_, rfl⟩
    have hK1 : I ≤ K ∧ K ≤ s.size := by
      rw [← hK]; unfold signed
      split
      · rename_i c hc
        have := (List.getElem?_eq_some_iff.1 hc).1
        simp at this
        split <;> omega
      · omega
    have HK := Lib.hid hK
    clear hK
    go_upto_region 5 with fail
    go_cut [36] (fun s36 wx => w = wx ∧ ((s36 = .bool true ∧ K = I + 1 ∧ I + 1 ≤ s.size) ∨ (s36 = .bool false ∧ K = I ∧ I ≤ s.size)))
    case first =>
      by_cases hlt : I < s.size
      · have hIl := at_list s I hlt
        have HI2 := Lib.hid hIl
        clear hIl
        by_cases h43 : s[I].toNat = 43
        · have e1 : ((s[I].toNat : Int) == 43) = true := by simp; omega
          have hk : Hid (K = I + 1) := Lib.hid (by rw [← HK.out, signed, HI2.out]; simp [sg, h43])
          clear h43
          go_wp2
          go_meet
          exact ⟨rfl, .inl ⟨rfl, hk.out, by omega⟩⟩
        · by_cases h45 : s[I].toNat = 45
          · have e1 : ((s[I].toNat : Int) == 43) = false := by simp; omega
            have e2 : ((s[I].toNat : Int) == 45) = true := by simp; omega
            have hk : Hid (K = I + 1) := Lib.hid (by rw [← HK.out, signed, HI2.out]; simp [sg, h45])
            clear h43 h45
            go_wp2
            go_meet
            exact ⟨rfl, .inl ⟨rfl, hk.out, by omega⟩⟩
          · have e1 : ((s[I].toNat : Int) == 43) = false := by simp; omega
            have e2 : ((s[I].toNat : Int) == 45) = false := by simp; omega
            have hk : Hid (K = I) := Lib.hid (by rw [← HK.out, signed, HI2.out]; simp [sg, h43, h45])
            clear h43 h45
            go_wp2
            go_meet
            exact ⟨rfl, .inr ⟨rfl, hk.out, by omega⟩⟩
      · have hk : Hid (K = I) := Lib.hid (by rw [← HK.out, signed, List.getElem?_eq_none (by simp; omega)])
        go_wp2
        go_meet
        exact ⟨rfl, .inr ⟨rfl, hk.out, by omega⟩⟩
    case rest =>
      obtain ⟨rfl, hcut⟩ := hcut
      obtain ⟨J, hJ⟩ : ∃ J, scan dg s.data.toList K = J := ⟨_, rfl⟩
      have hJ1 : K ≤ J ∧ J ≤ s.size := by
        rw [← hJ]
        have h1 := scan_le (p := dg) (l := s.data.toList) (i := K) (by simp; omega)
        have h2 := scan_ge dg s.data.toList K
        simp at h1
        omega
      have HJ := Lib.hid hJ
      clear hJ
      rcases hcut with ⟨rfl, hk, hI2⟩ | ⟨rfl, hk, hI2⟩
      all_goals
       have HKI := Lib.hid hk
       clear hk
       go_upto_block 2 with fail
       go_cut [5, 6] (fun s5 s6 wx => w = wx ∧ s5 = .int .i64 K ∧ s6 = .int .i64 J)
       case first =>
         go_wp2_with fail
         go_loopg [6] (s.size - K) (fun g s6 wx => w = wx ∧ ∃ k : Nat, K ≤ k ∧ k ≤ s.size ∧ g = s.size - k ∧ s6 = .int .i64 k ∧ scan dg s.data.toList k = J)
         case atStart => exact ⟨rfl, K, by omega, by omega, rfl, by rw [HKI.out]; all_goals go_num, HJ.out⟩
         case round =>
           obtain ⟨rfl, k, hk0, hk, rfl, rfl, hf⟩ := hrel
           have HF := Lib.hid hf
           clear hf
           by_cases hlt : k < s.size
           · cases hw : dg s[k] with
             | true =>
               obtain ⟨c1, c2⟩ := dg_nat hw
               have HW := Lib.hid hw
               clear hw
               go_wp2
               go_roundg (s.size - (k + 1))
               case measure => omega
               case rel => exact ⟨rfl, k + 1, by omega, by omega, rfl, by go_num, by rw [← hit dg s k hlt HW.out]; exact HF.out⟩
             | false =>
               have hkI : Hid (k = J) := Lib.hid (by rw [← HF.out, miss dg s k hlt hw])
               have hcc : s[k].toNat < 48 ∨ (48 ≤ s[k].toNat ∧ 57 < s[k].toNat) := by
                 simp only [dg, Bool.and_eq_false_iff, decide_eq_false_iff_not] at hw; omega
               clear hw
               rcases hcc with hcc | ⟨hc1, hc2⟩
               all_goals
                 go_wp2
                 go_meet
                 exact ⟨rfl, by rw [HKI.out]; all_goals go_num, by rw [hkI.out]⟩
           · have hkI : Hid (k = J) := Lib.hid (by rw [← HF.out, atEnd dg s k (by omega)])
             go_wp2
             go_meet
             exact ⟨rfl, by rw [HKI.out]; all_goals go_num, by rw [hkI.out]⟩
       case rest =>
         obtain ⟨rfl, rfl, rfl⟩ := hcut
         by_cases hJK : J = K
         · have e1 : ((J : Int) == (K : Int)) = true := by simp; omega
           have HV : Hid (numV s.data.toList = (0, false)) := Lib.hid (numV_zero HI.out HK.out HJ.out hJK)
           clear hJK
           go_wp2
           go_ret2
           exact ⟨by rw [HV.out]; rfl, rfl⟩
         · have e1 : ((J : Int) == (K : Int)) = false := by simp; omega
           have hKJ : K < J := by omega
           have HV : Hid (numV s.data.toList = (intV ((s.data.toList.drop I).take (J - I)), true)) := Lib.hid (numV_some HI.out HK.out HJ.out hKJ)
           have hO : OkI (s.extract I J).data.toList := okI_of HK.out HJ.out hKJ
           have hS : (s.extract I J).size ≤ maxLen := by simp; omega
           have hIJ : (I : Int) ≤ (J : Int) := by omega
           have hJs : (J : Int) ≤ (s.size : Int) := by omega
           clear hJK
           go_wp2_with (go_at_call 33; refine (intR_any _ _ hS hO).mono ?_; rintro e w' ⟨rfl, rfl⟩)
           go_ret2
           exact ⟨by rw [HV.out]; rfl, rfl⟩
end Go.Proofs.YtkcpoapbncpiiaaGreatDoor.Num
