/- fleuronlaw11.RegistryExtends: shapes of its arguments; runs that are made again and again are told of terms that stay the same. -/
import Derived.Test.YtmgjgdnjkgnbiaaGreatDoorQ0
namespace Go.Proofs.YtmgjgdnjkgnbiaaGreatDoor.HM
open Go Go.RowKit
variable [E : Amb]
def letT (s : Int) (p : Nat) : Nat → List LT
  | 0 => []
  | n + 1 => ⟨s, p, 0, 25⟩ :: letT (26 * s) (p + 1) n
def ones : Nat → Int
  | 0 => 0
  | n + 1 => 26 * ones n + 1
def esh (i : Nat) : V := match Nat.ble i 9 with
  | true => .int .i64 (.ofNat i)
  | false => match Nat.ble i 19 with
    | true => shA (i + 1)
    | false => match i with
      | 20 => .lin .i64 1 [⟨1, 0, 9, 25⟩]
      | 26 => .lin .i64 (ones 7) (letT 1 0 6 ++ [⟨308915776, 6, 0, 4⟩])
      | 27 => .lin .i64 (ones 7 + 5 * 308915776) (letT 1 0 5 ++ [⟨11881376, 5, 0, 22⟩])
      | 28 => .lin .i64 (ones 7 + 5 * 308915776 + 23 * 11881376) (letT 1 0 4 ++ [⟨456976, 4, 0, 17⟩])
      | 29 => .lin .i64 (ones 7 + 5 * 308915776 + 23 * 11881376 + 18 * 456976) (letT 1 0 3 ++ [⟨17576, 3, 0, 6⟩])
      | 30 => .lin .i64 (ones 7 + 5 * 308915776 + 23 * 11881376 + 18 * 456976 + 7 * 17576) (letT 1 0 2 ++ [⟨676, 2, 0, 16⟩])
      | 31 => .lin .i64 (ones 7 + 5 * 308915776 + 23 * 11881376 + 18 * 456976 + 7 * 17576 + 17 * 676) (letT 1 0 1 ++ [⟨26, 1, 0, 22⟩])
      | 32 => .lin .i64 (ones 7 + 5 * 308915776 + 23 * 11881376 + 18 * 456976 + 7 * 17576 + 17 * 676 + 23 * 26) [⟨1, 0, 0, 22⟩]
      | i => .lin .i64 (ones (i - 19)) (letT 1 0 (i - 19))
def xsh (k : Nat) : List UInt8 := ([64,99,111,117,110,116,101,114,45,115,116,121,108,101,32,98,32,123,32,115,121,115,116,101,109,58,32,99,121,99,108,105,99,59,32,115,121,109,98,111,108,115,58,32,117,32,118,59,32,110,101,103,97,116,105,118,101,58,32,39,77,39,59,32,112,114,101,102,105,120,58,32,39,112,39,59,32,115,117,102,102,105,120,58,32,39,115,39,59,32,114,97,110,103,101,58,32,50,32,57,59,32,112,97,100,58,32,50,32,39,111,39,59,32,102,97,108,108,98,97,99,107,58,32,108,111,119,101,114,45,97,108,112,104,97,32,125,32,64,99,111,117,110,116,101,114,45,115,116,121,108,101,32,97,32,123,32,115,121,115,116,101,109,58,32,101,120,116,101,110,100,115,32,98,59] : List UInt8) ++ (((match Nat.beq (k / 1 % 2) 1 with | true => ([110,101,103,97,116,105,118,101,58,32,39,78,39,59] : List UInt8) | false => []) ++ ((match Nat.beq (k / 2 % 2) 1 with | true => ([112,114,101,102,105,120,58,32,39,80,39,59] : List UInt8) | false => []) ++ ((match Nat.beq (k / 4 % 2) 1 with | true => ([115,117,102,102,105,120,58,32,39,83,39,59] : List UInt8) | false => []) ++ ((match Nat.beq (k / 8 % 2) 1 with | true => ([114,97,110,103,101,58,32,49,32,51,59] : List UInt8) | false => []) ++ ((match Nat.beq (k / 16 % 2) 1 with | true => ([112,97,100,58,32,52,32,39,120,39,59] : List UInt8) | false => []) ++ (match Nat.beq (k / 32 % 2) 1 with | true => ([102,97,108,108,98,97,99,107,58,32,117,112,112,101,114,45,97,108,112,104,97,59] : List UInt8) | false => [])))))) ++ [125])
noncomputable def frzS (spec : Spec) : Spec := fun args h => match V.areData args with
  | true => match spec args Hp.empty with
    | some (r, h0) => match frzR h0 r with
      | some r' => some (r', h)
      | none => none
    | none => none
  | false => none
theorem frz_sound {P : Program} {Γ : Glob} {f : FuncId} {spec : Spec} (hsd : Sound P Γ f spec) : Sound P Γ f (frzS spec) := by
  intro args h r h' hs N0 w0 ρ w us H hv
  unfold frzS at hs
  split at hs
  · rename_i d
    split at hs
    · rename_i r0 h0 hr
      split at hs
      · rename_i r' hrd
        simp only [Option.some.injEq, Prod.mk.injEq] at hs; obtain ⟨rfl, rfl⟩ := hs
        refine (hsd _ _ _ _ hr _ _ _ _ _ H.startB (areData_VRs d hv)).mono ?_
        rintro e w' ⟨ρ', v, rfl, k0, k1, k2⟩
        exact ⟨_, v, rfl, frz_ext _ _, frz_rel H k1.below, frzR_sound H k1 k2 hrd⟩
      · cases hs
    · cases hs
  · cases hs
noncomputable def toldB (f : FuncId) (A : List V) (R : V) : Bool := match V.areData A with
  | true => match goC f A Hp.empty with
    | some (r, h0) => match frzR h0 r with
      | some r' => V.same r' R
      | none => false
    | none => false
  | false => false
noncomputable def tellS (A : List V) (R : V) (spec : Spec) : Spec := fun args h => Bool.rec (motive := fun _ => Option (V × Hp)) (spec args h) (some (R, h)) (samesF args A)
theorem tell_sound {f : FuncId} {A : List V} {R : V} (ht : toldB f A R = true) : Sound Tryz.prog gam f (tellS A R (goC f)) := by
  intro args h r h' hs N0 w0 ρ w us H hv
  revert hs
  show Bool.rec (motive := fun _ => Option (V × Hp)) (goC f args h) (some (R, h)) (samesF args A) = some (r, h') → _
  cases he : samesF args A with
  | false => intro hs; exact goC_sound f args h r h' hs N0 w0 ρ w us H hv
  | true =>
    intro hs
    rw [samesF_eq] at he
    obtain rfl := V.sames_eq _ _ he
    refine frz_sound (goC_sound f) args h r h' ?_ N0 w0 ρ w us H hv
    revert ht
    unfold toldB frzS
    generalize V.areData args = d
    generalize goC f args Hp.empty = o
    cases d with
    | false => intro ht; cases ht
    | true =>
      cases o with
      | none => intro ht; cases ht
      | some p =>
        obtain ⟨r0, h0⟩ := p
        dsimp only
        generalize frzR h0 r0 = q
        cases q with
        | none => intro ht; cases ht
        | some r' =>
          intro ht
          have e := V.same_eq _ _ ht
          subst e
          exact hs
theorem tell2_sound {f : FuncId} {A : List V} {R : V} {spec : Spec} (ht : toldB f A R = true) (hsd : Sound Tryz.prog gam f spec) : Sound Tryz.prog gam f (tellS A R spec) := by
  intro args h r h' hs N0 w0 ρ w us H hv
  revert hs
  show Bool.rec (motive := fun _ => Option (V × Hp)) (spec args h) (some (R, h)) (samesF args A) = some (r, h') → _
  cases he : samesF args A with
  | false => intro hs; exact hsd args h r h' hs N0 w0 ρ w us H hv
  | true =>
    intro hs
    refine tell_sound ht args h r h' ?_ N0 w0 ρ w us H hv
    show Bool.rec (motive := fun _ => Option (V × Hp)) (goC f args h) (some (R, h)) (samesF args A) = some (r, h')
    rw [he]; exact hs
def iV (n : Nat) : V := .int .i64 (.ofNat n)
def rV (n : Nat) : V := .int .i32 (.ofNat n)
def bV (n : Nat) : V := .int .u8 (.ofNat n)
def fV : V := .bool false
def tV : V := .bool true
def eV : V := .str []
noncomputable def own0V : V := (.pl 10 16 [(.str [100, 101, 99, 105, 109, 97, 108]), (.str [110, 117, 109, 101, 114, 105, 99]), (iV 1), (.pl 10 1 [(.str [48]), (.str [49]), (.str [50]), (.str [51]), (.str [52]), (.str [53]), (.str [54]), (.str [55]), (.str [56]), (.str [57])]), .nils, (.str [45]), eV, eV, (.str [46, 32]), tV, .nils, (iV 0), eV, (.str [100, 101, 99, 105, 109, 97, 108]), eV, (iV 0), (.str [100, 101, 99, 105, 109, 97, 108, 45, 108, 101, 97, 100, 105, 110, 103, 45, 122, 101, 114, 111]), (.str [110, 117, 109, 101, 114, 105, 99]), (iV 1), (.pl 10 1 [(.str [48]), (.str [49]), (.str [50]), (.str [51]), (.str [52]), (.str [53]), (.str [54]), (.str [55]), (.str [56]), (.str [57])]), .nils, (.str [45]), eV, eV, (.str [46, 32]), tV, .nils, (iV 2), (.str [48]), (.str [100, 101, 99, 105, 109, 97, 108]), eV, (iV 0), (.str [108, 111, 119, 101, 114, 45, 97, 108, 112, 104, 97]), (.str [97, 108, 112, 104, 97, 98, 101, 116, 105, 99]), (iV 1), (.pl 26 1 [(.str [97]), (.str [98]), (.str [99]), (.str [100]), (.str [101]), (.str [102]), (.str [103]), (.str [104]), (.str [105]), (.str [106]), (.str [107]), (.str [108]), (.str [109]), (.str [110]), (.str [111]), (.str [112]), (.str [113]), (.str [114]), (.str [115]), (.str [116]), (.str [117]), (.str [118]), (.str [119]), (.str [120]), (.str [121]), (.str [122])]), .nils, (.str [45]), eV, eV, (.str [46, 32]), tV, .nils, (iV 0), eV, (.str [100, 101, 99, 105, 109, 97, 108]), eV, (iV 0), (.str [117, 112, 112, 101, 114, 45, 97, 108, 112, 104, 97]), (.str [97, 108, 112, 104, 97, 98, 101, 116, 105, 99]), (iV 1), (.pl 26 1 [(.str [65]), (.str [66]), (.str [67]), (.str [68]), (.str [69]), (.str [70]), (.str [71]), (.str [72]), (.str [73]), (.str [74]), (.str [75]), (.str [76]), (.str [77]), (.str [78]), (.str [79]), (.str [80]), (.str [81]), (.str [82]), (.str [83]), (.str [84]), (.str [85]), (.str [86]), (.str [87]), (.str [88]), (.str [89]), (.str [90])]), .nils, (.str [45]), eV, eV, (.str [46, 32]), tV, .nils, (iV 0), eV, (.str [100, 101, 99, 105, 109, 97, 108]), eV, (iV 0), (.str [108, 111, 119, 101, 114, 45, 114, 111, 109, 97, 110]), (.str [97, 100, 100, 105, 116, 105, 118, 101]), (iV 1), (.pl 13 1 [(.str [109]), (.str [99, 109]), (.str [100]), (.str [99, 100]), (.str [99]), (.str [120, 99]), (.str [108]), (.str [120, 108]), (.str [120]), (.str [105, 120]), (.str [118]), (.str [105, 118]), (.str [105])]), (.pl 13 1 [(iV 1000), (iV 900), (iV 500), (iV 400), (iV 100), (iV 90), (iV 50), (iV 40), (iV 10), (iV 9), (iV 5), (iV 4), (iV 1)]), (.str [45]), eV, eV, (.str [46, 32]), fV, (.pl 1 2 [(iV 1), (iV 3999)]), (iV 0), eV, (.str [100, 101, 99, 105, 109, 97, 108]), eV, (iV 0), (.str [117, 112, 112, 101, 114, 45, 114, 111, 109, 97, 110]), (.str [97, 100, 100, 105, 116, 105, 118, 101]), (iV 1), (.pl 13 1 [(.str [77]), (.str [67, 77]), (.str [68]), (.str [67, 68]), (.str [67]), (.str [88, 67]), (.str [76]), (.str [88, 76]), (.str [88]), (.str [73, 88]), (.str [86]), (.str [73, 86]), (.str [73])]), (.pl 13 1 [(iV 1000), (iV 900), (iV 500), (iV 400), (iV 100), (iV 90), (iV 50), (iV 40), (iV 10), (iV 9), (iV 5), (iV 4), (iV 1)]), (.str [45]), eV, eV, (.str [46, 32]), fV, (.pl 1 2 [(iV 1), (iV 3999)]), (iV 0), eV, (.str [100, 101, 99, 105, 109, 97, 108]), eV, (iV 0), (.str [108, 111, 119, 101, 114, 45, 103, 114, 101, 101, 107]), (.str [97, 108, 112, 104, 97, 98, 101, 116, 105, 99]), (iV 1), (.pl 24 1 [(.str [206, 177]), (.str [206, 178]), (.str [206, 179]), (.str [206, 180]), (.str [206, 181]), (.str [206, 182]), (.str [206, 183]), (.str [206, 184]), (.str [206, 185]), (.str [206, 186]), (.str [206, 187]), (.str [206, 188]), (.str [206, 189]), (.str [206, 190]), (.str [206, 191]), (.str [207, 128]), (.str [207, 129]), (.str [207, 131]), (.str [207, 132]), (.str [207, 133]), (.str [207, 134]), (.str [207, 135]), (.str [207, 136]), (.str [207, 137])]), .nils, (.str [45]), eV, eV, (.str [46, 32]), tV, .nils, (iV 0), eV, (.str [100, 101, 99, 105, 109, 97, 108]), eV, (iV 0), (.str [100, 105, 115, 99]), (.str [99, 121, 99, 108, 105, 99]), (iV 1), (.pl 1 1 [(.str [226, 128, 162])]), .nils, (.str [45]), eV, eV, (.str [32]), tV, .nils, (iV 0), eV, (.str [100, 101, 99, 105, 109, 97, 108]), eV, (iV 0), (.str [99, 105, 114, 99, 108, 101]), (.str [99, 121, 99, 108, 105, 99]), (iV 1), (.pl 1 1 [(.str [226, 151, 166])]), .nils, (.str [45]), eV, eV, (.str [32]), tV, .nils, (iV 0), eV, (.str [100, 101, 99, 105, 109, 97, 108]), eV, (iV 0), (.str [115, 113, 117, 97, 114, 101]), (.str [99, 121, 99, 108, 105, 99]), (iV 1), (.pl 1 1 [(.str [226, 150, 170])]), .nils, (.str [45]), eV, eV, (.str [32]), tV, .nils, (iV 0), eV, (.str [100, 101, 99, 105, 109, 97, 108]), eV, (iV 0)])
omit [E : Amb] in
theorem own0_t : toldB 22 [] own0V = true := by kernel_rfl
omit [E : Amb] in
theorem can0_t : toldB 34 [.str ([97] : List UInt8)] (.str ([97] : List UInt8)) = true := by kernel_rfl
omit [E : Amb] in
theorem can1_t : toldB 34 [.str ([98] : List UInt8)] (.str ([98] : List UInt8)) = true := by kernel_rfl
omit [E : Amb] in
theorem can2_t : toldB 34 [.str ([108,111,119,101,114,45,97,108,112,104,97] : List UInt8)] (.str ([108,111,119,101,114,45,97,108,112,104,97] : List UInt8)) = true := by kernel_rfl
omit [E : Amb] in
theorem can3_t : toldB 34 [.str ([117,112,112,101,114,45,97,108,112,104,97] : List UInt8)] (.str ([117,112,112,101,114,45,97,108,112,104,97] : List UInt8)) = true := by kernel_rfl
omit [E : Amb] in
theorem can4_t : toldB 34 [.str ([100,101,99,105,109,97,108] : List UInt8)] (.str ([100,101,99,105,109,97,108] : List UInt8)) = true := by kernel_rfl
omit [E : Amb] in
theorem am0_t : toldB 49 [.str ([110,111,110,101,32,105,110,105,116,105,97,108,32,105,110,104,101,114,105,116,32,117,110,115,101,116,32,100,101,102,97,117,108,116] : List UInt8), .str ([97] : List UInt8)] (.bool false) = true := by kernel_rfl
omit [E : Amb] in
theorem am1_t : toldB 49 [.str ([110,111,110,101,32,105,110,105,116,105,97,108,32,105,110,104,101,114,105,116,32,117,110,115,101,116,32,100,101,102,97,117,108,116] : List UInt8), .str ([98] : List UInt8)] (.bool false) = true := by kernel_rfl
omit [E : Amb] in
theorem am2_t : toldB 49 [.str ([110,111,110,101,32,105,110,105,116,105,97,108,32,105,110,104,101,114,105,116,32,117,110,115,101,116,32,100,101,102,97,117,108,116] : List UInt8), .str ([108,111,119,101,114,45,97,108,112,104,97] : List UInt8)] (.bool false) = true := by kernel_rfl
omit [E : Amb] in
theorem am3_t : toldB 49 [.str ([110,111,110,101,32,105,110,105,116,105,97,108,32,105,110,104,101,114,105,116,32,117,110,115,101,116,32,100,101,102,97,117,108,116] : List UInt8), .str ([117,112,112,101,114,45,97,108,112,104,97] : List UInt8)] (.bool false) = true := by kernel_rfl
omit [E : Amb] in
theorem am4_t : toldB 49 [.str ([99,121,99,108,105,99,32,110,117,109,101,114,105,99,32,97,108,112,104,97,98,101,116,105,99,32,115,121,109,98,111,108,105,99,32,97,100,100,105,116,105,118,101,32,102,105,120,101,100] : List UInt8), .str ([99,121,99,108,105,99] : List UInt8)] (.bool true) = true := by kernel_rfl
omit [E : Amb] in
theorem am5_t : toldB 49 [.str ([100,101,99,105,109,97,108,32,100,105,115,99,32,115,113,117,97,114,101,32,99,105,114,99,108,101] : List UInt8), .str ([97] : List UInt8)] (.bool false) = true := by kernel_rfl
omit [E : Amb] in
theorem am6_t : toldB 49 [.str ([100,101,99,105,109,97,108,32,100,105,115,99,32,115,113,117,97,114,101,32,99,105,114,99,108,101] : List UInt8), .str ([98] : List UInt8)] (.bool false) = true := by kernel_rfl
noncomputable def ownD (i : Nat) : V := match own0V with | .pl _ _ cs => .agg ((cs.drop (16 * i)).take 16) | _ => .tup []
noncomputable def toldG (spec : Spec) (A : List V) (R : V) : Bool := match V.areData A with
  | true => match spec A Hp.empty with
    | some (r, h0) => match frzR h0 r with
      | some r' => V.same r' R
      | none => false
    | none => false
  | false => false
theorem tellG_sound {f : FuncId} {A : List V} {R : V} {spec0 spec : Spec} (ht : toldG spec0 A R = true) (hs0 : Sound Tryz.prog gam f spec0) (hsd : Sound Tryz.prog gam f spec) : Sound Tryz.prog gam f (tellS A R spec) := by
  intro args h r h' hs N0 w0 ρ w us H hv
  revert hs
  show Bool.rec (motive := fun _ => Option (V × Hp)) (spec args h) (some (R, h)) (samesF args A) = some (r, h') → _
  cases he : samesF args A with
  | false => intro hs; exact hsd args h r h' hs N0 w0 ρ w us H hv
  | true =>
    intro hs
    rw [samesF_eq] at he
    obtain rfl := V.sames_eq _ _ he
    refine frz_sound hs0 args h r h' ?_ N0 w0 ρ w us H hv
    revert ht
    unfold toldG frzS
    generalize V.areData args = d
    generalize spec0 args Hp.empty = o
    cases d with
    | false => intro ht; cases ht
    | true =>
      cases o with
      | none => intro ht; cases ht
      | some p =>
        obtain ⟨r0, h0⟩ := p
        dsimp only
        generalize frzR h0 r0 = q
        cases q with
        | none => intro ht; cases ht
        | some r' =>
          intro ht
          have e := V.same_eq _ _ ht
          subst e
          exact hs
omit [E : Amb] in
theorem may0_t : toldG mayS [ownD 0] (.bool true) = true := by kernel_rfl
omit [E : Amb] in
theorem may2_t : toldG mayS [ownD 2] (.bool true) = true := by kernel_rfl
omit [E : Amb] in
theorem may3_t : toldG mayS [ownD 3] (.bool true) = true := by kernel_rfl
noncomputable def mayX : Spec := tellS [ownD 0] (.bool true) (tellS [ownD 2] (.bool true) (tellS [ownD 3] (.bool true) mayS))
theorem mayX_sound : Sound Tryz.prog gam 48 mayX := tellG_sound may0_t mayS_sound (tellG_sound may2_t mayS_sound (tellG_sound may3_t mayS_sound mayS_sound))
noncomputable def canX : Spec := (tellS [.str ([100,101,99,105,109,97,108] : List UInt8)] (.str ([100,101,99,105,109,97,108] : List UInt8)) (tellS [.str ([117,112,112,101,114,45,97,108,112,104,97] : List UInt8)] (.str ([117,112,112,101,114,45,97,108,112,104,97] : List UInt8)) (tellS [.str ([108,111,119,101,114,45,97,108,112,104,97] : List UInt8)] (.str ([108,111,119,101,114,45,97,108,112,104,97] : List UInt8)) (tellS [.str ([98] : List UInt8)] (.str ([98] : List UInt8)) (tellS [.str ([97] : List UInt8)] (.str ([97] : List UInt8)) (goC 34))))))
theorem canX_sound : Sound Tryz.prog gam 34 canX := (tell2_sound can4_t (tell2_sound can3_t (tell2_sound can2_t (tell2_sound can1_t (tell2_sound can0_t (goC_sound _))))))
noncomputable def amX : Spec := (tellS [.str ([100,101,99,105,109,97,108,32,100,105,115,99,32,115,113,117,97,114,101,32,99,105,114,99,108,101] : List UInt8), .str ([98] : List UInt8)] (.bool false) (tellS [.str ([100,101,99,105,109,97,108,32,100,105,115,99,32,115,113,117,97,114,101,32,99,105,114,99,108,101] : List UInt8), .str ([97] : List UInt8)] (.bool false) (tellS [.str ([99,121,99,108,105,99,32,110,117,109,101,114,105,99,32,97,108,112,104,97,98,101,116,105,99,32,115,121,109,98,111,108,105,99,32,97,100,100,105,116,105,118,101,32,102,105,120,101,100] : List UInt8), .str ([99,121,99,108,105,99] : List UInt8)] (.bool true) (tellS [.str ([110,111,110,101,32,105,110,105,116,105,97,108,32,105,110,104,101,114,105,116,32,117,110,115,101,116,32,100,101,102,97,117,108,116] : List UInt8), .str ([117,112,112,101,114,45,97,108,112,104,97] : List UInt8)] (.bool false) (tellS [.str ([110,111,110,101,32,105,110,105,116,105,97,108,32,105,110,104,101,114,105,116,32,117,110,115,101,116,32,100,101,102,97,117,108,116] : List UInt8), .str ([108,111,119,101,114,45,97,108,112,104,97] : List UInt8)] (.bool false) (tellS [.str ([110,111,110,101,32,105,110,105,116,105,97,108,32,105,110,104,101,114,105,116,32,117,110,115,101,116,32,100,101,102,97,117,108,116] : List UInt8), .str ([98] : List UInt8)] (.bool false) (tellS [.str ([110,111,110,101,32,105,110,105,116,105,97,108,32,105,110,104,101,114,105,116,32,117,110,115,101,116,32,100,101,102,97,117,108,116] : List UInt8), .str ([97] : List UInt8)] (.bool false) (goC 49))))))))
theorem amX_sound : Sound Tryz.prog gam 49 amX := (tell2_sound am6_t (tell2_sound am5_t (tell2_sound am4_t (tell2_sound am3_t (tell2_sound am2_t (tell2_sound am1_t (tell2_sound am0_t (goC_sound _))))))))
noncomputable def ownX : Spec := tellS [] own0V (goC 22)
theorem ownX_sound : Sound Tryz.prog gam 22 ownX := tell2_sound own0_t (goC_sound _)
noncomputable def extraB : FuncId → Option Spec := fun g => Bool.rec (motive := fun _ => Option Spec) (Bool.rec (motive := fun _ => Option Spec) (Bool.rec (motive := fun _ => Option Spec) (Bool.rec (motive := fun _ => Option Spec) (extraA g) (some canX) (Nat.beq g 34)) (some amX) (Nat.beq g 49)) (some ownX) (Nat.beq g 22)) (some mayX) (Nat.beq g 48)
theorem extraB_ok (f : FuncId) (s : Spec) (h : extraB f = some s) : CalleeOk Tryz.prog gam f s := by
  revert h
  show Bool.rec (motive := fun _ => Option Spec) (Bool.rec (motive := fun _ => Option Spec) (Bool.rec (motive := fun _ => Option Spec) (Bool.rec (motive := fun _ => Option Spec) (extraA f) (some canX) (Nat.beq f 34)) (some amX) (Nat.beq f 49)) (some ownX) (Nat.beq f 22)) (some mayX) (Nat.beq f 48) = some s → _
  cases h3 : Nat.beq f 48 with
  | true =>
    intro h; obtain rfl := Option.some.inj h
    obtain rfl := Nat.eq_of_beq_eq_true h3
    exact .inl ⟨by kernel_rfl, mayX_sound⟩
  | false =>
    cases h2 : Nat.beq f 22 with
    | true =>
      intro h; obtain rfl := Option.some.inj h
      obtain rfl := Nat.eq_of_beq_eq_true h2
      exact .inl ⟨by kernel_rfl, ownX_sound⟩
    | false =>
      cases h1 : Nat.beq f 49 with
      | true =>
        intro h; obtain rfl := Option.some.inj h
        obtain rfl := Nat.eq_of_beq_eq_true h1
        exact .inl ⟨by kernel_rfl, amX_sound⟩
      | false =>
        cases h0 : Nat.beq f 34 with
        | true =>
          intro h; obtain rfl := Option.some.inj h
          obtain rfl := Nat.eq_of_beq_eq_true h0
          exact .inl ⟨by kernel_rfl, canX_sound⟩
        | false =>
          exact extraA_ok f s
noncomputable def goB : FuncId → Spec := fun f => runX Tryz.prog gam (inTr pur) (inTr clo) ext bod extraB ftab 1000 60 f
theorem goB_sound (f : FuncId) : Sound Tryz.prog gam f (goB f) := runX_sound (prog_ok extraB_ok) tab_ok _ _
def tk (k : Int) (s : List UInt8) (n : Int) (b : Bool) : List V := [.int .i64 k, .str s, .int .i64 n, .bool b, .bool false, .bool false, .nils]
def dclV (name : List UInt8) (n : Nat) (ts : List V) : List V := [.str name, .pl n 7 ts, .bool false]
def rleV (name : List UInt8) (n : Nat) (ds : List V) : List V := [.str ([99,111,117,110,116,101,114,45,115,116,121,108,101] : List UInt8), .pl 1 7 (tk 1 name 0 false), .bool true, .pl n 3 ds]
def xval (k : Nat) : V := .pl 2 4 (rleV [98] 8 (dclV ([115,121,115,116,101,109] : List UInt8) 1 (tk 1 ([99,121,99,108,105,99] : List UInt8) 0 false) ++ (dclV ([115,121,109,98,111,108,115] : List UInt8) 3 (tk 1 ([117] : List UInt8) 0 false ++ tk 13 [] 0 false ++ tk 1 ([118] : List UInt8) 0 false) ++ (dclV ([110,101,103,97,116,105,118,101] : List UInt8) 1 (tk 5 ([77] : List UInt8) 0 false) ++ (dclV ([112,114,101,102,105,120] : List UInt8) 1 (tk 5 ([112] : List UInt8) 0 false) ++ (dclV ([115,117,102,102,105,120] : List UInt8) 1 (tk 5 ([115] : List UInt8) 0 false) ++ (dclV ([114,97,110,103,101] : List UInt8) 3 (tk 10 [] 2 true ++ tk 13 [] 0 false ++ tk 10 [] 9 true) ++ (dclV ([112,97,100] : List UInt8) 3 (tk 10 [] 2 true ++ tk 13 [] 0 false ++ tk 5 ([111] : List UInt8) 0 false) ++ (dclV ([102,97,108,108,98,97,99,107] : List UInt8) 1 (tk 1 ([108,111,119,101,114,45,97,108,112,104,97] : List UInt8) 0 false))))))))) ++ rleV [97] (1 + (k / 1 % 2 + k / 2 % 2 + k / 4 % 2 + k / 8 % 2 + k / 16 % 2 + k / 32 % 2)) (dclV ([115,121,115,116,101,109] : List UInt8) 3 (tk 1 ([101,120,116,101,110,100,115] : List UInt8) 0 false ++ tk 13 [] 0 false ++ tk 1 ([98] : List UInt8) 0 false) ++ ((match Nat.beq (k / 1 % 2) 1 with | true => dclV ([110,101,103,97,116,105,118,101] : List UInt8) 1 (tk 5 ([78] : List UInt8) 0 false) | false => []) ++ ((match Nat.beq (k / 2 % 2) 1 with | true => dclV ([112,114,101,102,105,120] : List UInt8) 1 (tk 5 ([80] : List UInt8) 0 false) | false => []) ++ ((match Nat.beq (k / 4 % 2) 1 with | true => dclV ([115,117,102,102,105,120] : List UInt8) 1 (tk 5 ([83] : List UInt8) 0 false) | false => []) ++ ((match Nat.beq (k / 8 % 2) 1 with | true => dclV ([114,97,110,103,101] : List UInt8) 3 (tk 10 [] 1 true ++ tk 13 [] 0 false ++ tk 10 [] 3 true) | false => []) ++ ((match Nat.beq (k / 16 % 2) 1 with | true => dclV ([112,97,100] : List UInt8) 3 (tk 10 [] 4 true ++ tk 13 [] 0 false ++ tk 5 ([120] : List UInt8) 0 false) | false => []) ++ (match Nat.beq (k / 32 % 2) 1 with | true => dclV ([102,97,108,108,98,97,99,107] : List UInt8) 1 (tk 1 ([117,112,112,101,114,45,97,108,112,104,97] : List UInt8) 0 false) | false => []))))))))
noncomputable def told (k : Nat) : Bool := toldB 14 [.str (xsh k)] (xval k)
noncomputable def extraX (k : Nat) : FuncId → Option Spec := fun g => Bool.rec (motive := fun _ => Option Spec) (Bool.rec (motive := fun _ => Option Spec) (extraB g) (some (tellS [.str (xsh k)] (xval k) (goC 14))) (Nat.beq g 14)) (some (memoG [xval k] Hp.empty (goB 11))) (Nat.beq g 11)
theorem extraX_ok {k : Nat} (ht : told k = true) (f : FuncId) (s : Spec) (h : extraX k f = some s) : CalleeOk Tryz.prog gam f s := by
  revert h
  show Bool.rec (motive := fun _ => Option Spec) (Bool.rec (motive := fun _ => Option Spec) (extraB f) (some (tellS [.str (xsh k)] (xval k) (goC 14))) (Nat.beq f 14)) (some (memoG [xval k] Hp.empty (goB 11))) (Nat.beq f 11) = some s → _
  cases h1 : Nat.beq f 11 with
  | true =>
    intro h; obtain rfl := Option.some.inj h
    obtain rfl := Nat.eq_of_beq_eq_true h1
    exact .inl ⟨by kernel_rfl, memoG_sound (goB_sound _)⟩
  | false =>
    cases h0 : Nat.beq f 14 with
    | true =>
      intro h; obtain rfl := Option.some.inj h
      obtain rfl := Nat.eq_of_beq_eq_true h0
      exact .inl ⟨by kernel_rfl, tell_sound ht⟩
    | false => exact extraB_ok f s
noncomputable def lawRunX (k : Nat) (args : List V) : Bool := isT (runX Tryz.prog gam (inTr pur) (inTr clo) ext bod (extraX k) ftab 1000 60 5 args Hp.empty)
theorem law_cX {k : Nat} (ht : told k = true) {args : List V} (h : lawRunX k args = true) {us : Array Value} {W : World} (hv : VRs Ren.nil args us.toList) (hT : Tabs W) :
    Calls Tryz.prog 5 us W fun e w' => e = .returned (.bool true) ∧ Below W.heap.size W w' := by
  obtain ⟨j, hk⟩ := isT_inv h
  refine (runs_calls (runX_sound (prog_ok (extraX_ok ht)) tab_ok _ _) hk rfl (glob_ok hT) hv).mono ?_
  rintro e w' ⟨v, rfl, hv, hb⟩
  cases hv
  exact ⟨rfl, hb⟩
noncomputable def X (k i : Nat) : Bool := lawRunX k [.mod 64 k, esh i]
noncomputable def XPa (k : Nat) : Bool := X k 0 && (X k 1 && (X k 2 && (X k 3 && (X k 4 && (X k 5 && (X k 6 && (X k 7 && (X k 8 && (X k 9 && (X k 10))))))))))
noncomputable def XPb (k : Nat) : Bool := X k 11 && (X k 12 && (X k 13 && (X k 14 && (X k 15 && (X k 16 && (X k 17 && (X k 18 && (X k 19 && (X k 20 && (X k 21))))))))))
noncomputable def XPc (k : Nat) : Bool := X k 22 && (X k 23 && (X k 24 && (X k 25 && (X k 26 && (X k 27 && (X k 28 && (X k 29 && (X k 30 && (X k 31 && (X k 32))))))))))
end Go.Proofs.YtmgjgdnjkgnbiaaGreatDoor.HM
