/- fleuronlaw11.RegistryPads: shapes of its arguments; runs that are made again and again are told of terms that stay the same. -/
import Derived.Test.YtmgjgdnjkgnbiaaGreatDoorGE
import Derived.Test.YtmgjgdnjkgnbiaaGreatDoorPE
import Derived.Test.YtmgjgdnjkgnbiaaGreatDoorPO
namespace Go.Proofs.YtmgjgdnjkgnbiaaGreatDoor.HM
open Go Go.RowKit
variable [E : Amb]
def dig (s : Int) (p : Nat) (hi : Int) : Nat → List LT
  | 0 => []
  | 1 => [⟨s, p, 1, hi⟩]
  | n + 2 => ⟨s, p, 0, 9⟩ :: dig (10 * s) (p + 1) hi (n + 1)
def shA : Nat → V
  | 0 => .int .i64 0
  | 10 => .lin .i64 0 (dig 1 4000 2 10)
  | 20 => .lin .i64 0 (dig (Int.negSucc 0) 4010 2 10)
  | n => match Nat.ble n 10 with
    | true => .lin .i64 0 (dig 1 0 9 n)
    | false => .lin .i64 0 (dig (Int.negSucc 0) 0 9 (n - 10))
def negB : Nat → Nat → List V
  | _, 0 => []
  | p, n + 1 => .lin .u8 0 [⟨1, p, 97, 122⟩] :: negB (p + 1) n
def negV : Nat → V
  | 0 => .str []
  | n + 1 => .sstr (negB 20 (n + 1))
def decP (n : Nat) : List UInt8 := match Nat.ble 10 n with
  | true => [UInt8.ofNat (48 + n / 10), UInt8.ofNat (48 + n % 10)]
  | false => [UInt8.ofNat (48 + n)]
def intB (l : List UInt8) : List V := l.map fun c => .int .u8 c.toNat
def shV (pad L : Nat) : V := mkSS (intB ([64,99,111,117,110,116,101,114,45,115,116,121,108,101,32,107,32,123,32,115,121,115,116,101,109,58,32,101,120,116,101,110,100,115,32,100,101,99,105,109,97,108,59,32,112,97,100,58,32] ++ decP pad ++ [32,39,35,39,59,32,110,101,103,97,116,105,118,101,58,32,39]) ++ (negB 20 L ++ intB [39,32,39,33,39,32,125]))
noncomputable def memoG (A : List V) (H : Hp) (spec : Spec) : Spec := fun args h => Bool.rec (motive := fun _ => Option (V × Hp)) (spec args h) (Bool.rec (motive := fun _ => Option (V × Hp)) (spec args h) (spec A H) (sameHp h H)) (samesF args A)
theorem memoG_sound {P : Program} {Γ : Glob} {f : FuncId} {spec : Spec} (hsd : Sound P Γ f spec) {A : List V} {H0 : Hp} : Sound P Γ f (memoG A H0 spec) := by
  have e : memoG A H0 spec = spec := by
    funext args h
    show Bool.rec (motive := fun _ => Option (V × Hp)) (spec args h) (Bool.rec (motive := fun _ => Option (V × Hp)) (spec args h) (spec A H0) (sameHp h H0)) (samesF args A) = spec args h
    cases he : samesF args A with
    | false => rfl
    | true =>
      cases hm : sameHp h H0 with
      | false => rfl
      | true =>
        rw [samesF_eq] at he
        obtain rfl := V.sames_eq _ _ he
        obtain rfl := sameHp_eq hm
        rfl
  rw [e]; exact hsd
noncomputable def frzP : Option (V × Hp) → V := fun o => Option.rec (motive := fun _ => V) (.tup []) (fun p => Option.rec (motive := fun _ => V) (.tup []) (fun v => v) (frzR p.2 p.1)) o
noncomputable def rulR (pad L : Nat) : Option (V × Hp) := goC 14 [shV pad L] Hp.empty
noncomputable def rulV (pad L : Nat) : V := frzP (rulR pad L)
noncomputable def rulM (pad L : Nat) : Spec := memoG [shV pad L] Hp.empty (goC 14)
noncomputable def newM (pad L : Nat) : Spec := memoG [rulV pad L] Hp.empty (goC 11)
noncomputable def extraP (pad L : Nat) : FuncId → Option Spec := fun g => Bool.rec (motive := fun _ => Option Spec) (Bool.rec (motive := fun _ => Option Spec) (extraA g) (some (rulM pad L)) (Nat.beq g 14)) (some (newM pad L)) (Nat.beq g 11)
theorem extraP_ok (pad L : Nat) (f : FuncId) (s : Spec) (h : extraP pad L f = some s) : CalleeOk Tryz.prog gam f s := by
  revert h
  show Bool.rec (motive := fun _ => Option Spec) (Bool.rec (motive := fun _ => Option Spec) (extraA f) (some (rulM pad L)) (Nat.beq f 14)) (some (newM pad L)) (Nat.beq f 11) = some s → _
  cases h1 : Nat.beq f 11 with
  | true =>
    intro h; obtain rfl := Option.some.inj h
    obtain rfl := Nat.eq_of_beq_eq_true h1
    exact .inl ⟨by kernel_rfl, memoG_sound (goC_sound _)⟩
  | false =>
    cases h0 : Nat.beq f 14 with
    | true =>
      intro h; obtain rfl := Option.some.inj h
      obtain rfl := Nat.eq_of_beq_eq_true h0
      exact .inl ⟨by kernel_rfl, memoG_sound (goC_sound _)⟩
    | false => exact extraA_ok f s
noncomputable def lawRunP (pad L : Nat) (args : List V) : Bool := isT (runX Tryz.prog gam (inTr pur) (inTr clo) ext bod (extraP pad L) ftab 1000 60 7 args Hp.empty)
theorem law_cP {pad L : Nat} {args : List V} (h : lawRunP pad L args = true) {us : Array Value} {W : World} (hv : VRs Ren.nil args us.toList) (hT : Tabs W) :
    Calls Tryz.prog 7 us W fun e w' => e = .returned (.bool true) ∧ Below W.heap.size W w' := by
  obtain ⟨k, hk⟩ := isT_inv h
  refine (runs_calls (runX_sound (prog_ok (extraP_ok pad L)) tab_ok _ _) hk rfl (glob_ok hT) hv).mono ?_
  rintro e w' ⟨v, rfl, hv, hb⟩
  cases hv
  exact ⟨rfl, hb⟩
noncomputable def Q (i pad L : Nat) : Bool := lawRunP pad L [shA i, .int .i64 (.ofNat pad), negV L]
noncomputable def QA (pad L : Nat) : Bool := Q 0 pad L && (Q 1 pad L && (Q 2 pad L && (Q 3 pad L && (Q 4 pad L && (Q 5 pad L && (Q 6 pad L && (Q 7 pad L && (Q 8 pad L && (Q 9 pad L && (Q 10 pad L))))))))))
noncomputable def QB (pad L : Nat) : Bool := Q 11 pad L && (Q 12 pad L && (Q 13 pad L && (Q 14 pad L && (Q 15 pad L && (Q 16 pad L && (Q 17 pad L && (Q 18 pad L && (Q 19 pad L && (Q 20 pad L)))))))))
noncomputable def Q21 (pad L : Nat) : Bool := QA pad L && QB pad L
end Go.Proofs.YtmgjgdnjkgnbiaaGreatDoor.HM
