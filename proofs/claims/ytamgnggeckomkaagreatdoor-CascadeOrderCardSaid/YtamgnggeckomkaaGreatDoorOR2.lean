/- fleuronlaw13.CascadeOrder returns true for all keys, and leaves what was there: by one run for each order of three keys. -/
import Derived.Test.YtamgnggeckomkaaGreatDoorOR1
namespace Go.Proofs.YtamgnggeckomkaaGreatDoor.HM
open Go Go.RowKit

def lexL : List Int → List Int → Bool
  | a :: r, b :: s => if a < b then true else if a = b then lexL r s else false
  | _, _ => false
theorem lexL_eq (a0 a1 a2 a3 a4 b0 b1 b2 b3 b4 : Int) : lexL [a0, a1, a2, a3, a4] [b0, b1, b2, b3, b4] = lexB a0 a1 a2 a3 a4 b0 b1 b2 b3 b4 := by
  unfold lexB
  simp only [lexL]
  repeat' split
  all_goals first
    | (symm; rw [decide_eq_true_iff]; omega)
    | (symm; rw [decide_eq_false_iff_not]; omega)
def lexV : List V → List V → Option Bool
  | x :: r, y :: s => match lbin .lss x y with
    | some (.bool true) => some true
    | some (.bool false) => match lbin .eql x y with
      | some (.bool true) => lexV r s
      | some (.bool false) => some false
      | _ => none
    | _ => none
  | _, _ => some false

theorem lss_inv {ρ : Ren} {x y : V} {n m : Int} {t : Bool} (hx : VR ρ x (.int .i64 n)) (hy : VR ρ y (.int .i64 m)) (h : lbin .lss x y = some (.bool t)) : decide (n < m) = t := by
  obtain ⟨k, n', m', z, e1, e2, e3, e4, _, _⟩ := lbin_sound hx hy h
  simp only [Value.int.injEq] at e1 e2
  obtain ⟨rfl, rfl⟩ := e1
  obtain ⟨_, rfl⟩ := e2
  simp only [ibin, Option.some.injEq] at e3; subst e3
  have := (e4 _ (.bool _)).bool_inv
  simp only [Value.bool.injEq] at this
  exact this
theorem eql_inv {ρ : Ren} {x y : V} {n m : Int} {t : Bool} (hx : VR ρ x (.int .i64 n)) (hy : VR ρ y (.int .i64 m)) (h : lbin .eql x y = some (.bool t)) : decide (n = m) = t := by
  obtain ⟨k, n', m', z, e1, e2, e3, e4, _, _⟩ := lbin_sound hx hy h
  simp only [Value.int.injEq] at e1 e2
  obtain ⟨rfl, rfl⟩ := e1
  obtain ⟨_, rfl⟩ := e2
  simp only [ibin, Option.some.injEq] at e3; subst e3
  have := (e4 _ (.bool _)).bool_inv
  simp only [Value.bool.injEq] at this
  exact this

theorem lexV_sound {ρ : Ren} : ∀ {xs ys : List V} {av bs : List Int} {t : Bool}, VRs ρ xs (av.map (Value.int .i64 ·)) → VRs ρ ys (bs.map (Value.int .i64 ·)) → lexV xs ys = some t → lexL av bs = t
  | [], ys, av, bs, t, h, k, e => by
    have := h.1
    cases av with
    | nil => simp only [lexV, Option.some.injEq] at e; subst e; rfl
    | cons => simp at this
  | x :: r, [], av, bs, t, h, k, e => by
    have := k.1
    cases bs with
    | nil => simp only [lexV, Option.some.injEq] at e; subst e; cases av <;> rfl
    | cons => simp at this
  | x :: r, y :: s, av, bs, t, h, k, e => by
    cases av with
    | nil => have := h.1; simp at this
    | cons a av =>
      cases bs with
      | nil => have := k.1; simp at this
      | cons b bs =>
        have hx := h.2 0 x _ rfl rfl
        have hy := k.2 0 y _ rfl rfl
        have hr : VRs ρ r (av.map (Value.int .i64 ·)) := ⟨by have := h.1; simpa using this, fun i y c hy hc => h.2 (i + 1) y c (by simpa using hy) (by simpa using hc)⟩
        have kr : VRs ρ s (bs.map (Value.int .i64 ·)) := ⟨by have := k.1; simpa using this, fun i y c hy hc => k.2 (i + 1) y c (by simpa using hy) (by simpa using hc)⟩
        rw [lexV] at e
        rw [lexL]
        split at e
        · rename_i hl
          have := of_decide_eq_true (lss_inv hx hy hl)
          simp only [Option.some.injEq] at e; subst e
          rw [if_pos this]
        · rename_i hl
          have h1 := of_decide_eq_false (lss_inv hx hy hl)
          rw [if_neg h1]
          split at e
          · rename_i hq
            rw [if_pos (of_decide_eq_true (eql_inv hx hy hq))]
            exact lexV_sound hr kr e
          · rename_i hq
            rw [if_neg (of_decide_eq_false (eql_inv hx hy hq))]
            simpa using e
          · cases e
        · cases e

def rngV (x : V) : Bool := match asLin x with
  | some (.i64, c, ts) => decide (-1000000000000000000000000000000 ≤ loS c ts) && decide (hiS c ts ≤ 1000000000000000000000000000000)
  | _ => false
theorem rngV_inv {ρ : Ren} {x : V} {u : Value} (h : VR ρ x u) (hr : rngV x = true) : ∃ n, u = .int .i64 n ∧ InB n := by
  unfold rngV at hr
  split at hr
  · rename_i c ts e
    obtain ⟨n, rfl, hs, hn⟩ := asLin_sound h e
    refine ⟨n, rfl, ?_⟩
    have hb := loS_le c hs
    simp only [Bool.and_eq_true, decide_eq_true_eq] at hr
    exact ⟨by omega, by omega⟩
  · cases hr

/-- which of two keys is less -/
noncomputable def lessS : List V → Hp → Option (V × Hp)
  | [.agg [x0, x1, x2, x3, x4], .agg [y0, y1, y2, y3, y4]], h => match [x0, x1, x2, x3, x4, y0, y1, y2, y3, y4].all rngV with
    | true => match lexV [x0, x1, x2, x3, x4] [y0, y1, y2, y3, y4] with
      | some t => some (.bool t, h)
      | none => none
    | false => none
  | _, _ => none

theorem agg5_inv {ρ : Ren} {x0 x1 x2 x3 x4 : V} {u : Value} (h : VR ρ (.agg [x0, x1, x2, x3, x4]) u) : ∃ u0 u1 u2 u3 u4, u = .agg #[u0, u1, u2, u3, u4] ∧ VR ρ x0 u0 ∧ VR ρ x1 u1 ∧ VR ρ x2 u2 ∧ VR ρ x3 u3 ∧ VR ρ x4 u4 := by
  cases h with
  | agg _ us hn hr =>
    obtain ⟨u0, u1, u2, u3, u4, rfl⟩ : ∃ u0 u1 u2 u3 u4, us = #[u0, u1, u2, u3, u4] := by
      obtain ⟨l⟩ := us
      match l, hn with
      | [u0, u1, u2, u3, u4], _ => exact ⟨u0, u1, u2, u3, u4, rfl⟩
    exact ⟨u0, u1, u2, u3, u4, rfl, hr 0 _ _ rfl rfl, hr 1 _ _ rfl rfl, hr 2 _ _ rfl rfl, hr 3 _ _ rfl rfl, hr 4 _ _ rfl rfl⟩

theorem less_sound {f : FuncId} (hc : ∀ {a0 a1 a2 a3 a4 b0 b1 b2 b3 b4 : Int}, InB a0 → InB a1 → InB a2 → InB a3 → InB a4 → InB b0 → InB b1 → InB b2 → InB b3 → InB b4 → ∀ {W : World}, GlobOk gam W.heap.size W →
    Calls Tryz.prog f #[kV a0 a1 a2 a3 a4, kV b0 b1 b2 b3 b4] W fun e w' => e = .returned (.bool (lexB a0 a1 a2 a3 a4 b0 b1 b2 b3 b4)) ∧ Below W.heap.size W w') : Sound Tryz.prog gam f lessS := by
  intro args h r h' hs N0 w0 ρ w us H hv
  unfold lessS at hs
  split at hs
  · rename_i x0 x1 x2 x3 x4 y0 y1 y2 y3 y4
    split at hs
    · rename_i hall
      split at hs
      · rename_i t ht
        simp only [Option.some.injEq, Prod.mk.injEq] at hs; obtain ⟨rfl, rfl⟩ := hs
        obtain ⟨u, us1, k1, hx, k2⟩ := hv.cons_inv
        obtain ⟨v, us2, k3, hy, k4⟩ := k2.cons_inv
        have k5 := k4.nil_inv
        subst k5 k3
        obtain rfl : us = #[u, v] := by cases us; simp_all
        obtain ⟨u0, u1, u2, u3, u4, rfl, p0, p1, p2, p3, p4⟩ := agg5_inv hx
        obtain ⟨v0, v1, v2, v3, v4, rfl, q0, q1, q2, q3, q4⟩ := agg5_inv hy
        simp only [List.all_cons, List.all_nil, Bool.and_true, Bool.and_eq_true] at hall
        obtain ⟨r0, r1, r2, r3, r4, s0, s1, s2, s3, s4⟩ := hall
        obtain ⟨a0, rfl, i0⟩ := rngV_inv p0 r0
        obtain ⟨a1, rfl, i1⟩ := rngV_inv p1 r1
        obtain ⟨a2, rfl, i2⟩ := rngV_inv p2 r2
        obtain ⟨a3, rfl, i3⟩ := rngV_inv p3 r3
        obtain ⟨a4, rfl, i4⟩ := rngV_inv p4 r4
        obtain ⟨b0, rfl, j0⟩ := rngV_inv q0 s0
        obtain ⟨b1, rfl, j1⟩ := rngV_inv q1 s1
        obtain ⟨b2, rfl, j2⟩ := rngV_inv q2 s2
        obtain ⟨b3, rfl, j3⟩ := rngV_inv q3 s3
        obtain ⟨b4, rfl, j4⟩ := rngV_inv q4 s4
        have hl : lexL [a0, a1, a2, a3, a4] [b0, b1, b2, b3, b4] = t :=
          lexV_sound (ρ := ρ) (VRs.cons p0 (VRs.cons p1 (VRs.cons p2 (VRs.cons p3 (VRs.cons p4 (VRs.nil _)))))) (VRs.cons q0 (VRs.cons q1 (VRs.cons q2 (VRs.cons q3 (VRs.cons q4 (VRs.nil _)))))) ht
        refine (hc i0 i1 i2 i3 i4 j0 j1 j2 j3 j4 H.globNow).mono ?_
        rintro e w' ⟨rfl, hb⟩
        rw [← lexL_eq, hl]
        exact ⟨ρ, _, rfl, .refl _, H.grow hb, .bool _⟩
      · cases hs
    · cases hs
  · cases hs

noncomputable def extraO : FuncId → Option Spec := fun g => Bool.rec (motive := fun _ => Option Spec) (Bool.rec (motive := fun _ => Option Spec) (extraA g) (some lessS) (Nat.beq g 20)) (some lessS) (Nat.beq g 19)
theorem extraO_ok (f : FuncId) (s : Spec) (h : extraO f = some s) : CalleeOk Tryz.prog gam f s := by
  revert h
  show Bool.rec (motive := fun _ => Option Spec) (Bool.rec (motive := fun _ => Option Spec) (extraA f) (some lessS) (Nat.beq f 20)) (some lessS) (Nat.beq f 19) = some s → _
  cases hf : Nat.beq f 19 with
  | true =>
    intro h; cases h
    obtain rfl := Nat.eq_of_beq_eq_true hf
    exact .inl ⟨by kernel_rfl, less_sound less_p⟩
  | false =>
    cases hg : Nat.beq f 20 with
    | true =>
      intro h; cases h
      obtain rfl := Nat.eq_of_beq_eq_true hg
      exact .inl ⟨by kernel_rfl, less_sound less_q⟩
    | false => exact extraA_ok f s

noncomputable def lawRunO (args : List V) : Bool := isT (runX Tryz.prog gam (inTr pur) (inTr cloT) ext bod extraO ftab 1000 60 5 args (Hp.nums 25))
theorem law_cO {args : List V} (ns : List Int) (hn : ns.length = 25) (h : lawRunO args = true) {us : Array Value} (hv : VRs (numR ns) args us.toList) {W : World} (hT : Tabs W) :
    Calls Tryz.prog 5 us W fun e w' => e = .returned (.bool true) ∧ Below W.heap.size W w' := by
  obtain ⟨k, hk⟩ := isT_inv h
  rw [← hn] at hk
  refine (runs_callsN (runX_sound (prog_ok extraO_ok) tab_ok _ _) ns hk rfl (glob_ok hT) (Nat.lt_of_le_of_lt (Nat.zero_le _) ((glob_ok hT) 0 _ gam0).1) hv).mono ?_
  rintro e w' ⟨v, rfl, hv, hb⟩
  cases hv
  exact ⟨rfl, hb⟩
def m_b : V := .agg [.lin .i64 0 [⟨1, 0, (-9223372036854775808), 9223372036854775807⟩], .lin .i64 0 [⟨1, 5, (-9223372036854775808), 9223372036854775807⟩], .lin .i64 0 [⟨1, 10, (-9223372036854775808), 9223372036854775807⟩], .lin .i64 0 [⟨1, 15, (-9223372036854775808), 9223372036854775807⟩], .lin .i64 0 [⟨1, 20, (-9223372036854775808), 9223372036854775807⟩]]
def m_a_lffff : V := .agg [.lin .i64 (-1) [⟨1, 0, (-9223372036854775808), 9223372036854775807⟩, ⟨(-1), 1, 0, 18446744073709551615⟩], .lin .i64 0 [⟨1, 8, (-9223372036854775808), 9223372036854775807⟩], .lin .i64 0 [⟨1, 13, (-9223372036854775808), 9223372036854775807⟩], .lin .i64 0 [⟨1, 18, (-9223372036854775808), 9223372036854775807⟩], .lin .i64 0 [⟨1, 23, (-9223372036854775808), 9223372036854775807⟩]]
def m_a_gffff : V := .agg [.lin .i64 1 [⟨1, 0, (-9223372036854775808), 9223372036854775807⟩, ⟨1, 1, 0, 18446744073709551615⟩], .lin .i64 0 [⟨1, 8, (-9223372036854775808), 9223372036854775807⟩], .lin .i64 0 [⟨1, 13, (-9223372036854775808), 9223372036854775807⟩], .lin .i64 0 [⟨1, 18, (-9223372036854775808), 9223372036854775807⟩], .lin .i64 0 [⟨1, 23, (-9223372036854775808), 9223372036854775807⟩]]
def m_a_elfff : V := .agg [.lin .i64 0 [⟨1, 0, (-9223372036854775808), 9223372036854775807⟩], .lin .i64 (-1) [⟨1, 5, (-9223372036854775808), 9223372036854775807⟩, ⟨(-1), 6, 0, 18446744073709551615⟩], .lin .i64 0 [⟨1, 13, (-9223372036854775808), 9223372036854775807⟩], .lin .i64 0 [⟨1, 18, (-9223372036854775808), 9223372036854775807⟩], .lin .i64 0 [⟨1, 23, (-9223372036854775808), 9223372036854775807⟩]]
def m_a_egfff : V := .agg [.lin .i64 0 [⟨1, 0, (-9223372036854775808), 9223372036854775807⟩], .lin .i64 1 [⟨1, 5, (-9223372036854775808), 9223372036854775807⟩, ⟨1, 6, 0, 18446744073709551615⟩], .lin .i64 0 [⟨1, 13, (-9223372036854775808), 9223372036854775807⟩], .lin .i64 0 [⟨1, 18, (-9223372036854775808), 9223372036854775807⟩], .lin .i64 0 [⟨1, 23, (-9223372036854775808), 9223372036854775807⟩]]
def m_a_eelff : V := .agg [.lin .i64 0 [⟨1, 0, (-9223372036854775808), 9223372036854775807⟩], .lin .i64 0 [⟨1, 5, (-9223372036854775808), 9223372036854775807⟩], .lin .i64 (-1) [⟨1, 10, (-9223372036854775808), 9223372036854775807⟩, ⟨(-1), 11, 0, 18446744073709551615⟩], .lin .i64 0 [⟨1, 18, (-9223372036854775808), 9223372036854775807⟩], .lin .i64 0 [⟨1, 23, (-9223372036854775808), 9223372036854775807⟩]]
def m_a_eegff : V := .agg [.lin .i64 0 [⟨1, 0, (-9223372036854775808), 9223372036854775807⟩], .lin .i64 0 [⟨1, 5, (-9223372036854775808), 9223372036854775807⟩], .lin .i64 1 [⟨1, 10, (-9223372036854775808), 9223372036854775807⟩, ⟨1, 11, 0, 18446744073709551615⟩], .lin .i64 0 [⟨1, 18, (-9223372036854775808), 9223372036854775807⟩], .lin .i64 0 [⟨1, 23, (-9223372036854775808), 9223372036854775807⟩]]
def m_a_eeelf : V := .agg [.lin .i64 0 [⟨1, 0, (-9223372036854775808), 9223372036854775807⟩], .lin .i64 0 [⟨1, 5, (-9223372036854775808), 9223372036854775807⟩], .lin .i64 0 [⟨1, 10, (-9223372036854775808), 9223372036854775807⟩], .lin .i64 (-1) [⟨1, 15, (-9223372036854775808), 9223372036854775807⟩, ⟨(-1), 16, 0, 18446744073709551615⟩], .lin .i64 0 [⟨1, 23, (-9223372036854775808), 9223372036854775807⟩]]
def m_a_eeegf : V := .agg [.lin .i64 0 [⟨1, 0, (-9223372036854775808), 9223372036854775807⟩], .lin .i64 0 [⟨1, 5, (-9223372036854775808), 9223372036854775807⟩], .lin .i64 0 [⟨1, 10, (-9223372036854775808), 9223372036854775807⟩], .lin .i64 1 [⟨1, 15, (-9223372036854775808), 9223372036854775807⟩, ⟨1, 16, 0, 18446744073709551615⟩], .lin .i64 0 [⟨1, 23, (-9223372036854775808), 9223372036854775807⟩]]
def m_a_eeeel : V := .agg [.lin .i64 0 [⟨1, 0, (-9223372036854775808), 9223372036854775807⟩], .lin .i64 0 [⟨1, 5, (-9223372036854775808), 9223372036854775807⟩], .lin .i64 0 [⟨1, 10, (-9223372036854775808), 9223372036854775807⟩], .lin .i64 0 [⟨1, 15, (-9223372036854775808), 9223372036854775807⟩], .lin .i64 (-1) [⟨1, 20, (-9223372036854775808), 9223372036854775807⟩, ⟨(-1), 21, 0, 18446744073709551615⟩]]
def m_a_eeeeg : V := .agg [.lin .i64 0 [⟨1, 0, (-9223372036854775808), 9223372036854775807⟩], .lin .i64 0 [⟨1, 5, (-9223372036854775808), 9223372036854775807⟩], .lin .i64 0 [⟨1, 10, (-9223372036854775808), 9223372036854775807⟩], .lin .i64 0 [⟨1, 15, (-9223372036854775808), 9223372036854775807⟩], .lin .i64 1 [⟨1, 20, (-9223372036854775808), 9223372036854775807⟩, ⟨1, 21, 0, 18446744073709551615⟩]]
def m_a_eeeee : V := .agg [.lin .i64 0 [⟨1, 0, (-9223372036854775808), 9223372036854775807⟩], .lin .i64 0 [⟨1, 5, (-9223372036854775808), 9223372036854775807⟩], .lin .i64 0 [⟨1, 10, (-9223372036854775808), 9223372036854775807⟩], .lin .i64 0 [⟨1, 15, (-9223372036854775808), 9223372036854775807⟩], .lin .i64 0 [⟨1, 20, (-9223372036854775808), 9223372036854775807⟩]]
def m_c_lffff : V := .agg [.lin .i64 1 [⟨1, 0, (-9223372036854775808), 9223372036854775807⟩, ⟨1, 2, 0, 18446744073709551615⟩], .lin .i64 0 [⟨1, 9, (-9223372036854775808), 9223372036854775807⟩], .lin .i64 0 [⟨1, 14, (-9223372036854775808), 9223372036854775807⟩], .lin .i64 0 [⟨1, 19, (-9223372036854775808), 9223372036854775807⟩], .lin .i64 0 [⟨1, 24, (-9223372036854775808), 9223372036854775807⟩]]
def m_c_gffff : V := .agg [.lin .i64 (-1) [⟨1, 0, (-9223372036854775808), 9223372036854775807⟩, ⟨(-1), 2, 0, 18446744073709551615⟩], .lin .i64 0 [⟨1, 9, (-9223372036854775808), 9223372036854775807⟩], .lin .i64 0 [⟨1, 14, (-9223372036854775808), 9223372036854775807⟩], .lin .i64 0 [⟨1, 19, (-9223372036854775808), 9223372036854775807⟩], .lin .i64 0 [⟨1, 24, (-9223372036854775808), 9223372036854775807⟩]]
def m_c_elfff : V := .agg [.lin .i64 0 [⟨1, 0, (-9223372036854775808), 9223372036854775807⟩], .lin .i64 1 [⟨1, 5, (-9223372036854775808), 9223372036854775807⟩, ⟨1, 7, 0, 18446744073709551615⟩], .lin .i64 0 [⟨1, 14, (-9223372036854775808), 9223372036854775807⟩], .lin .i64 0 [⟨1, 19, (-9223372036854775808), 9223372036854775807⟩], .lin .i64 0 [⟨1, 24, (-9223372036854775808), 9223372036854775807⟩]]
def m_c_egfff : V := .agg [.lin .i64 0 [⟨1, 0, (-9223372036854775808), 9223372036854775807⟩], .lin .i64 (-1) [⟨1, 5, (-9223372036854775808), 9223372036854775807⟩, ⟨(-1), 7, 0, 18446744073709551615⟩], .lin .i64 0 [⟨1, 14, (-9223372036854775808), 9223372036854775807⟩], .lin .i64 0 [⟨1, 19, (-9223372036854775808), 9223372036854775807⟩], .lin .i64 0 [⟨1, 24, (-9223372036854775808), 9223372036854775807⟩]]
def m_c_eelff : V := .agg [.lin .i64 0 [⟨1, 0, (-9223372036854775808), 9223372036854775807⟩], .lin .i64 0 [⟨1, 5, (-9223372036854775808), 9223372036854775807⟩], .lin .i64 1 [⟨1, 10, (-9223372036854775808), 9223372036854775807⟩, ⟨1, 12, 0, 18446744073709551615⟩], .lin .i64 0 [⟨1, 19, (-9223372036854775808), 9223372036854775807⟩], .lin .i64 0 [⟨1, 24, (-9223372036854775808), 9223372036854775807⟩]]
def m_c_eegff : V := .agg [.lin .i64 0 [⟨1, 0, (-9223372036854775808), 9223372036854775807⟩], .lin .i64 0 [⟨1, 5, (-9223372036854775808), 9223372036854775807⟩], .lin .i64 (-1) [⟨1, 10, (-9223372036854775808), 9223372036854775807⟩, ⟨(-1), 12, 0, 18446744073709551615⟩], .lin .i64 0 [⟨1, 19, (-9223372036854775808), 9223372036854775807⟩], .lin .i64 0 [⟨1, 24, (-9223372036854775808), 9223372036854775807⟩]]
def m_c_eeelf : V := .agg [.lin .i64 0 [⟨1, 0, (-9223372036854775808), 9223372036854775807⟩], .lin .i64 0 [⟨1, 5, (-9223372036854775808), 9223372036854775807⟩], .lin .i64 0 [⟨1, 10, (-9223372036854775808), 9223372036854775807⟩], .lin .i64 1 [⟨1, 15, (-9223372036854775808), 9223372036854775807⟩, ⟨1, 17, 0, 18446744073709551615⟩], .lin .i64 0 [⟨1, 24, (-9223372036854775808), 9223372036854775807⟩]]
def m_c_eeegf : V := .agg [.lin .i64 0 [⟨1, 0, (-9223372036854775808), 9223372036854775807⟩], .lin .i64 0 [⟨1, 5, (-9223372036854775808), 9223372036854775807⟩], .lin .i64 0 [⟨1, 10, (-9223372036854775808), 9223372036854775807⟩], .lin .i64 (-1) [⟨1, 15, (-9223372036854775808), 9223372036854775807⟩, ⟨(-1), 17, 0, 18446744073709551615⟩], .lin .i64 0 [⟨1, 24, (-9223372036854775808), 9223372036854775807⟩]]
def m_c_eeeel : V := .agg [.lin .i64 0 [⟨1, 0, (-9223372036854775808), 9223372036854775807⟩], .lin .i64 0 [⟨1, 5, (-9223372036854775808), 9223372036854775807⟩], .lin .i64 0 [⟨1, 10, (-9223372036854775808), 9223372036854775807⟩], .lin .i64 0 [⟨1, 15, (-9223372036854775808), 9223372036854775807⟩], .lin .i64 1 [⟨1, 20, (-9223372036854775808), 9223372036854775807⟩, ⟨1, 22, 0, 18446744073709551615⟩]]
def m_c_eeeeg : V := .agg [.lin .i64 0 [⟨1, 0, (-9223372036854775808), 9223372036854775807⟩], .lin .i64 0 [⟨1, 5, (-9223372036854775808), 9223372036854775807⟩], .lin .i64 0 [⟨1, 10, (-9223372036854775808), 9223372036854775807⟩], .lin .i64 0 [⟨1, 15, (-9223372036854775808), 9223372036854775807⟩], .lin .i64 (-1) [⟨1, 20, (-9223372036854775808), 9223372036854775807⟩, ⟨(-1), 22, 0, 18446744073709551615⟩]]
def m_c_eeeee : V := .agg [.lin .i64 0 [⟨1, 0, (-9223372036854775808), 9223372036854775807⟩], .lin .i64 0 [⟨1, 5, (-9223372036854775808), 9223372036854775807⟩], .lin .i64 0 [⟨1, 10, (-9223372036854775808), 9223372036854775807⟩], .lin .i64 0 [⟨1, 15, (-9223372036854775808), 9223372036854775807⟩], .lin .i64 0 [⟨1, 20, (-9223372036854775808), 9223372036854775807⟩]]
def m_c_fffff : V := .agg [.lin .i64 0 [⟨1, 4, (-9223372036854775808), 9223372036854775807⟩], .lin .i64 0 [⟨1, 9, (-9223372036854775808), 9223372036854775807⟩], .lin .i64 0 [⟨1, 14, (-9223372036854775808), 9223372036854775807⟩], .lin .i64 0 [⟨1, 19, (-9223372036854775808), 9223372036854775807⟩], .lin .i64 0 [⟨1, 24, (-9223372036854775808), 9223372036854775807⟩]]
theorem o_lffff_lffff : lawRunO [m_a_lffff, m_b, m_c_lffff] = true := by kernel_rfl
theorem o_lffff_gffff : lawRunO [m_a_lffff, m_b, m_c_gffff] = true := by kernel_rfl
theorem o_lffff_elfff : lawRunO [m_a_lffff, m_b, m_c_elfff] = true := by kernel_rfl
theorem o_lffff_egfff : lawRunO [m_a_lffff, m_b, m_c_egfff] = true := by kernel_rfl
theorem o_lffff_eelff : lawRunO [m_a_lffff, m_b, m_c_eelff] = true := by kernel_rfl
theorem o_lffff_eegff : lawRunO [m_a_lffff, m_b, m_c_eegff] = true := by kernel_rfl
theorem o_lffff_eeelf : lawRunO [m_a_lffff, m_b, m_c_eeelf] = true := by kernel_rfl
theorem o_lffff_eeegf : lawRunO [m_a_lffff, m_b, m_c_eeegf] = true := by kernel_rfl
theorem o_lffff_eeeel : lawRunO [m_a_lffff, m_b, m_c_eeeel] = true := by kernel_rfl
theorem o_lffff_eeeeg : lawRunO [m_a_lffff, m_b, m_c_eeeeg] = true := by kernel_rfl
theorem o_lffff_eeeee : lawRunO [m_a_lffff, m_b, m_c_eeeee] = true := by kernel_rfl
theorem o_gffff_fffff : lawRunO [m_a_gffff, m_b, m_c_fffff] = true := by kernel_rfl
theorem o_elfff_lffff : lawRunO [m_a_elfff, m_b, m_c_lffff] = true := by kernel_rfl
theorem o_elfff_gffff : lawRunO [m_a_elfff, m_b, m_c_gffff] = true := by kernel_rfl
theorem o_elfff_elfff : lawRunO [m_a_elfff, m_b, m_c_elfff] = true := by kernel_rfl
theorem o_elfff_egfff : lawRunO [m_a_elfff, m_b, m_c_egfff] = true := by kernel_rfl
theorem o_elfff_eelff : lawRunO [m_a_elfff, m_b, m_c_eelff] = true := by kernel_rfl
theorem o_elfff_eegff : lawRunO [m_a_elfff, m_b, m_c_eegff] = true := by kernel_rfl
theorem o_elfff_eeelf : lawRunO [m_a_elfff, m_b, m_c_eeelf] = true := by kernel_rfl
theorem o_elfff_eeegf : lawRunO [m_a_elfff, m_b, m_c_eeegf] = true := by kernel_rfl
theorem o_elfff_eeeel : lawRunO [m_a_elfff, m_b, m_c_eeeel] = true := by kernel_rfl
theorem o_elfff_eeeeg : lawRunO [m_a_elfff, m_b, m_c_eeeeg] = true := by kernel_rfl
theorem o_elfff_eeeee : lawRunO [m_a_elfff, m_b, m_c_eeeee] = true := by kernel_rfl
theorem o_egfff_fffff : lawRunO [m_a_egfff, m_b, m_c_fffff] = true := by kernel_rfl
theorem o_eelff_lffff : lawRunO [m_a_eelff, m_b, m_c_lffff] = true := by kernel_rfl
theorem o_eelff_gffff : lawRunO [m_a_eelff, m_b, m_c_gffff] = true := by kernel_rfl
theorem o_eelff_elfff : lawRunO [m_a_eelff, m_b, m_c_elfff] = true := by kernel_rfl
theorem o_eelff_egfff : lawRunO [m_a_eelff, m_b, m_c_egfff] = true := by kernel_rfl
theorem o_eelff_eelff : lawRunO [m_a_eelff, m_b, m_c_eelff] = true := by kernel_rfl
theorem o_eelff_eegff : lawRunO [m_a_eelff, m_b, m_c_eegff] = true := by kernel_rfl
theorem o_eelff_eeelf : lawRunO [m_a_eelff, m_b, m_c_eeelf] = true := by kernel_rfl
theorem o_eelff_eeegf : lawRunO [m_a_eelff, m_b, m_c_eeegf] = true := by kernel_rfl
theorem o_eelff_eeeel : lawRunO [m_a_eelff, m_b, m_c_eeeel] = true := by kernel_rfl
theorem o_eelff_eeeeg : lawRunO [m_a_eelff, m_b, m_c_eeeeg] = true := by kernel_rfl
theorem o_eelff_eeeee : lawRunO [m_a_eelff, m_b, m_c_eeeee] = true := by kernel_rfl
theorem o_eegff_fffff : lawRunO [m_a_eegff, m_b, m_c_fffff] = true := by kernel_rfl
theorem o_eeelf_lffff : lawRunO [m_a_eeelf, m_b, m_c_lffff] = true := by kernel_rfl
theorem o_eeelf_gffff : lawRunO [m_a_eeelf, m_b, m_c_gffff] = true := by kernel_rfl
theorem o_eeelf_elfff : lawRunO [m_a_eeelf, m_b, m_c_elfff] = true := by kernel_rfl
theorem o_eeelf_egfff : lawRunO [m_a_eeelf, m_b, m_c_egfff] = true := by kernel_rfl
theorem o_eeelf_eelff : lawRunO [m_a_eeelf, m_b, m_c_eelff] = true := by kernel_rfl
theorem o_eeelf_eegff : lawRunO [m_a_eeelf, m_b, m_c_eegff] = true := by kernel_rfl
theorem o_eeelf_eeelf : lawRunO [m_a_eeelf, m_b, m_c_eeelf] = true := by kernel_rfl
theorem o_eeelf_eeegf : lawRunO [m_a_eeelf, m_b, m_c_eeegf] = true := by kernel_rfl
theorem o_eeelf_eeeel : lawRunO [m_a_eeelf, m_b, m_c_eeeel] = true := by kernel_rfl
theorem o_eeelf_eeeeg : lawRunO [m_a_eeelf, m_b, m_c_eeeeg] = true := by kernel_rfl
theorem o_eeelf_eeeee : lawRunO [m_a_eeelf, m_b, m_c_eeeee] = true := by kernel_rfl
theorem o_eeegf_fffff : lawRunO [m_a_eeegf, m_b, m_c_fffff] = true := by kernel_rfl
theorem o_eeeel_lffff : lawRunO [m_a_eeeel, m_b, m_c_lffff] = true := by kernel_rfl
theorem o_eeeel_gffff : lawRunO [m_a_eeeel, m_b, m_c_gffff] = true := by kernel_rfl
theorem o_eeeel_elfff : lawRunO [m_a_eeeel, m_b, m_c_elfff] = true := by kernel_rfl
theorem o_eeeel_egfff : lawRunO [m_a_eeeel, m_b, m_c_egfff] = true := by kernel_rfl
theorem o_eeeel_eelff : lawRunO [m_a_eeeel, m_b, m_c_eelff] = true := by kernel_rfl
theorem o_eeeel_eegff : lawRunO [m_a_eeeel, m_b, m_c_eegff] = true := by kernel_rfl
theorem o_eeeel_eeelf : lawRunO [m_a_eeeel, m_b, m_c_eeelf] = true := by kernel_rfl
theorem o_eeeel_eeegf : lawRunO [m_a_eeeel, m_b, m_c_eeegf] = true := by kernel_rfl
theorem o_eeeel_eeeel : lawRunO [m_a_eeeel, m_b, m_c_eeeel] = true := by kernel_rfl
theorem o_eeeel_eeeeg : lawRunO [m_a_eeeel, m_b, m_c_eeeeg] = true := by kernel_rfl
theorem o_eeeel_eeeee : lawRunO [m_a_eeeel, m_b, m_c_eeeee] = true := by kernel_rfl
theorem o_eeeeg_fffff : lawRunO [m_a_eeeeg, m_b, m_c_fffff] = true := by kernel_rfl
theorem o_eeeee_fffff : lawRunO [m_a_eeeee, m_b, m_c_fffff] = true := by kernel_rfl
section
variable {a0 a1 a2 a3 a4 b0 b1 b2 b3 b4 c0 c1 c2 c3 c4 : Int}
def ns3 (a0 b0 c0 a1 b1 c1 a2 b2 c2 a3 b3 c3 a4 b4 c4 : Int) : List Int := [b0, (if a0 < b0 then b0 - a0 - 1 else a0 - b0 - 1), (if b0 < c0 then c0 - b0 - 1 else b0 - c0 - 1), a0, c0, b1, (if a1 < b1 then b1 - a1 - 1 else a1 - b1 - 1), (if b1 < c1 then c1 - b1 - 1 else b1 - c1 - 1), a1, c1, b2, (if a2 < b2 then b2 - a2 - 1 else a2 - b2 - 1), (if b2 < c2 then c2 - b2 - 1 else b2 - c2 - 1), a2, c2, b3, (if a3 < b3 then b3 - a3 - 1 else a3 - b3 - 1), (if b3 < c3 then c3 - b3 - 1 else b3 - c3 - 1), a3, c3, b4, (if a4 < b4 then b4 - a4 - 1 else a4 - b4 - 1), (if b4 < c4 then c4 - b4 - 1 else b4 - c4 - 1), a4, c4]
set_option maxHeartbeats 8000000 in
theorem order_all (ha0 : In a0) (ha1 : In a1) (ha2 : In a2) (ha3 : In a3) (ha4 : In a4) (hb0 : In b0) (hb1 : In b1) (hb2 : In b2) (hb3 : In b3) (hb4 : In b4) (hc0 : In c0) (hc1 : In c1) (hc2 : In c2) (hc3 : In c3) (hc4 : In c4) {W : World} (hT : Tabs W) :
    Calls Tryz.prog 5 #[kV a0 a1 a2 a3 a4, kV b0 b1 b2 b3 b4, kV c0 c1 c2 c3 c4] W fun e w' => e = .returned (.bool true) ∧ Below W.heap.size W w' := by
  have vb0 : VR (numR (ns3 a0 b0 c0 a1 b1 c1 a2 b2 c2 a3 b3 c3 a4 b4 c4)) (.lin .i64 0 [⟨1, 0, (-9223372036854775808), 9223372036854775807⟩]) (.int .i64 b0) := .lin1 (x := b0) rfl hb0.1 hb0.2 (by omega)
  have ae0 : a0 = b0 → VR (numR (ns3 a0 b0 c0 a1 b1 c1 a2 b2 c2 a3 b3 c3 a4 b4 c4)) (.lin .i64 0 [⟨1, 0, (-9223372036854775808), 9223372036854775807⟩]) (.int .i64 a0) := fun h => .lin1 (x := b0) rfl hb0.1 hb0.2 (by omega)
  have al0 : a0 < b0 → VR (numR (ns3 a0 b0 c0 a1 b1 c1 a2 b2 c2 a3 b3 c3 a4 b4 c4)) (.lin .i64 (-1) [⟨1, 0, (-9223372036854775808), 9223372036854775807⟩, ⟨(-1), 1, 0, 18446744073709551615⟩]) (.int .i64 a0) := fun h => .lin2 (x := b0) (x2 := b0 - a0 - 1) rfl hb0.1 hb0.2 (by show some (if a0 < b0 then b0 - a0 - 1 else a0 - b0 - 1) = _; rw [if_pos h]) (by have := ha0.1; have := ha0.2; have := hb0.1; have := hb0.2; omega) (by have := ha0.1; have := ha0.2; have := hb0.1; have := hb0.2; omega) (by omega)
  have ag0 : b0 < a0 → VR (numR (ns3 a0 b0 c0 a1 b1 c1 a2 b2 c2 a3 b3 c3 a4 b4 c4)) (.lin .i64 1 [⟨1, 0, (-9223372036854775808), 9223372036854775807⟩, ⟨1, 1, 0, 18446744073709551615⟩]) (.int .i64 a0) := fun h => .lin2 (x := b0) (x2 := a0 - b0 - 1) rfl hb0.1 hb0.2 (by show some (if a0 < b0 then b0 - a0 - 1 else a0 - b0 - 1) = _; rw [if_neg (by omega)]) (by have := ha0.1; have := ha0.2; have := hb0.1; have := hb0.2; omega) (by have := ha0.1; have := ha0.2; have := hb0.1; have := hb0.2; omega) (by omega)
  have af0 : VR (numR (ns3 a0 b0 c0 a1 b1 c1 a2 b2 c2 a3 b3 c3 a4 b4 c4)) (.lin .i64 0 [⟨1, 3, (-9223372036854775808), 9223372036854775807⟩]) (.int .i64 a0) := .lin1 (x := a0) rfl ha0.1 ha0.2 (by omega)
  have ce0 : c0 = b0 → VR (numR (ns3 a0 b0 c0 a1 b1 c1 a2 b2 c2 a3 b3 c3 a4 b4 c4)) (.lin .i64 0 [⟨1, 0, (-9223372036854775808), 9223372036854775807⟩]) (.int .i64 c0) := fun h => .lin1 (x := b0) rfl hb0.1 hb0.2 (by omega)
  have cg0 : c0 < b0 → VR (numR (ns3 a0 b0 c0 a1 b1 c1 a2 b2 c2 a3 b3 c3 a4 b4 c4)) (.lin .i64 (-1) [⟨1, 0, (-9223372036854775808), 9223372036854775807⟩, ⟨(-1), 2, 0, 18446744073709551615⟩]) (.int .i64 c0) := fun h => .lin2 (x := b0) (x2 := b0 - c0 - 1) rfl hb0.1 hb0.2 (by show some (if b0 < c0 then c0 - b0 - 1 else b0 - c0 - 1) = _; rw [if_neg (by omega)]) (by have := hc0.1; have := hc0.2; have := hb0.1; have := hb0.2; omega) (by have := hc0.1; have := hc0.2; have := hb0.1; have := hb0.2; omega) (by omega)
  have cl0 : b0 < c0 → VR (numR (ns3 a0 b0 c0 a1 b1 c1 a2 b2 c2 a3 b3 c3 a4 b4 c4)) (.lin .i64 1 [⟨1, 0, (-9223372036854775808), 9223372036854775807⟩, ⟨1, 2, 0, 18446744073709551615⟩]) (.int .i64 c0) := fun h => .lin2 (x := b0) (x2 := c0 - b0 - 1) rfl hb0.1 hb0.2 (by show some (if b0 < c0 then c0 - b0 - 1 else b0 - c0 - 1) = _; rw [if_pos h]) (by have := hc0.1; have := hc0.2; have := hb0.1; have := hb0.2; omega) (by have := hc0.1; have := hc0.2; have := hb0.1; have := hb0.2; omega) (by omega)
  have cf0 : VR (numR (ns3 a0 b0 c0 a1 b1 c1 a2 b2 c2 a3 b3 c3 a4 b4 c4)) (.lin .i64 0 [⟨1, 4, (-9223372036854775808), 9223372036854775807⟩]) (.int .i64 c0) := .lin1 (x := c0) rfl hc0.1 hc0.2 (by omega)
  have vb1 : VR (numR (ns3 a0 b0 c0 a1 b1 c1 a2 b2 c2 a3 b3 c3 a4 b4 c4)) (.lin .i64 0 [⟨1, 5, (-9223372036854775808), 9223372036854775807⟩]) (.int .i64 b1) := .lin1 (x := b1) rfl hb1.1 hb1.2 (by omega)
  have ae1 : a1 = b1 → VR (numR (ns3 a0 b0 c0 a1 b1 c1 a2 b2 c2 a3 b3 c3 a4 b4 c4)) (.lin .i64 0 [⟨1, 5, (-9223372036854775808), 9223372036854775807⟩]) (.int .i64 a1) := fun h => .lin1 (x := b1) rfl hb1.1 hb1.2 (by omega)
  have al1 : a1 < b1 → VR (numR (ns3 a0 b0 c0 a1 b1 c1 a2 b2 c2 a3 b3 c3 a4 b4 c4)) (.lin .i64 (-1) [⟨1, 5, (-9223372036854775808), 9223372036854775807⟩, ⟨(-1), 6, 0, 18446744073709551615⟩]) (.int .i64 a1) := fun h => .lin2 (x := b1) (x2 := b1 - a1 - 1) rfl hb1.1 hb1.2 (by show some (if a1 < b1 then b1 - a1 - 1 else a1 - b1 - 1) = _; rw [if_pos h]) (by have := ha1.1; have := ha1.2; have := hb1.1; have := hb1.2; omega) (by have := ha1.1; have := ha1.2; have := hb1.1; have := hb1.2; omega) (by omega)
  have ag1 : b1 < a1 → VR (numR (ns3 a0 b0 c0 a1 b1 c1 a2 b2 c2 a3 b3 c3 a4 b4 c4)) (.lin .i64 1 [⟨1, 5, (-9223372036854775808), 9223372036854775807⟩, ⟨1, 6, 0, 18446744073709551615⟩]) (.int .i64 a1) := fun h => .lin2 (x := b1) (x2 := a1 - b1 - 1) rfl hb1.1 hb1.2 (by show some (if a1 < b1 then b1 - a1 - 1 else a1 - b1 - 1) = _; rw [if_neg (by omega)]) (by have := ha1.1; have := ha1.2; have := hb1.1; have := hb1.2; omega) (by have := ha1.1; have := ha1.2; have := hb1.1; have := hb1.2; omega) (by omega)
  have af1 : VR (numR (ns3 a0 b0 c0 a1 b1 c1 a2 b2 c2 a3 b3 c3 a4 b4 c4)) (.lin .i64 0 [⟨1, 8, (-9223372036854775808), 9223372036854775807⟩]) (.int .i64 a1) := .lin1 (x := a1) rfl ha1.1 ha1.2 (by omega)
  have ce1 : c1 = b1 → VR (numR (ns3 a0 b0 c0 a1 b1 c1 a2 b2 c2 a3 b3 c3 a4 b4 c4)) (.lin .i64 0 [⟨1, 5, (-9223372036854775808), 9223372036854775807⟩]) (.int .i64 c1) := fun h => .lin1 (x := b1) rfl hb1.1 hb1.2 (by omega)
  have cg1 : c1 < b1 → VR (numR (ns3 a0 b0 c0 a1 b1 c1 a2 b2 c2 a3 b3 c3 a4 b4 c4)) (.lin .i64 (-1) [⟨1, 5, (-9223372036854775808), 9223372036854775807⟩, ⟨(-1), 7, 0, 18446744073709551615⟩]) (.int .i64 c1) := fun h => .lin2 (x := b1) (x2 := b1 - c1 - 1) rfl hb1.1 hb1.2 (by show some (if b1 < c1 then c1 - b1 - 1 else b1 - c1 - 1) = _; rw [if_neg (by omega)]) (by have := hc1.1; have := hc1.2; have := hb1.1; have := hb1.2; omega) (by have := hc1.1; have := hc1.2; have := hb1.1; have := hb1.2; omega) (by omega)
  have cl1 : b1 < c1 → VR (numR (ns3 a0 b0 c0 a1 b1 c1 a2 b2 c2 a3 b3 c3 a4 b4 c4)) (.lin .i64 1 [⟨1, 5, (-9223372036854775808), 9223372036854775807⟩, ⟨1, 7, 0, 18446744073709551615⟩]) (.int .i64 c1) := fun h => .lin2 (x := b1) (x2 := c1 - b1 - 1) rfl hb1.1 hb1.2 (by show some (if b1 < c1 then c1 - b1 - 1 else b1 - c1 - 1) = _; rw [if_pos h]) (by have := hc1.1; have := hc1.2; have := hb1.1; have := hb1.2; omega) (by have := hc1.1; have := hc1.2; have := hb1.1; have := hb1.2; omega) (by omega)
  have cf1 : VR (numR (ns3 a0 b0 c0 a1 b1 c1 a2 b2 c2 a3 b3 c3 a4 b4 c4)) (.lin .i64 0 [⟨1, 9, (-9223372036854775808), 9223372036854775807⟩]) (.int .i64 c1) := .lin1 (x := c1) rfl hc1.1 hc1.2 (by omega)
  have vb2 : VR (numR (ns3 a0 b0 c0 a1 b1 c1 a2 b2 c2 a3 b3 c3 a4 b4 c4)) (.lin .i64 0 [⟨1, 10, (-9223372036854775808), 9223372036854775807⟩]) (.int .i64 b2) := .lin1 (x := b2) rfl hb2.1 hb2.2 (by omega)
  have ae2 : a2 = b2 → VR (numR (ns3 a0 b0 c0 a1 b1 c1 a2 b2 c2 a3 b3 c3 a4 b4 c4)) (.lin .i64 0 [⟨1, 10, (-9223372036854775808), 9223372036854775807⟩]) (.int .i64 a2) := fun h => .lin1 (x := b2) rfl hb2.1 hb2.2 (by omega)
  have al2 : a2 < b2 → VR (numR (ns3 a0 b0 c0 a1 b1 c1 a2 b2 c2 a3 b3 c3 a4 b4 c4)) (.lin .i64 (-1) [⟨1, 10, (-9223372036854775808), 9223372036854775807⟩, ⟨(-1), 11, 0, 18446744073709551615⟩]) (.int .i64 a2) := fun h => .lin2 (x := b2) (x2 := b2 - a2 - 1) rfl hb2.1 hb2.2 (by show some (if a2 < b2 then b2 - a2 - 1 else a2 - b2 - 1) = _; rw [if_pos h]) (by have := ha2.1; have := ha2.2; have := hb2.1; have := hb2.2; omega) (by have := ha2.1; have := ha2.2; have := hb2.1; have := hb2.2; omega) (by omega)
  have ag2 : b2 < a2 → VR (numR (ns3 a0 b0 c0 a1 b1 c1 a2 b2 c2 a3 b3 c3 a4 b4 c4)) (.lin .i64 1 [⟨1, 10, (-9223372036854775808), 9223372036854775807⟩, ⟨1, 11, 0, 18446744073709551615⟩]) (.int .i64 a2) := fun h => .lin2 (x := b2) (x2 := a2 - b2 - 1) rfl hb2.1 hb2.2 (by show some (if a2 < b2 then b2 - a2 - 1 else a2 - b2 - 1) = _; rw [if_neg (by omega)]) (by have := ha2.1; have := ha2.2; have := hb2.1; have := hb2.2; omega) (by have := ha2.1; have := ha2.2; have := hb2.1; have := hb2.2; omega) (by omega)
  have af2 : VR (numR (ns3 a0 b0 c0 a1 b1 c1 a2 b2 c2 a3 b3 c3 a4 b4 c4)) (.lin .i64 0 [⟨1, 13, (-9223372036854775808), 9223372036854775807⟩]) (.int .i64 a2) := .lin1 (x := a2) rfl ha2.1 ha2.2 (by omega)
  have ce2 : c2 = b2 → VR (numR (ns3 a0 b0 c0 a1 b1 c1 a2 b2 c2 a3 b3 c3 a4 b4 c4)) (.lin .i64 0 [⟨1, 10, (-9223372036854775808), 9223372036854775807⟩]) (.int .i64 c2) := fun h => .lin1 (x := b2) rfl hb2.1 hb2.2 (by omega)
  have cg2 : c2 < b2 → VR (numR (ns3 a0 b0 c0 a1 b1 c1 a2 b2 c2 a3 b3 c3 a4 b4 c4)) (.lin .i64 (-1) [⟨1, 10, (-9223372036854775808), 9223372036854775807⟩, ⟨(-1), 12, 0, 18446744073709551615⟩]) (.int .i64 c2) := fun h => .lin2 (x := b2) (x2 := b2 - c2 - 1) rfl hb2.1 hb2.2 (by show some (if b2 < c2 then c2 - b2 - 1 else b2 - c2 - 1) = _; rw [if_neg (by omega)]) (by have := hc2.1; have := hc2.2; have := hb2.1; have := hb2.2; omega) (by have := hc2.1; have := hc2.2; have := hb2.1; have := hb2.2; omega) (by omega)
  have cl2 : b2 < c2 → VR (numR (ns3 a0 b0 c0 a1 b1 c1 a2 b2 c2 a3 b3 c3 a4 b4 c4)) (.lin .i64 1 [⟨1, 10, (-9223372036854775808), 9223372036854775807⟩, ⟨1, 12, 0, 18446744073709551615⟩]) (.int .i64 c2) := fun h => .lin2 (x := b2) (x2 := c2 - b2 - 1) rfl hb2.1 hb2.2 (by show some (if b2 < c2 then c2 - b2 - 1 else b2 - c2 - 1) = _; rw [if_pos h]) (by have := hc2.1; have := hc2.2; have := hb2.1; have := hb2.2; omega) (by have := hc2.1; have := hc2.2; have := hb2.1; have := hb2.2; omega) (by omega)
  have cf2 : VR (numR (ns3 a0 b0 c0 a1 b1 c1 a2 b2 c2 a3 b3 c3 a4 b4 c4)) (.lin .i64 0 [⟨1, 14, (-9223372036854775808), 9223372036854775807⟩]) (.int .i64 c2) := .lin1 (x := c2) rfl hc2.1 hc2.2 (by omega)
  have vb3 : VR (numR (ns3 a0 b0 c0 a1 b1 c1 a2 b2 c2 a3 b3 c3 a4 b4 c4)) (.lin .i64 0 [⟨1, 15, (-9223372036854775808), 9223372036854775807⟩]) (.int .i64 b3) := .lin1 (x := b3) rfl hb3.1 hb3.2 (by omega)
  have ae3 : a3 = b3 → VR (numR (ns3 a0 b0 c0 a1 b1 c1 a2 b2 c2 a3 b3 c3 a4 b4 c4)) (.lin .i64 0 [⟨1, 15, (-9223372036854775808), 9223372036854775807⟩]) (.int .i64 a3) := fun h => .lin1 (x := b3) rfl hb3.1 hb3.2 (by omega)
  have al3 : a3 < b3 → VR (numR (ns3 a0 b0 c0 a1 b1 c1 a2 b2 c2 a3 b3 c3 a4 b4 c4)) (.lin .i64 (-1) [⟨1, 15, (-9223372036854775808), 9223372036854775807⟩, ⟨(-1), 16, 0, 18446744073709551615⟩]) (.int .i64 a3) := fun h => .lin2 (x := b3) (x2 := b3 - a3 - 1) rfl hb3.1 hb3.2 (by show some (if a3 < b3 then b3 - a3 - 1 else a3 - b3 - 1) = _; rw [if_pos h]) (by have := ha3.1; have := ha3.2; have := hb3.1; have := hb3.2; omega) (by have := ha3.1; have := ha3.2; have := hb3.1; have := hb3.2; omega) (by omega)
  have ag3 : b3 < a3 → VR (numR (ns3 a0 b0 c0 a1 b1 c1 a2 b2 c2 a3 b3 c3 a4 b4 c4)) (.lin .i64 1 [⟨1, 15, (-9223372036854775808), 9223372036854775807⟩, ⟨1, 16, 0, 18446744073709551615⟩]) (.int .i64 a3) := fun h => .lin2 (x := b3) (x2 := a3 - b3 - 1) rfl hb3.1 hb3.2 (by show some (if a3 < b3 then b3 - a3 - 1 else a3 - b3 - 1) = _; rw [if_neg (by omega)]) (by have := ha3.1; have := ha3.2; have := hb3.1; have := hb3.2; omega) (by have := ha3.1; have := ha3.2; have := hb3.1; have := hb3.2; omega) (by omega)
  have af3 : VR (numR (ns3 a0 b0 c0 a1 b1 c1 a2 b2 c2 a3 b3 c3 a4 b4 c4)) (.lin .i64 0 [⟨1, 18, (-9223372036854775808), 9223372036854775807⟩]) (.int .i64 a3) := .lin1 (x := a3) rfl ha3.1 ha3.2 (by omega)
  have ce3 : c3 = b3 → VR (numR (ns3 a0 b0 c0 a1 b1 c1 a2 b2 c2 a3 b3 c3 a4 b4 c4)) (.lin .i64 0 [⟨1, 15, (-9223372036854775808), 9223372036854775807⟩]) (.int .i64 c3) := fun h => .lin1 (x := b3) rfl hb3.1 hb3.2 (by omega)
  have cg3 : c3 < b3 → VR (numR (ns3 a0 b0 c0 a1 b1 c1 a2 b2 c2 a3 b3 c3 a4 b4 c4)) (.lin .i64 (-1) [⟨1, 15, (-9223372036854775808), 9223372036854775807⟩, ⟨(-1), 17, 0, 18446744073709551615⟩]) (.int .i64 c3) := fun h => .lin2 (x := b3) (x2 := b3 - c3 - 1) rfl hb3.1 hb3.2 (by show some (if b3 < c3 then c3 - b3 - 1 else b3 - c3 - 1) = _; rw [if_neg (by omega)]) (by have := hc3.1; have := hc3.2; have := hb3.1; have := hb3.2; omega) (by have := hc3.1; have := hc3.2; have := hb3.1; have := hb3.2; omega) (by omega)
  have cl3 : b3 < c3 → VR (numR (ns3 a0 b0 c0 a1 b1 c1 a2 b2 c2 a3 b3 c3 a4 b4 c4)) (.lin .i64 1 [⟨1, 15, (-9223372036854775808), 9223372036854775807⟩, ⟨1, 17, 0, 18446744073709551615⟩]) (.int .i64 c3) := fun h => .lin2 (x := b3) (x2 := c3 - b3 - 1) rfl hb3.1 hb3.2 (by show some (if b3 < c3 then c3 - b3 - 1 else b3 - c3 - 1) = _; rw [if_pos h]) (by have := hc3.1; have := hc3.2; have := hb3.1; have := hb3.2; omega) (by have := hc3.1; have := hc3.2; have := hb3.1; have := hb3.2; omega) (by omega)
  have cf3 : VR (numR (ns3 a0 b0 c0 a1 b1 c1 a2 b2 c2 a3 b3 c3 a4 b4 c4)) (.lin .i64 0 [⟨1, 19, (-9223372036854775808), 9223372036854775807⟩]) (.int .i64 c3) := .lin1 (x := c3) rfl hc3.1 hc3.2 (by omega)
  have vb4 : VR (numR (ns3 a0 b0 c0 a1 b1 c1 a2 b2 c2 a3 b3 c3 a4 b4 c4)) (.lin .i64 0 [⟨1, 20, (-9223372036854775808), 9223372036854775807⟩]) (.int .i64 b4) := .lin1 (x := b4) rfl hb4.1 hb4.2 (by omega)
  have ae4 : a4 = b4 → VR (numR (ns3 a0 b0 c0 a1 b1 c1 a2 b2 c2 a3 b3 c3 a4 b4 c4)) (.lin .i64 0 [⟨1, 20, (-9223372036854775808), 9223372036854775807⟩]) (.int .i64 a4) := fun h => .lin1 (x := b4) rfl hb4.1 hb4.2 (by omega)
  have al4 : a4 < b4 → VR (numR (ns3 a0 b0 c0 a1 b1 c1 a2 b2 c2 a3 b3 c3 a4 b4 c4)) (.lin .i64 (-1) [⟨1, 20, (-9223372036854775808), 9223372036854775807⟩, ⟨(-1), 21, 0, 18446744073709551615⟩]) (.int .i64 a4) := fun h => .lin2 (x := b4) (x2 := b4 - a4 - 1) rfl hb4.1 hb4.2 (by show some (if a4 < b4 then b4 - a4 - 1 else a4 - b4 - 1) = _; rw [if_pos h]) (by have := ha4.1; have := ha4.2; have := hb4.1; have := hb4.2; omega) (by have := ha4.1; have := ha4.2; have := hb4.1; have := hb4.2; omega) (by omega)
  have ag4 : b4 < a4 → VR (numR (ns3 a0 b0 c0 a1 b1 c1 a2 b2 c2 a3 b3 c3 a4 b4 c4)) (.lin .i64 1 [⟨1, 20, (-9223372036854775808), 9223372036854775807⟩, ⟨1, 21, 0, 18446744073709551615⟩]) (.int .i64 a4) := fun h => .lin2 (x := b4) (x2 := a4 - b4 - 1) rfl hb4.1 hb4.2 (by show some (if a4 < b4 then b4 - a4 - 1 else a4 - b4 - 1) = _; rw [if_neg (by omega)]) (by have := ha4.1; have := ha4.2; have := hb4.1; have := hb4.2; omega) (by have := ha4.1; have := ha4.2; have := hb4.1; have := hb4.2; omega) (by omega)
  have af4 : VR (numR (ns3 a0 b0 c0 a1 b1 c1 a2 b2 c2 a3 b3 c3 a4 b4 c4)) (.lin .i64 0 [⟨1, 23, (-9223372036854775808), 9223372036854775807⟩]) (.int .i64 a4) := .lin1 (x := a4) rfl ha4.1 ha4.2 (by omega)
  have ce4 : c4 = b4 → VR (numR (ns3 a0 b0 c0 a1 b1 c1 a2 b2 c2 a3 b3 c3 a4 b4 c4)) (.lin .i64 0 [⟨1, 20, (-9223372036854775808), 9223372036854775807⟩]) (.int .i64 c4) := fun h => .lin1 (x := b4) rfl hb4.1 hb4.2 (by omega)
  have cg4 : c4 < b4 → VR (numR (ns3 a0 b0 c0 a1 b1 c1 a2 b2 c2 a3 b3 c3 a4 b4 c4)) (.lin .i64 (-1) [⟨1, 20, (-9223372036854775808), 9223372036854775807⟩, ⟨(-1), 22, 0, 18446744073709551615⟩]) (.int .i64 c4) := fun h => .lin2 (x := b4) (x2 := b4 - c4 - 1) rfl hb4.1 hb4.2 (by show some (if b4 < c4 then c4 - b4 - 1 else b4 - c4 - 1) = _; rw [if_neg (by omega)]) (by have := hc4.1; have := hc4.2; have := hb4.1; have := hb4.2; omega) (by have := hc4.1; have := hc4.2; have := hb4.1; have := hb4.2; omega) (by omega)
  have cl4 : b4 < c4 → VR (numR (ns3 a0 b0 c0 a1 b1 c1 a2 b2 c2 a3 b3 c3 a4 b4 c4)) (.lin .i64 1 [⟨1, 20, (-9223372036854775808), 9223372036854775807⟩, ⟨1, 22, 0, 18446744073709551615⟩]) (.int .i64 c4) := fun h => .lin2 (x := b4) (x2 := c4 - b4 - 1) rfl hb4.1 hb4.2 (by show some (if b4 < c4 then c4 - b4 - 1 else b4 - c4 - 1) = _; rw [if_pos h]) (by have := hc4.1; have := hc4.2; have := hb4.1; have := hb4.2; omega) (by have := hc4.1; have := hc4.2; have := hb4.1; have := hb4.2; omega) (by omega)
  have cf4 : VR (numR (ns3 a0 b0 c0 a1 b1 c1 a2 b2 c2 a3 b3 c3 a4 b4 c4)) (.lin .i64 0 [⟨1, 24, (-9223372036854775808), 9223372036854775807⟩]) (.int .i64 c4) := .lin1 (x := c4) rfl hc4.1 hc4.2 (by omega)
  have fin : ∀ {x y : V}, VR (numR (ns3 a0 b0 c0 a1 b1 c1 a2 b2 c2 a3 b3 c3 a4 b4 c4)) x (kV a0 a1 a2 a3 a4) → VR (numR (ns3 a0 b0 c0 a1 b1 c1 a2 b2 c2 a3 b3 c3 a4 b4 c4)) y (kV c0 c1 c2 c3 c4) → lawRunO [x, m_b, y] = true → Calls Tryz.prog 5 #[kV a0 a1 a2 a3 a4, kV b0 b1 b2 b3 b4, kV c0 c1 c2 c3 c4] W fun e w' => e = .returned (.bool true) ∧ Below W.heap.size W w' := fun hx hy hr =>
    law_cO (ns3 a0 b0 c0 a1 b1 c1 a2 b2 c2 a3 b3 c3 a4 b4 c4) rfl hr (VRs.cons hx (VRs.cons (agg5 vb0 vb1 vb2 vb3 vb4) (VRs.cons hy (VRs.nil _)))) hT
  have tab : (a0 < b0) ∨ (b0 < a0) ∨ (a0 = b0 ∧ a1 < b1) ∨ (a0 = b0 ∧ b1 < a1) ∨ (a0 = b0 ∧ a1 = b1 ∧ a2 < b2) ∨ (a0 = b0 ∧ a1 = b1 ∧ b2 < a2) ∨ (a0 = b0 ∧ a1 = b1 ∧ a2 = b2 ∧ a3 < b3) ∨ (a0 = b0 ∧ a1 = b1 ∧ a2 = b2 ∧ b3 < a3) ∨ (a0 = b0 ∧ a1 = b1 ∧ a2 = b2 ∧ a3 = b3 ∧ a4 < b4) ∨ (a0 = b0 ∧ a1 = b1 ∧ a2 = b2 ∧ a3 = b3 ∧ b4 < a4) ∨ (a0 = b0 ∧ a1 = b1 ∧ a2 = b2 ∧ a3 = b3 ∧ a4 = b4) := by omega
  have tbc : (b0 < c0) ∨ (c0 < b0) ∨ (b0 = c0 ∧ b1 < c1) ∨ (b0 = c0 ∧ c1 < b1) ∨ (b0 = c0 ∧ b1 = c1 ∧ b2 < c2) ∨ (b0 = c0 ∧ b1 = c1 ∧ c2 < b2) ∨ (b0 = c0 ∧ b1 = c1 ∧ b2 = c2 ∧ b3 < c3) ∨ (b0 = c0 ∧ b1 = c1 ∧ b2 = c2 ∧ c3 < b3) ∨ (b0 = c0 ∧ b1 = c1 ∧ b2 = c2 ∧ b3 = c3 ∧ b4 < c4) ∨ (b0 = c0 ∧ b1 = c1 ∧ b2 = c2 ∧ b3 = c3 ∧ c4 < b4) ∨ (b0 = c0 ∧ b1 = c1 ∧ b2 = c2 ∧ b3 = c3 ∧ b4 = c4) := by omega
  rcases tab with g0 | g0 | ⟨g0, g1⟩ | ⟨g0, g1⟩ | ⟨g0, g1, g2⟩ | ⟨g0, g1, g2⟩ | ⟨g0, g1, g2, g3⟩ | ⟨g0, g1, g2, g3⟩ | ⟨g0, g1, g2, g3, g4⟩ | ⟨g0, g1, g2, g3, g4⟩ | ⟨g0, g1, g2, g3, g4⟩
  · rcases tbc with k0 | k0 | ⟨k0, k1⟩ | ⟨k0, k1⟩ | ⟨k0, k1, k2⟩ | ⟨k0, k1, k2⟩ | ⟨k0, k1, k2, k3⟩ | ⟨k0, k1, k2, k3⟩ | ⟨k0, k1, k2, k3, k4⟩ | ⟨k0, k1, k2, k3, k4⟩ | ⟨k0, k1, k2, k3, k4⟩
    · exact fin (agg5 (al0 g0) af1 af2 af3 af4) (agg5 (cl0 k0) cf1 cf2 cf3 cf4) o_lffff_lffff
    · exact fin (agg5 (al0 g0) af1 af2 af3 af4) (agg5 (cg0 k0) cf1 cf2 cf3 cf4) o_lffff_gffff
    · exact fin (agg5 (al0 g0) af1 af2 af3 af4) (agg5 (ce0 k0.symm) (cl1 k1) cf2 cf3 cf4) o_lffff_elfff
    · exact fin (agg5 (al0 g0) af1 af2 af3 af4) (agg5 (ce0 k0.symm) (cg1 k1) cf2 cf3 cf4) o_lffff_egfff
    · exact fin (agg5 (al0 g0) af1 af2 af3 af4) (agg5 (ce0 k0.symm) (ce1 k1.symm) (cl2 k2) cf3 cf4) o_lffff_eelff
    · exact fin (agg5 (al0 g0) af1 af2 af3 af4) (agg5 (ce0 k0.symm) (ce1 k1.symm) (cg2 k2) cf3 cf4) o_lffff_eegff
    · exact fin (agg5 (al0 g0) af1 af2 af3 af4) (agg5 (ce0 k0.symm) (ce1 k1.symm) (ce2 k2.symm) (cl3 k3) cf4) o_lffff_eeelf
    · exact fin (agg5 (al0 g0) af1 af2 af3 af4) (agg5 (ce0 k0.symm) (ce1 k1.symm) (ce2 k2.symm) (cg3 k3) cf4) o_lffff_eeegf
    · exact fin (agg5 (al0 g0) af1 af2 af3 af4) (agg5 (ce0 k0.symm) (ce1 k1.symm) (ce2 k2.symm) (ce3 k3.symm) (cl4 k4)) o_lffff_eeeel
    · exact fin (agg5 (al0 g0) af1 af2 af3 af4) (agg5 (ce0 k0.symm) (ce1 k1.symm) (ce2 k2.symm) (ce3 k3.symm) (cg4 k4)) o_lffff_eeeeg
    · exact fin (agg5 (al0 g0) af1 af2 af3 af4) (agg5 (ce0 k0.symm) (ce1 k1.symm) (ce2 k2.symm) (ce3 k3.symm) (ce4 k4.symm)) o_lffff_eeeee
  · exact fin (agg5 (ag0 g0) af1 af2 af3 af4) (agg5 cf0 cf1 cf2 cf3 cf4) o_gffff_fffff
  · rcases tbc with k0 | k0 | ⟨k0, k1⟩ | ⟨k0, k1⟩ | ⟨k0, k1, k2⟩ | ⟨k0, k1, k2⟩ | ⟨k0, k1, k2, k3⟩ | ⟨k0, k1, k2, k3⟩ | ⟨k0, k1, k2, k3, k4⟩ | ⟨k0, k1, k2, k3, k4⟩ | ⟨k0, k1, k2, k3, k4⟩
    · exact fin (agg5 (ae0 g0) (al1 g1) af2 af3 af4) (agg5 (cl0 k0) cf1 cf2 cf3 cf4) o_elfff_lffff
    · exact fin (agg5 (ae0 g0) (al1 g1) af2 af3 af4) (agg5 (cg0 k0) cf1 cf2 cf3 cf4) o_elfff_gffff
    · exact fin (agg5 (ae0 g0) (al1 g1) af2 af3 af4) (agg5 (ce0 k0.symm) (cl1 k1) cf2 cf3 cf4) o_elfff_elfff
    · exact fin (agg5 (ae0 g0) (al1 g1) af2 af3 af4) (agg5 (ce0 k0.symm) (cg1 k1) cf2 cf3 cf4) o_elfff_egfff
    · exact fin (agg5 (ae0 g0) (al1 g1) af2 af3 af4) (agg5 (ce0 k0.symm) (ce1 k1.symm) (cl2 k2) cf3 cf4) o_elfff_eelff
    · exact fin (agg5 (ae0 g0) (al1 g1) af2 af3 af4) (agg5 (ce0 k0.symm) (ce1 k1.symm) (cg2 k2) cf3 cf4) o_elfff_eegff
    · exact fin (agg5 (ae0 g0) (al1 g1) af2 af3 af4) (agg5 (ce0 k0.symm) (ce1 k1.symm) (ce2 k2.symm) (cl3 k3) cf4) o_elfff_eeelf
    · exact fin (agg5 (ae0 g0) (al1 g1) af2 af3 af4) (agg5 (ce0 k0.symm) (ce1 k1.symm) (ce2 k2.symm) (cg3 k3) cf4) o_elfff_eeegf
    · exact fin (agg5 (ae0 g0) (al1 g1) af2 af3 af4) (agg5 (ce0 k0.symm) (ce1 k1.symm) (ce2 k2.symm) (ce3 k3.symm) (cl4 k4)) o_elfff_eeeel
    · exact fin (agg5 (ae0 g0) (al1 g1) af2 af3 af4) (agg5 (ce0 k0.symm) (ce1 k1.symm) (ce2 k2.symm) (ce3 k3.symm) (cg4 k4)) o_elfff_eeeeg
    · exact fin (agg5 (ae0 g0) (al1 g1) af2 af3 af4) (agg5 (ce0 k0.symm) (ce1 k1.symm) (ce2 k2.symm) (ce3 k3.symm) (ce4 k4.symm)) o_elfff_eeeee
  · exact fin (agg5 (ae0 g0) (ag1 g1) af2 af3 af4) (agg5 cf0 cf1 cf2 cf3 cf4) o_egfff_fffff
  · rcases tbc with k0 | k0 | ⟨k0, k1⟩ | ⟨k0, k1⟩ | ⟨k0, k1, k2⟩ | ⟨k0, k1, k2⟩ | ⟨k0, k1, k2, k3⟩ | ⟨k0, k1, k2, k3⟩ | ⟨k0, k1, k2, k3, k4⟩ | ⟨k0, k1, k2, k3, k4⟩ | ⟨k0, k1, k2, k3, k4⟩
    · exact fin (agg5 (ae0 g0) (ae1 g1) (al2 g2) af3 af4) (agg5 (cl0 k0) cf1 cf2 cf3 cf4) o_eelff_lffff
    · exact fin (agg5 (ae0 g0) (ae1 g1) (al2 g2) af3 af4) (agg5 (cg0 k0) cf1 cf2 cf3 cf4) o_eelff_gffff
    · exact fin (agg5 (ae0 g0) (ae1 g1) (al2 g2) af3 af4) (agg5 (ce0 k0.symm) (cl1 k1) cf2 cf3 cf4) o_eelff_elfff
    · exact fin (agg5 (ae0 g0) (ae1 g1) (al2 g2) af3 af4) (agg5 (ce0 k0.symm) (cg1 k1) cf2 cf3 cf4) o_eelff_egfff
    · exact fin (agg5 (ae0 g0) (ae1 g1) (al2 g2) af3 af4) (agg5 (ce0 k0.symm) (ce1 k1.symm) (cl2 k2) cf3 cf4) o_eelff_eelff
    · exact fin (agg5 (ae0 g0) (ae1 g1) (al2 g2) af3 af4) (agg5 (ce0 k0.symm) (ce1 k1.symm) (cg2 k2) cf3 cf4) o_eelff_eegff
    · exact fin (agg5 (ae0 g0) (ae1 g1) (al2 g2) af3 af4) (agg5 (ce0 k0.symm) (ce1 k1.symm) (ce2 k2.symm) (cl3 k3) cf4) o_eelff_eeelf
    · exact fin (agg5 (ae0 g0) (ae1 g1) (al2 g2) af3 af4) (agg5 (ce0 k0.symm) (ce1 k1.symm) (ce2 k2.symm) (cg3 k3) cf4) o_eelff_eeegf
    · exact fin (agg5 (ae0 g0) (ae1 g1) (al2 g2) af3 af4) (agg5 (ce0 k0.symm) (ce1 k1.symm) (ce2 k2.symm) (ce3 k3.symm) (cl4 k4)) o_eelff_eeeel
    · exact fin (agg5 (ae0 g0) (ae1 g1) (al2 g2) af3 af4) (agg5 (ce0 k0.symm) (ce1 k1.symm) (ce2 k2.symm) (ce3 k3.symm) (cg4 k4)) o_eelff_eeeeg
    · exact fin (agg5 (ae0 g0) (ae1 g1) (al2 g2) af3 af4) (agg5 (ce0 k0.symm) (ce1 k1.symm) (ce2 k2.symm) (ce3 k3.symm) (ce4 k4.symm)) o_eelff_eeeee
  · exact fin (agg5 (ae0 g0) (ae1 g1) (ag2 g2) af3 af4) (agg5 cf0 cf1 cf2 cf3 cf4) o_eegff_fffff
  · rcases tbc with k0 | k0 | ⟨k0, k1⟩ | ⟨k0, k1⟩ | ⟨k0, k1, k2⟩ | ⟨k0, k1, k2⟩ | ⟨k0, k1, k2, k3⟩ | ⟨k0, k1, k2, k3⟩ | ⟨k0, k1, k2, k3, k4⟩ | ⟨k0, k1, k2, k3, k4⟩ | ⟨k0, k1, k2, k3, k4⟩
    · exact fin (agg5 (ae0 g0) (ae1 g1) (ae2 g2) (al3 g3) af4) (agg5 (cl0 k0) cf1 cf2 cf3 cf4) o_eeelf_lffff
    · exact fin (agg5 (ae0 g0) (ae1 g1) (ae2 g2) (al3 g3) af4) (agg5 (cg0 k0) cf1 cf2 cf3 cf4) o_eeelf_gffff
    · exact fin (agg5 (ae0 g0) (ae1 g1) (ae2 g2) (al3 g3) af4) (agg5 (ce0 k0.symm) (cl1 k1) cf2 cf3 cf4) o_eeelf_elfff
    · exact fin (agg5 (ae0 g0) (ae1 g1) (ae2 g2) (al3 g3) af4) (agg5 (ce0 k0.symm) (cg1 k1) cf2 cf3 cf4) o_eeelf_egfff
    · exact fin (agg5 (ae0 g0) (ae1 g1) (ae2 g2) (al3 g3) af4) (agg5 (ce0 k0.symm) (ce1 k1.symm) (cl2 k2) cf3 cf4) o_eeelf_eelff
    · exact fin (agg5 (ae0 g0) (ae1 g1) (ae2 g2) (al3 g3) af4) (agg5 (ce0 k0.symm) (ce1 k1.symm) (cg2 k2) cf3 cf4) o_eeelf_eegff
    · exact fin (agg5 (ae0 g0) (ae1 g1) (ae2 g2) (al3 g3) af4) (agg5 (ce0 k0.symm) (ce1 k1.symm) (ce2 k2.symm) (cl3 k3) cf4) o_eeelf_eeelf
    · exact fin (agg5 (ae0 g0) (ae1 g1) (ae2 g2) (al3 g3) af4) (agg5 (ce0 k0.symm) (ce1 k1.symm) (ce2 k2.symm) (cg3 k3) cf4) o_eeelf_eeegf
    · exact fin (agg5 (ae0 g0) (ae1 g1) (ae2 g2) (al3 g3) af4) (agg5 (ce0 k0.symm) (ce1 k1.symm) (ce2 k2.symm) (ce3 k3.symm) (cl4 k4)) o_eeelf_eeeel
    · exact fin (agg5 (ae0 g0) (ae1 g1) (ae2 g2) (al3 g3) af4) (agg5 (ce0 k0.symm) (ce1 k1.symm) (ce2 k2.symm) (ce3 k3.symm) (cg4 k4)) o_eeelf_eeeeg
    · exact fin (agg5 (ae0 g0) (ae1 g1) (ae2 g2) (al3 g3) af4) (agg5 (ce0 k0.symm) (ce1 k1.symm) (ce2 k2.symm) (ce3 k3.symm) (ce4 k4.symm)) o_eeelf_eeeee
  · exact fin (agg5 (ae0 g0) (ae1 g1) (ae2 g2) (ag3 g3) af4) (agg5 cf0 cf1 cf2 cf3 cf4) o_eeegf_fffff
  · rcases tbc with k0 | k0 | ⟨k0, k1⟩ | ⟨k0, k1⟩ | ⟨k0, k1, k2⟩ | ⟨k0, k1, k2⟩ | ⟨k0, k1, k2, k3⟩ | ⟨k0, k1, k2, k3⟩ | ⟨k0, k1, k2, k3, k4⟩ | ⟨k0, k1, k2, k3, k4⟩ | ⟨k0, k1, k2, k3, k4⟩
    · exact fin (agg5 (ae0 g0) (ae1 g1) (ae2 g2) (ae3 g3) (al4 g4)) (agg5 (cl0 k0) cf1 cf2 cf3 cf4) o_eeeel_lffff
    · exact fin (agg5 (ae0 g0) (ae1 g1) (ae2 g2) (ae3 g3) (al4 g4)) (agg5 (cg0 k0) cf1 cf2 cf3 cf4) o_eeeel_gffff
    · exact fin (agg5 (ae0 g0) (ae1 g1) (ae2 g2) (ae3 g3) (al4 g4)) (agg5 (ce0 k0.symm) (cl1 k1) cf2 cf3 cf4) o_eeeel_elfff
    · exact fin (agg5 (ae0 g0) (ae1 g1) (ae2 g2) (ae3 g3) (al4 g4)) (agg5 (ce0 k0.symm) (cg1 k1) cf2 cf3 cf4) o_eeeel_egfff
    · exact fin (agg5 (ae0 g0) (ae1 g1) (ae2 g2) (ae3 g3) (al4 g4)) (agg5 (ce0 k0.symm) (ce1 k1.symm) (cl2 k2) cf3 cf4) o_eeeel_eelff
    · exact fin (agg5 (ae0 g0) (ae1 g1) (ae2 g2) (ae3 g3) (al4 g4)) (agg5 (ce0 k0.symm) (ce1 k1.symm) (cg2 k2) cf3 cf4) o_eeeel_eegff
    · exact fin (agg5 (ae0 g0) (ae1 g1) (ae2 g2) (ae3 g3) (al4 g4)) (agg5 (ce0 k0.symm) (ce1 k1.symm) (ce2 k2.symm) (cl3 k3) cf4) o_eeeel_eeelf
    · exact fin (agg5 (ae0 g0) (ae1 g1) (ae2 g2) (ae3 g3) (al4 g4)) (agg5 (ce0 k0.symm) (ce1 k1.symm) (ce2 k2.symm) (cg3 k3) cf4) o_eeeel_eeegf
    · exact fin (agg5 (ae0 g0) (ae1 g1) (ae2 g2) (ae3 g3) (al4 g4)) (agg5 (ce0 k0.symm) (ce1 k1.symm) (ce2 k2.symm) (ce3 k3.symm) (cl4 k4)) o_eeeel_eeeel
    · exact fin (agg5 (ae0 g0) (ae1 g1) (ae2 g2) (ae3 g3) (al4 g4)) (agg5 (ce0 k0.symm) (ce1 k1.symm) (ce2 k2.symm) (ce3 k3.symm) (cg4 k4)) o_eeeel_eeeeg
    · exact fin (agg5 (ae0 g0) (ae1 g1) (ae2 g2) (ae3 g3) (al4 g4)) (agg5 (ce0 k0.symm) (ce1 k1.symm) (ce2 k2.symm) (ce3 k3.symm) (ce4 k4.symm)) o_eeeel_eeeee
  · exact fin (agg5 (ae0 g0) (ae1 g1) (ae2 g2) (ae3 g3) (ag4 g4)) (agg5 cf0 cf1 cf2 cf3 cf4) o_eeeeg_fffff
  · exact fin (agg5 (ae0 g0) (ae1 g1) (ae2 g2) (ae3 g3) (ae4 g4)) (agg5 cf0 cf1 cf2 cf3 cf4) o_eeeee_fffff
end
end Go.Proofs.YtamgnggeckomkaaGreatDoor.HM
