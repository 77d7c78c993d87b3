/- The heap machine: whole numbers that nobody knows, told by places' numbers: sums and their bounds. -/
import Derived.Test.YtbfdgdigaiimgaaDoorH1
namespace Go.Proofs.YtbfdgdigaiimgaaDoor.HM
open Go Go.RowKit

def LT.least (t : LT) : Int := if 0 ≤ t.m then t.m * t.lo else t.m * t.hi
def LT.most (t : LT) : Int := if 0 ≤ t.m then t.m * t.hi else t.m * t.lo
def loS (c : Int) : List LT → Int
  | [] => c
  | t :: r => t.least + loS c r
def hiS (c : Int) : List LT → Int
  | [] => c
  | t :: r => t.most + hiS c r

def insT (t : LT) : List LT → List LT
  | [] => if t.m = 0 then [] else [t]
  | u :: r => if t.a = u.a then (if t.m + u.m = 0 then r else ⟨t.m + u.m, u.a, u.lo, u.hi⟩ :: r)
    else if t.a < u.a then (if t.m = 0 then u :: r else t :: u :: r)
    else u :: insT t r
def addS (k : Int) : List LT → List LT → List LT
  | [], us => us
  | t :: r, us => insT ⟨k * t.m, t.a, t.lo, t.hi⟩ (addS k r us)

def OkS (ρ : Ren) (ts : List LT) : Prop := ∀ t ∈ ts, t.ok ρ

section
variable {ρ : Ren}
theorem OkS.nil : OkS ρ [] := fun _ h => by cases h
theorem OkS.cons {t : LT} {ts : List LT} (h : t.ok ρ) (hs : OkS ρ ts) : OkS ρ (t :: ts) := fun x hx => by
  rcases List.mem_cons.1 hx with rfl | hx
  · exact h
  · exact hs x hx
theorem OkS.head {t : LT} {ts : List LT} (h : OkS ρ (t :: ts)) : t.ok ρ := h t (List.mem_cons_self ..)
theorem OkS.tail {t : LT} {ts : List LT} (h : OkS ρ (t :: ts)) : OkS ρ ts := fun x hx => h x (List.mem_cons_of_mem _ hx)
theorem LT.ok.scale {t : LT} (h : t.ok ρ) (m : Int) : LT.ok ρ ⟨m, t.a, t.lo, t.hi⟩ := h

theorem insT_ok {t : LT} (h : t.ok ρ) : ∀ {ts : List LT}, OkS ρ ts → OkS ρ (insT t ts)
  | [], _ => by
    unfold insT; split
    · exact .nil
    · exact .cons h .nil
  | u :: r, hs => by
    unfold insT
    split
    · split
      · exact hs.tail
      · exact .cons (hs.head.scale _) hs.tail
    · split
      · split
        · exact hs
        · exact .cons h hs
      · exact .cons hs.head (insT_ok h hs.tail)

theorem insT_sum (t : LT) : ∀ (ts : List LT), sumR ρ (insT t ts) = t.m * valR ρ t.a + sumR ρ ts
  | [] => by
    unfold insT; split
    · rename_i h; simp [sumR, h]
    · rfl
  | u :: r => by
    unfold insT
    split
    · rename_i ha
      split
      · rename_i hm
        have e : t.m * valR ρ t.a + u.m * valR ρ u.a = 0 := by rw [ha, ← Int.add_mul, hm, Int.zero_mul]
        rw [sumR]; omega
      · rw [sumR, sumR]
        have e : (t.m + u.m) * valR ρ u.a = t.m * valR ρ t.a + u.m * valR ρ u.a := by rw [ha, Int.add_mul]
        show (t.m + u.m) * valR ρ u.a + _ = _
        omega
    · split
      · split
        · rename_i hm; rw [hm, Int.zero_mul, Int.zero_add]
        · rfl
      · rw [sumR, insT_sum t r, sumR]; omega

theorem addS_ok (k : Int) : ∀ {ts us : List LT}, OkS ρ ts → OkS ρ us → OkS ρ (addS k ts us)
  | [], _, _, h => h
  | _ :: _, _, hs, h => insT_ok (hs.head.scale _) (addS_ok k hs.tail h)
theorem addS_sum (k : Int) : ∀ (ts us : List LT), sumR ρ (addS k ts us) = k * sumR ρ ts + sumR ρ us
  | [], us => by simp [addS, sumR]
  | t :: r, us => by
    rw [addS, insT_sum, addS_sum k r us, sumR]
    show k * t.m * valR ρ t.a + _ = _
    rw [Int.mul_add, Int.mul_assoc]; omega

theorem LT.bounds {t : LT} (h : t.ok ρ) : t.least ≤ t.m * valR ρ t.a ∧ t.m * valR ρ t.a ≤ t.most := by
  obtain ⟨L, h1, h2, h3⟩ := h
  have e : valR ρ t.a = L.val := by unfold valR; rw [h1]
  rw [e]
  unfold LT.least LT.most
  split
  · rename_i hm
    exact ⟨Int.mul_le_mul_of_nonneg_left h2 hm, Int.mul_le_mul_of_nonneg_left h3 hm⟩
  · rename_i hm
    exact ⟨Int.mul_le_mul_of_nonpos_left (by omega) h3, Int.mul_le_mul_of_nonpos_left (by omega) h2⟩

theorem loS_le (c : Int) : ∀ {ts : List LT}, OkS ρ ts → loS c ts ≤ c + sumR ρ ts ∧ c + sumR ρ ts ≤ hiS c ts
  | [], _ => by simp [loS, hiS, sumR]
  | t :: r, h => by
    have h1 := LT.bounds h.head
    have h2 := loS_le c h.tail
    rw [loS, hiS, sumR]; omega

/-- a number, as simply as may be -/
def mkLin (k : IntKind) (c : Int) : List LT → V
  | [] => .int k c
  | t :: r => .lin k c (t :: r)
theorem mkLin_VR {k : IntKind} {c n : Int} {ts : List LT} (h : OkS ρ ts) (hn : n = c + sumR ρ ts) : VR ρ (mkLin k c ts) (.int k n) := by
  cases ts with
  | nil =>
    obtain rfl : n = c := by simpa [sumR] using hn
    exact .int k _
  | cons t r => exact .lin k c _ n h hn

def asLin : V → Option (IntKind × Int × List LT)
  | .int k c => some (k, c, [])
  | .lin k c ts => some (k, c, ts)
  | _ => none
theorem asLin_sound {a : V} {u : Value} {k : IntKind} {c : Int} {ts : List LT} (h : VR ρ a u) (ha : asLin a = some (k, c, ts)) : ∃ n, u = .int k n ∧ OkS ρ ts ∧ n = c + sumR ρ ts := by
  unfold asLin at ha
  split at ha
  · simp only [Option.some.injEq, Prod.mk.injEq] at ha; obtain ⟨rfl, rfl, rfl⟩ := ha
    exact ⟨_, h.int_inv, .nil, by simp [sumR]⟩
  · simp only [Option.some.injEq, Prod.mk.injEq] at ha; obtain ⟨rfl, rfl, rfl⟩ := ha
    cases h with
    | lin _ _ _ n h hn => exact ⟨n, rfl, h, hn⟩
  · cases ha

def diffS (c d : Int) (ts us : List LT) : Int × Int := (loS (c - d) (addS (-1) us ts), hiS (c - d) (addS (-1) us ts))

theorem diffS_sound {c d n m : Int} {ts us : List LT} (h1 : OkS ρ ts) (h2 : OkS ρ us) (hn : n = c + sumR ρ ts) (hm : m = d + sumR ρ us) : (diffS c d ts us).1 ≤ n - m ∧ n - m ≤ (diffS c d ts us).2 := by
  have h := loS_le (c - d) (addS_ok (-1) h2 h1)
  rw [addS_sum] at h
  unfold diffS
  simp only
  omega

/-- are two numbers the same? -/
def eqLin (a b : V) : Option Bool := match asLin a, asLin b with
  | some (k, c, ts), some (k', d, us) => if k = k' then
      (if (diffS c d ts us).1 = 0 ∧ (diffS c d ts us).2 = 0 then some true else if (diffS c d ts us).2 < 0 ∨ 0 < (diffS c d ts us).1 then some false else none)
    else none
  | _, _ => none
theorem eqLin_sound {a b : V} {u v : Value} {t : Bool} (ha : VR ρ a u) (hb : VR ρ b v) (h : eqLin a b = some t) : ∃ k n m, u = .int k n ∧ v = .int k m ∧ t = decide (n = m) := by
  unfold eqLin at h
  split at h
  · rename_i k c ts k' d us e1 e2
    obtain ⟨n, rfl, s1, hn⟩ := asLin_sound ha e1
    obtain ⟨m, rfl, s2, hm⟩ := asLin_sound hb e2
    split at h
    · rename_i hk; subst hk
      obtain ⟨d1, d2⟩ := diffS_sound s1 s2 hn hm
      refine ⟨k, n, m, rfl, rfl, ?_⟩
      split at h
      · simp only [Option.some.injEq] at h; subst h
        symm; rw [decide_eq_true_iff]; omega
      · split at h
        · simp only [Option.some.injEq] at h; subst h
          symm; rw [decide_eq_false_iff_not]; omega
        · cases h
    · cases h
  · cases h
end
end Go.Proofs.YtbfdgdigaiimgaaDoor.HM
