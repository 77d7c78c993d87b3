/- The heap machine: what a closed run gives is put beside what is there: values. -/
import Derived.Test.YtbfdgdigaiimgaaDoorH7
namespace Go.Proofs.YtbfdgdigaiimgaaDoor.HM
open Go Go.RowKit

mutual
/-- all numbers of blocks moved up -/
def V.shift (s : Nat) : V → V
  | .ptr a o => .ptr (a + s) o
  | .sl a o n z => .sl (a + s) o n z
  | .mp a => .mp (a + s)
  | .fn f x y => .fn f (V.shifts s x) (V.shifts s y)
  | .iface t x => .iface t (x.shift s)
  | .agg x => .agg (V.shifts s x)
  | .tup x => .tup (V.shifts s x)
  | .bool b => .bool b
  | .int k n => .int k n
  | .str l => .str l
  | .nilp => .nilp
  | .anyp => .anyp
  | .gp g o => .gp g o
  | .nils => .nils
  | .nilmap => .nilmap
  | .nilfn => .nilfn
  | .nilif => .nilif
  | .any => .any
  | .mod m i => .mod m i
  | .anyb => .anyb
  | .lin _ _ _ => .any
  | .sstr _ => .any
def V.shifts (s : Nat) : List V → List V
  | [] => []
  | x :: r => x.shift s :: V.shifts s r
end

theorem shifts_map (s : Nat) : ∀ (l : List V), V.shifts s l = l.map (V.shift s)
  | [] => rfl
  | x :: r => by rw [V.shifts, shifts_map s r]; rfl

/-- the callee's places behind the caller's -/
def joinR (s : Nat) (ρ ρ0 : Ren) : Ren := fun a => if a < s then ρ a else ρ0 (a - s)

theorem joinR_hi (s : Nat) (ρ ρ0 : Ren) (a : Nat) : joinR s ρ ρ0 (a + s) = ρ0 a := by
  unfold joinR; rw [if_neg (by omega)]; congr 1; omega
theorem joinR_lo {s : Nat} {ρ ρ0 : Ren} {a : Nat} (h : a < s) : joinR s ρ ρ0 a = ρ a := by
  unfold joinR; rw [if_pos h]

theorem VR.shift {s : Nat} {ρ ρ0 : Ren} {x : V} {u : Value} (h : VR ρ0 x u) : VR (joinR s ρ ρ0) (x.shift s) u := by
  have key : ∀ (xs : List V) (us : Array Value), (∀ (i : Nat) x u, xs[i]? = some x → us[i]? = some u → VR (joinR s ρ ρ0) (x.shift s) u) →
      ∀ (i : Nat) x u, (V.shifts s xs)[i]? = some x → us[i]? = some u → VR (joinR s ρ ρ0) x u := by
    intro xs us ih i x u hx hu
    rw [shifts_map, List.getElem?_map, Option.map_eq_some_iff] at hx
    obtain ⟨y, hy, rfl⟩ := hx
    exact ih i y u hy hu
  induction h with
  | bool b => exact .bool b
  | int k n => exact .int k n
  | str l => exact .str l
  | nilp => exact .nilp
  | anyp p => exact .anyp p
  | ptr a o L h => exact .ptr _ o L (by rw [joinR_hi]; exact h)
  | gp g o => exact .gp g o
  | nils => exact .nils
  | sl a o n sz c L h hc hl => exact .sl _ o n sz c L (by rw [joinR_hi]; exact h) hc hl
  | sl0 a o sz x => exact .sl0 _ o sz x
  | nilmap => exact .nilmap
  | mp a L h => exact .mp _ L (by rw [joinR_hi]; exact h)
  | nilfn => exact .nilfn
  | fn f xs ys us vs hn hm hx hy ih1 ih2 => exact .fn f _ _ us vs (by rw [shifts_map]; simpa using hn) (by rw [shifts_map]; simpa using hm) (key _ _ ih1) (key _ _ ih2)
  | nilif => exact .nilif
  | iface t x u h ih => exact .iface t _ u ih
  | agg xs us hn hr ih => exact .agg _ us (by rw [shifts_map]; simpa using hn) (key _ _ ih)
  | tup xs us hn hr ih => exact .tup _ us (by rw [shifts_map]; simpa using hn) (key _ _ ih)
  | any u => exact .any u
  | mod m i k h => exact .mod m i k h
  | anyb b => exact .anyb b
  | lin k c ts n h hn => exact .any _
  | sstr xs bs hn hr ih => exact .any _

theorem VRs.shift {s : Nat} {ρ ρ0 : Ren} {xs : List V} {us : List Value} (h : VRs ρ0 xs us) : VRs (joinR s ρ ρ0) (V.shifts s xs) us := by
  refine ⟨by rw [shifts_map]; simpa using h.1, fun i x u hx hu => ?_⟩
  rw [shifts_map, List.getElem?_map, Option.map_eq_some_iff] at hx
  obtain ⟨y, hy, rfl⟩ := hx
  exact (h.2 i y u hy hu).shift

theorem BytesR.shift {s : Nat} {ρ ρ0 : Ren} {xs : List V} {bs : List UInt8} (h : BytesR ρ0 xs bs) : BytesR (joinR s ρ ρ0) (V.shifts s xs) bs := by
  refine ⟨by rw [shifts_map]; simpa using h.1, fun i x u hx hu => ?_⟩
  rw [shifts_map, List.getElem?_map, Option.map_eq_some_iff] at hx
  obtain ⟨y, hy, rfl⟩ := hx
  exact (h.2 i y u hy hu).shift

def Blk.shift (s : Nat) : Blk → Blk
  | .cells f b z xs => .cells (f + s) b z (V.shifts s xs)
  | .iter l p => .iter (V.shifts s l) p
  | .mapo es c => .mapo (es.map fun e => (e.1.shift s, e.2.shift s)) c
end Go.Proofs.YtbfdgdigaiimgaaDoor.HM
