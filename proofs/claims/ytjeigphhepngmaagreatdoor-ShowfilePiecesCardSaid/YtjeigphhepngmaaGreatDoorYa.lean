/- -/
import Derived.WalkKit
import Derived.Test.YtjeigphhepngmaaGreatDoorBas
namespace Go.Proofs.YtjeigphhepngmaaGreatDoor
set_option maxHeartbeats 8000000
set_option maxRecDepth 100000
def vint (z : Nat) : List UInt8 := if z < 128 then [UInt8.ofNat z] else UInt8.ofNat (z % 128 + 128) :: vint (z / 128)
termination_by z
decreasing_by omega
def zig (n : Int) : Nat := if 0 ≤ n then (2 * n).toNat else (-2 * n - 1).toNat
def intB (n : Int) : List UInt8 := vint (zig n)
def textB (s : ByteArray) : List UInt8 := if 65535 < s.size then [] else intB s.size ++ s.data.toList
def intsB (l : List Int) : List UInt8 := l.flatMap intB
def truthI (b : Bool) : Int := if b then 1 else 0
theorem zkj : intsB [] = [] := rfl
theorem zcl (n : Int) (l : List Int) : intsB (n :: l) = intB n ++ intsB l := by simp [intsB]
theorem zdm (a b : List Int) : intsB (a ++ b) = intsB a ++ intsB b := by simp [intsB]
def unzig (z : Nat) : Int := if z % 2 = 0 then (z / 2 : Nat) else -((z / 2 : Nat) : Int) - 1
def gz (i z : Nat) : List UInt8 → Except Int (Nat × Nat)
 | [] => .error 20
 | c :: l => if 128 ≤ c.toNat ∧ i < 9 then gz (i + 1) (z + c.toNat % 128 * 2 ^ (7 * i)) l
   else if (0 < i ∧ c.toNat = 0) ∨ (i = 9 ∧ 1 < c.toNat) then .error 3 else .ok (z + c.toNat * 2 ^ (7 * i), i + 1)
def getI (s : ByteArray) (at_ : Nat) : Except Int (Int × Nat) :=
 match gz 0 0 (s.data.toList.drop at_) with
 | .error e => .error e
 | .ok (z, c) => .ok (unzig z, at_ + c)
def getT (s : ByteArray) (at_ : Nat) : Except Int (ByteArray × Nat) :=
 match getI s at_ with
 | .error e => .error e
 | .ok (n, nx) => if n < 0 ∨ 65535 < n then .error 3 else if (s.size : Int) - nx < n then .error 20 else .ok (s.extract nx (nx + n.toNat), nx + n.toNat)
theorem zf6 : ∀ (l : List UInt8) (i z : Nat), i ≤ 9 → match gz i z l with | .error e => e = 20 ∨ e = 3 | .ok (_, c) => i < c ∧ c ≤ i + l.length ∧ c ≤ 10
 | [], i, z, _ => by simp [gz]
 | c :: l, i, z, hi => by
   by_cases h1 : 128 ≤ c.toNat ∧ i < 9
   · rw [gz, if_pos h1]
     have := zf6 l (i + 1) (z + c.toNat % 128 * 2 ^ (7 * i)) (by omega)
     cases hx : gz (i + 1) (z + c.toNat % 128 * 2 ^ (7 * i)) l with
     | error e => rw [hx] at this; exact this
     | ok y =>
       rw [hx] at this
       simp only [List.length_cons] at this ⊢
       omega
   rw [gz, if_neg h1]
   by_cases h2 : (0 < i ∧ c.toNat = 0) ∨ (i = 9 ∧ 1 < c.toNat)
   · rw [if_pos h2]; exact .inr rfl
   rw [if_neg h2]
   simp only [List.length_cons]
   omega
theorem zj8 {s : ByteArray} {a nx : Nat} {n : Int} (h : getI s a = .ok (n, nx)) (ha : a ≤ s.size) : a < nx ∧ nx ≤ s.size := by
 have hb := zf6 (s.data.toList.drop a) 0 0 (by omega)
 unfold getI at h
 split at h
 · cases h
 rename_i z c hx
 rw [hx] at hb
 simp at h hb
 omega
theorem zds {s : ByteArray} {a : Nat} {e : Int} (h : getI s a = .error e) : e = 20 ∨ e = 3 := by
 have hb := zf6 (s.data.toList.drop a) 0 0 (by omega)
 unfold getI at h
 split at h
 · rename_i e' hx
   rw [hx] at hb
   cases h
   exact hb
 cases h
theorem zin {s : ByteArray} {a : Nat} {e : Int} (h : getT s a = .error e) : e = 20 ∨ e = 3 := by
 unfold getT at h
 split at h
 · rename_i e' hx
   cases h
   exact zds hx
 split at h
 · cases h; exact .inr rfl
 split at h
 · cases h; exact .inl rfl
 cases h
abbrev Rd (α : Type) := Nat → Option (α × Nat)
def rI (s : ByteArray) : Rd Int := fun a => (getI s a).toOption
def rT (s : ByteArray) : Rd ByteArray := fun a => (getT s a).toOption
def rL {α : Type} (f : Rd α) : Nat → Rd (List α)
 | 0, a => some ([], a)
 | k + 1, a => (f a).bind fun x => (rL f k x.2).map fun y => (x.1 :: y.1, y.2)
def Fwd {α : Type} (s : ByteArray) (f : Rd α) : Prop := ∀ a x b, f a = some (x, b) → a ≤ s.size → a < b ∧ b ≤ s.size
def Fwd0 {α : Type} (s : ByteArray) (f : Rd α) : Prop := ∀ a x b, f a = some (x, b) → a ≤ s.size → a ≤ b ∧ b ≤ s.size
theorem Fwd.zero {α : Type} {s : ByteArray} {f : Rd α} (h : Fwd s f) : Fwd0 s f := fun a x b e ha => by
 have := h a x b e ha
 omega
theorem znz (s : ByteArray) : Fwd s (rI s) := fun a x b h ha => by
 unfold rI at h
 cases hx : getI s a with
 | error e => rw [hx] at h; cases h
 | ok y => rw [hx] at h; simp [Except.toOption] at h; subst h; exact zj8 hx ha
structure RS where
 at_ : Nat
 bad : Bool
abbrev Rq (α : Type) := RS → α × RS
def qL {α : Type} (f : Rq α) : Nat → Rq (List α)
 | 0, st => ([], st)
 | k + 1, st => if st.bad then ([], st) else ((f st).1 :: (qL f k (f st).2).1, (qL f k (f st).2).2)
structure FwdQ {α : Type} (s : ByteArray) (q : Rq α) : Prop where
 fwd : ∀ st, st.at_ ≤ s.size → st.at_ ≤ (q st).2.at_ ∧ (q st).2.at_ ≤ s.size
 good : ∀ st, st.at_ ≤ s.size → (q st).2.bad = false → st.bad = false ∧ st.at_ < (q st).2.at_
end Go.Proofs.YtjeigphhepngmaaGreatDoor
