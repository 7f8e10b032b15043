/-
  Plain definitions and lemmas on numbers, bytes, messages and devices: no program in sight.
-/
import Derived.WalkKit
namespace Go.Proofs.YtdklpmaeajpacaaDoor

/-- A number is an identity. -/
def isId (n : Int) : Bool := decide (0 < n ∧ n < 281474976710655)

/-- The last `c` bytes of a number, the highest one first. -/
def bytesOf (n : Nat) : Nat → List UInt8
  | 0 => []
  | c + 1 => bytesOf (n / 256) c ++ [UInt8.ofNat n]

/-- The number of some bytes, the highest one first. -/
def numOf (l : List UInt8) : Nat := l.foldl (fun a b => a * 256 + b.toNat) 0

/-- A text of some bytes. -/
def str (l : List UInt8) : ByteArray := ⟨l.toArray⟩

theorem bytesOf_length (n c : Nat) : (bytesOf n c).length = c := by
  induction c generalizing n with
  | zero => rfl
  | succ c ih => simp [bytesOf, ih]

theorem snoc_ind {α : Type} {P : List α → Prop} (h0 : P []) (h1 : ∀ l a, P l → P (l ++ [a])) (l : List α) : P l := by
  have h : ∀ k : List α, P k.reverse := fun k => by
    induction k with
    | nil => exact h0
    | cons a k ih => rw [List.reverse_cons]; exact h1 _ _ ih
  have := h l.reverse
  rwa [List.reverse_reverse] at this

theorem numOf_nil : numOf [] = 0 := rfl
theorem numOf_snoc (l : List UInt8) (b : UInt8) : numOf (l ++ [b]) = numOf l * 256 + b.toNat := by
  simp [numOf]
theorem numOf_lt (l : List UInt8) : numOf l < 256 ^ l.length := by
  refine snoc_ind (P := fun l => numOf l < 256 ^ l.length) (by simp [numOf]) (fun l b ih => ?_) l
  rw [numOf_snoc, List.length_append, List.length_singleton, Nat.pow_succ]
  have := b.toNat_lt
  omega

theorem numOf_bytesOf (n c : Nat) : numOf (bytesOf n c) = n % 256 ^ c := by
  induction c generalizing n with
  | zero => simp [bytesOf, numOf, Nat.mod_one]
  | succ c ih =>
    rw [bytesOf, numOf_snoc, ih, Nat.pow_succ, Nat.mul_comm (256 ^ c) 256, Nat.mod_mul]
    simp
    omega

theorem bytesOf_numOf (l : List UInt8) : bytesOf (numOf l) l.length = l := by
  refine snoc_ind (P := fun l => bytesOf (numOf l) l.length = l) rfl (fun l b ih => ?_) l
  have := b.toNat_lt
  rw [numOf_snoc, List.length_append, List.length_singleton, bytesOf]
  rw [show (numOf l * 256 + b.toNat) / 256 = numOf l from by omega, ih]
  congr 2
  apply UInt8.toNat_inj.1
  simp

/-- A message; its data are a text. -/
structure Msg where
  dst : Int
  src : Int
  seq : Int
  kind : Int
  par : Int
  dat : ByteArray

/-- A device. -/
structure Dev where
  id : Int
  ft : Int
  ad : Int
  lb : ByteArray
  hr : Int
  mu : Bool
  idf : Bool

def lenOf (k : Int) : Int := if k = 1 then 12 else if k = 2 then 0 else if k = 3 then 0 else if k = 7 then 1 else -1

/-- The number of the error of a message. -/
def chk (m : Msg) : Int :=
  if (isId m.dst || decide (m.dst = 281474976710655)) = false ∨ isId m.src = false ∨ m.seq < 0 ∨ 255 < m.seq then 2
  else if m.kind < 1 ∨ 7 < m.kind then 1
  else if m.par < 0 ∨ 65535 < m.par then 2
  else if 255 < m.dat.size then 13
  else if 0 ≤ lenOf m.kind ∧ (m.dat.size : Int) ≠ lenOf m.kind then 14
  else if m.kind = 1 then
    (if isId (numOf (m.dat.data.toList.take 6)) = false ∨ isId (numOf (m.dat.data.toList.drop 6)) = false then 2
     else if numOf (m.dat.data.toList.drop 6) < numOf (m.dat.data.toList.take 6) then 9 else 0)
  else 0

end Go.Proofs.YtdklpmaeajpacaaDoor
