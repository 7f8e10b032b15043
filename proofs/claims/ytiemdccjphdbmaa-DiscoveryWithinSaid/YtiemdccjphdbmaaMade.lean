/-
  The reference's bytes of a message, and what it encodes.
-/
import Derived.Test.YtiemdccjphdbmaaPl46
import Derived.Test.YtiemdccjphdbmaaRchk
import Derived.Outline
namespace Go.Proofs.Ytiemdccjphdbmaa
open Go.RowKit

theorem app_size (a b : ByteArray) : (a ++ b).size = a.size + b.size := by simp

/-- The bytes of a message but its sum, part by part. -/
def bodyB (m : Msg) : ByteArray := bytesB 204 1 ++ bytesB 1 1 ++ bytesB m.dst 6 ++ bytesB m.src 6 ++ bytesB m.seq 1 ++ bytesB m.kind 1 ++ bytesB m.par 2 ++ bytesB m.dat.size 1 ++ m.dat

theorem bodyB_list (m : Msg) : (bodyB m).data.toList = bodyL m := by
  simp [bodyB, bodyL, bytesB, str]
  rfl
theorem str_eq (s : ByteArray) (l : List UInt8) (h : s.data.toList = l) : s = str l := by subst h; rw [str_list]

theorem bytesB_list (n c : Int) : (bytesB n c).data.toList = bytesOf n.toNat c.toNat := by simp [bytesB, str]

theorem made_eq {body : ByteArray} {m : Msg} (h : body.data.toList = bodyL m) : body ++ bytesB ((sumN body.data.toList : Int) % 65536) 2 = str (madeL m) := by
  apply str_eq
  have e : ((sumN (bodyL m) : Int) % 65536).toNat = sumN (bodyL m) % 65536 := by omega
  rw [ByteArray.data_append, Array.toList_append, bytesB_list, h, madeL, e]
  show _ ++ bytesOf _ 2 = _
  rw [bytesOf_mod]

end Go.Proofs.Ytiemdccjphdbmaa
