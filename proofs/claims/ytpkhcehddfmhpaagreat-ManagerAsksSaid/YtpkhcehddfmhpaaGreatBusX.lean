/-
  All devices behind a message: the reference.
  Small facts on the bus.
-/
import Derived.Test.YtpkhcehddfmhpaaGreatBus
namespace Go.Proofs.YtpkhcehddfmhpaaGreat
open Go.RowKit

theorem DevsAt.run {w w' : World} {v : Value} {l : List Dev} (h : DevsAt w v l) (hb : Below w.heap.size w w') : DevsAt w' v l := SeqAt.below h hb
theorem MsgsAt.run {w w' : World} {v : Value} {l : List Msg} (h : MsgsAt w v l) (hb : Below w.heap.size w w') : MsgsAt w' v l := SeqAt.below h hb
theorem DevsAt.alloc {w : World} {v : Value} {l : List Dev} (h : DevsAt w v l) (o : Obj) : DevsAt (w.alloc o) v l := SeqAt.alloc h o

theorem devs_is (n : Int) (v : Value) (l : List Dev) (w : World) (hv : DevsAt w v l) (hlb : ∀ d ∈ l, d.lb.size ≤ 9223372036854775807) (h : Hid (devsE l = n)) :
    Calls Tryz.prog 130 #[v] w fun e w' => e = .returned (.int .i64 n) ∧ Below w.heap.size w w' := by
  have := devices_err v l w hv hlb
  rw [h.out] at this
  exact this

end Go.Proofs.YtpkhcehddfmhpaaGreat

namespace Go.Proofs.YtpkhcehddfmhpaaGreat
open Go.RowKit

theorem fewall_is (q : Bool) (v : Value) (l : List Dev) (w : World) (hv : DevsAt w v l) (h : Hid ((decide (l.length ≤ 128) && l.all fun d => decide (d.lb.size ≤ 100)) = q)) :
    Calls Tryz.prog 61 #[v] w fun e w' => e = .returned (.bool q) ∧ Below w.heap.size w w' := by
  have := fewall_any v l w hv
  rw [h.out] at this
  exact this

theorem below_undrew {B : Nat} {w w' : World} (h : Below B w.drew w') : Below B w w' := ⟨h.os, h.tape, h.output, h.size, h.block⟩

theorem busD_length (l : List Dev) (m : Msg) : (busD l m).length ≤ l.length := by
  unfold busD
  split
  · rw [sentD_length]; exact Nat.le_refl _
  · exact Nat.zero_le _

end Go.Proofs.YtpkhcehddfmhpaaGreat
