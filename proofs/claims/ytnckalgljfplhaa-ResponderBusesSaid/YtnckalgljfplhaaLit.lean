/-
  The examples of the chapter: what the functions give for them.
-/
import Derived.Test.YtnckalgljfplhaaTopW
namespace Go.Proofs.Ytnckalgljfplhaa
open Go.RowKit

def exD : Dev := ⟨5, 4, 1, ⟨#[]⟩, 0, false, false⟩
def exMuted : Dev := ⟨5, 4, 1, ⟨#[]⟩, 0, true, false⟩
def exFar : Dev := ⟨5, 4, 509, ⟨#[]⟩, 0, false, false⟩
def exSeek : Msg := ⟨281474976710655, 9, 0, 1, 0, ⟨#[0, 0, 0, 0, 0, 1, 0, 0, 0, 0, 0, 9]⟩⟩

theorem ex_new : newD 5 4 = (exD, 0) := by kernel_rfl
theorem ex_seek : rightM (discM 9 0 1 9) = (exSeek, 0) := by kernel_rfl
theorem ex_found : receiveD exD exSeek = (exD, ⟨9, 5, 0, 6, 0, ⟨#[0, 0, 0, 0, 0, 5]⟩⟩, true, 0) := by kernel_rfl
theorem ex_mute : receiveD exD ⟨281474976710655, 9, 0, 2, 0, ⟨#[]⟩⟩ = (exMuted, zeroM, false, 0) := by kernel_rfl
theorem ex_quiet : receiveD exMuted exSeek = (exMuted, zeroM, false, 0) := by kernel_rfl
theorem ex_far : receiveD exD ⟨5, 9, 0, 5, 240, ⟨#[1, 253]⟩⟩ = (exFar, ⟨9, 5, 0, 6, 240, ⟨#[]⟩⟩, true, 0) := by kernel_rfl
theorem ex_info : readD exFar 96 = (⟨#[0, 4, 1, 253]⟩, -1, 0) := by kernel_rfl
theorem ex_ref1 : receiveD exD ⟨5, 9, 0, 5, 240, ⟨#[1, 254]⟩⟩ = (exD, ⟨9, 5, 0, 7, 240, ⟨#[3]⟩⟩, true, 0) := by kernel_rfl
theorem ex_ref2 : receiveD exD ⟨5, 9, 0, 5, 240, ⟨#[1]⟩⟩ = (exD, ⟨9, 5, 0, 7, 240, ⟨#[2]⟩⟩, true, 0) := by kernel_rfl
theorem ex_ref3 : receiveD exD ⟨5, 9, 0, 5, 1024, ⟨#[]⟩⟩ = (exD, ⟨9, 5, 0, 7, 1024, ⟨#[1]⟩⟩, true, 0) := by kernel_rfl

/-- All slots of the example. -/
def exAll : List UInt8 := List.replicate 508 0 ++ [7, 0, 0, 8]
theorem ex_slots : slotsD exFar (str exAll) = (⟨#[7, 0, 0, 8]⟩, 0) := by kernel_rfl

/-- Receiving at values that are known. -/
theorem receive_is (d d' : Dev) (m a : Msg) (q : Bool) (n : Int) (w : World) (h : receiveD d m = (d', a, q, n)) :
    Calls Try.prog 13 #[devV d, msgV m] w fun e w' => e = .returned (.tuple #[devV d', msgV a, .bool q, .int .i64 n]) ∧ Below w.heap.size w w' := by
  have := receive_any d.id d.ft d.ad d.hr m.dst m.src m.seq m.kind m.par d.lb m.dat d.mu d.idf w
  rw [show (⟨d.id, d.ft, d.ad, d.lb, d.hr, d.mu, d.idf⟩ : Dev) = d from rfl, show (⟨m.dst, m.src, m.seq, m.kind, m.par, m.dat⟩ : Msg) = m from rfl, h] at this
  exact this

set_option maxHeartbeats 400000 in
theorem message_any (dst kind par : Int) (dat : ByteArray) (w : World) :
    Calls Try.prog 17 #[.int .u64 dst, .int .i64 kind, .int .i64 par, .string dat] w fun e w' => e = .returned (.agg #[.int .u64 dst, .int .u64 9, .int .i64 0, .int .i64 kind, .int .i64 par, .string dat]) ∧ Below w.heap.size w w' := by
  go_enter Try.func17, Try.ntmps17
  go_wp2
  refine bodyPost_ret (v := msgV ⟨dst, 9, 0, kind, par, dat⟩) ?_ rfl ⟨rfl, ?_⟩
  · simp [results, Try.results17, go_sem, *]
  · (repeat' (first | (with_reducible exact Below.refl _ _) | (with_reducible assumption) | (with_reducible refine below_run ?_ (by assumption)) | (with_reducible refine below_of_upd ?_ (by assumption) ?_) | (with_reducible refine below_drewN ?_ _) | (with_reducible refine Below.drew ?_) | (with_reducible refine Below.setCell ?_ ?_ _) | (with_reducible refine Below.alloc ?_ ?_ _) | (with_reducible refine below_after ?_ ?_ (by assumption)) | (show _ ≤ _; first | omega | (simp; done) | (simp; omega))))

end Go.Proofs.Ytnckalgljfplhaa
