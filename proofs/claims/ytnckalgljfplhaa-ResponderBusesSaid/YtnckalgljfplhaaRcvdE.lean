/-
  The contract of the reference's receiving, all cases.
-/
import Derived.Test.YtnckalgljfplhaaRcvdA
namespace Go.Proofs.Ytnckalgljfplhaa
open Go.RowKit

set_option maxHeartbeats 1000000 in
set_option maxRecDepth 100000 in
theorem rcvd_deaf (id ft ad hr dst src seq kind par : Int) (lb dat : ByteArray) (mu idf : Bool) (w : World) (hk : deafD ⟨id, ft, ad, lb, hr, mu, idf⟩ ⟨dst, src, seq, kind, par, dat⟩ = true) :
    Calls Try.prog 40 #[.agg #[.int .u64 id, .int .i64 ft, .int .i64 ad, .string lb, .int .i64 hr, .bool mu, .bool idf], .agg #[.int .u64 dst, .int .u64 src, .int .i64 seq, .int .i64 kind, .int .i64 par, .string dat]] w (RcvdPost (recvD ⟨id, ft, ad, lb, hr, mu, idf⟩ ⟨dst, src, seq, kind, par, dat⟩) w) := by
  have hrv : recvD ⟨id, ft, ad, lb, hr, mu, idf⟩ ⟨dst, src, seq, kind, par, dat⟩ = (⟨id, ft, ad, lb, hr, mu, idf⟩, zeroM, false) := by rw [recvD, if_pos hk]
  rw [hrv]
  clear hrv
  have hk' : (dst ≠ id ∧ dst ≠ 281474976710655) ∨ kind = 6 ∨ kind = 7 := by simpa [deafD] using hk
  clear hk
  obtain ⟨q1, h1⟩ : ∃ q, (dst != id) = q := ⟨_, rfl⟩
  obtain ⟨q2, h2⟩ : ∃ q, (dst != 281474976710655) = q := ⟨_, rfl⟩
  obtain ⟨q6, h6⟩ : ∃ q, (kind == 6) = q := ⟨_, rfl⟩
  obtain ⟨q7, h7⟩ : ∃ q, (kind == 7) = q := ⟨_, rfl⟩
  have hq : (q1 = true ∧ q2 = true) ∨ q6 = true ∨ q7 = true := by
    rw [← h1, ← h2, ← h6, ← h7]; simpa using hk'
  clear hk'
  cases q1 <;> cases q2 <;> cases q6 <;> cases q7 <;> first | (exfalso; simp at hq; done) | skip
  all_goals (clear hq; skip)
  all_goals
    go_enter Try.func40, Try.ntmps40
    go_wp2
    refine bodyPost_ret (v := .tuple #[devV ⟨id, ft, ad, lb, hr, mu, idf⟩, msgV zeroM, .bool false]) ?_ rfl ⟨rfl, by (repeat' (first | (with_reducible exact Below.refl _ _) | (with_reducible assumption) | (with_reducible refine below_run ?_ (by assumption)) | (with_reducible refine below_drewN ?_ _) | (with_reducible refine Below.drew ?_) | (with_reducible refine Below.setCell ?_ ?_ _) | (with_reducible refine Below.alloc ?_ ?_ _) | (with_reducible refine below_after ?_ ?_ (by assumption)) | (show _ ≤ _; first | omega | (simp; done) | (simp; omega))))⟩
    simp [results, Try.results40, go_sem, zeroM, *]

theorem rcvd_any (id ft ad hr dst src seq kind par : Int) (lb dat : ByteArray) (mu idf : Bool) (w : World) (hc : chkD ⟨id, ft, ad, lb, hr, mu, idf⟩ = 0) (hm : chk ⟨dst, src, seq, kind, par, dat⟩ = 0) (hds : dat.size ≤ 9223372036854775807) :
    Calls Try.prog 40 #[.agg #[.int .u64 id, .int .i64 ft, .int .i64 ad, .string lb, .int .i64 hr, .bool mu, .bool idf], .agg #[.int .u64 dst, .int .u64 src, .int .i64 seq, .int .i64 kind, .int .i64 par, .string dat]] w (RcvdPost (recvD ⟨id, ft, ad, lb, hr, mu, idf⟩ ⟨dst, src, seq, kind, par, dat⟩) w) := by
  have hf := fine_of_chk _ hc
  by_cases hk : deafD ⟨id, ft, ad, lb, hr, mu, idf⟩ ⟨dst, src, seq, kind, par, dat⟩ = true
  · exact rcvd_deaf id ft ad hr dst src seq kind par lb dat mu idf w hk
  · have hk1 : deafD ⟨id, ft, ad, lb, hr, mu, idf⟩ ⟨dst, src, seq, kind, par, dat⟩ = false := by simpa using hk
    have hk' : ¬ ((dst ≠ id ∧ dst ≠ 281474976710655) ∨ kind = 6 ∨ kind = 7) := by simpa [deafD] using hk
    have hkind : 1 ≤ kind ∧ kind ≤ 7 := by grind [chk]
    by_cases h1 : kind = 1
    · subst h1
      exact rcvd_seek id ft ad hr dst src seq par lb dat mu idf w hf hm hk1
    · exact rcvd_act id ft ad hr dst src seq kind par lb dat mu idf w hf hc hk1 (by omega) hds

end Go.Proofs.Ytnckalgljfplhaa
