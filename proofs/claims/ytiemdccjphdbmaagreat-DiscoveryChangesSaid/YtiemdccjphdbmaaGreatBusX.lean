/-
  All devices behind a message: the reference.
  Small facts on the bus.
-/
import Derived.Test.YtiemdccjphdbmaaGreatBus
namespace Go.Proofs.YtiemdccjphdbmaaGreat
open Go.RowKit

theorem DevsAt.run {w w' : World} {v : Value} {l : List Dev} (h : DevsAt w v l) (hb : Below w.heap.size w w') : DevsAt w' v l := SeqAt.below h hb
theorem MsgsAt.run {w w' : World} {v : Value} {l : List Msg} (h : MsgsAt w v l) (hb : Below w.heap.size w w') : MsgsAt w' v l := SeqAt.below h hb
theorem DevsAt.alloc {w : World} {v : Value} {l : List Dev} (h : DevsAt w v l) (o : Obj) : DevsAt (w.alloc o) v l := SeqAt.alloc h o

theorem devs_is (n : Int) (v : Value) (l : List Dev) (w : World) (hv : DevsAt w v l) (hlb : ∀ d ∈ l, d.lb.size ≤ 9223372036854775807) (h : Hid (devsE l = n)) :
    Calls Tryz.prog 40 #[v] w fun e w' => e = .returned (.int .i64 n) ∧ Below w.heap.size w w' := by
  have := devices_err v l w hv hlb
  rw [h.out] at this
  exact this

set_option maxHeartbeats 2000000 in
set_option maxRecDepth 100000 in
theorem refbus_any (v : Value) (l : List Dev) (dst src seq kind par : Int) (dat : ByteArray) (w : World) (hv : DevsAt w v l) (hlb : ∀ d ∈ l, d.lb.size ≤ 9223372036854775807) (hds : dat.size ≤ 9223372036854775807) :
    Calls Tryz.prog 47 #[v, .agg #[.int .u64 dst, .int .u64 src, .int .i64 seq, .int .i64 kind, .int .i64 par, .string dat]] w (BusPost (busE l ⟨dst, src, seq, kind, par, dat⟩) (busD l ⟨dst, src, seq, kind, par, dat⟩) (busA l ⟨dst, src, seq, kind, par, dat⟩) w) := by
  obtain ⟨n1, hn1⟩ : ∃ n, devsE l = n := ⟨_, rfl⟩
  obtain ⟨n2, hn2⟩ : ∃ n, chk ⟨dst, src, seq, kind, par, dat⟩ = n := ⟨_, rfl⟩
  have HE := Lib.hid hn1
  have HM := Lib.hid hn2
  have hv' := hv.alloc (.cells #[.int .u64 dst, .int .u64 src, .int .i64 seq, .int .i64 kind, .int .i64 par, .string dat] 43)
  have HV := Lib.hid hv'
  have HLB := Lib.hid hlb
  clear hn1 hn2 hv' hlb
  by_cases z1 : n1 = 0
  · subst z1
    by_cases z2 : n2 = 0
    · subst z2
      have hlen : l.length ≤ 64 := by have := HE.out; unfold devsE at this; split at this <;> omega
      have hall := dErr_all (seen := []) (l := l) (by have := HE.out; rw [devsE, if_neg (by omega)] at this; exact this)
      have HALL := Lib.hid hall
      clear hall
      go_enter Tryz.func47, Tryz.ntmps47
      go_wp2_with fail
      refine (devs_is 0 _ l _ HV.out HLB.out HE).mono ?_
      rintro e w1 ⟨rfl, hb⟩
      have hz1 := hb.size
      (try simp at hz1)
      have HV1 := Lib.hid (HV.out.run hb)
      have hM : RowAt w1 w.heap.size 43 #[.int .u64 dst, .int .u64 src, .int .i64 seq, .int .i64 kind, .int .i64 par, .string dat] := (by (repeat' (first | (with_reducible assumption) | (with_reducible refine RowAt.drewN ?_ _) | (with_reducible refine RowAt.drew ?_) | (with_reducible apply RowAt.six) | (with_reducible apply RowAt.seven) | ((with_reducible refine RowAt.mk ?_ ?_); (focus (first | rfl | (simp; done))); rfl) | (with_reducible refine RowAt.alloc ?_ _) | (with_reducible refine RowAt.far ?_ ?_) | (with_reducible refine RowAt.run ?_ (by assumption)) | (with_reducible refine RowAt.below ?_ (by assumption) ?_) | (with_reducible refine RowAt.upd ?_ (by assumption) ?_) | (show _ < _; first | omega | (simp; done) | (simp; omega)) | (show ¬ _ = _; first | omega | (simp; done) | (simp; omega)) | exact rfl))); obtain ⟨hMa, hMb, hMc, hMd, hMe, hMf⟩ := row_facts hM
      go_wp2_with fail
      refine (refchk_is 0 dst src seq kind par dat _ HM).mono ?_
      rintro e w2 ⟨rfl, hb2⟩
      have HV2 := Lib.hid (HV1.out.run hb2)
      have hM2 := hM.run hb2
      obtain ⟨x1, x2, x3, x4, x5, x6⟩ := row_facts hM2
      have hbb : Below w.heap.size w w2 := below_run (below_run ((Below.refl _ _).alloc (Nat.le_refl _) _) hb) hb2
      go_wp2_with fail
      refine (sent_any _ l dst src seq kind par dat _ HV2.out (by omega) HALL.out HM.out hds).mono ?_
      rintro e w3 ⟨v1, v2, rfl, hd3, ha3, hb3⟩
      have HD3 := Lib.hid hd3
      have HA3 := Lib.hid ha3
      clear hd3 ha3
      go_wp2
      go_ret3
      exact bus_good (busE_msg HE.out HM.out) HD3.out HA3.out (below_run hbb hb3)
    · have e9 : (n2 != 0) = true := by simpa using z2
      have HZ := Lib.hid z2
      clear z2
      go_enter Tryz.func47, Tryz.ntmps47
      go_wp2_with fail
      refine (devs_is 0 _ l _ HV.out HLB.out HE).mono ?_
      rintro e w1 ⟨rfl, hb⟩
      have hz1 := hb.size
      (try simp at hz1)
      have hM : RowAt w1 w.heap.size 43 #[.int .u64 dst, .int .u64 src, .int .i64 seq, .int .i64 kind, .int .i64 par, .string dat] := (by (repeat' (first | (with_reducible assumption) | (with_reducible refine RowAt.drewN ?_ _) | (with_reducible refine RowAt.drew ?_) | (with_reducible apply RowAt.six) | (with_reducible apply RowAt.seven) | ((with_reducible refine RowAt.mk ?_ ?_); (focus (first | rfl | (simp; done))); rfl) | (with_reducible refine RowAt.alloc ?_ _) | (with_reducible refine RowAt.far ?_ ?_) | (with_reducible refine RowAt.run ?_ (by assumption)) | (with_reducible refine RowAt.below ?_ (by assumption) ?_) | (with_reducible refine RowAt.upd ?_ (by assumption) ?_) | (show _ < _; first | omega | (simp; done) | (simp; omega)) | (show ¬ _ = _; first | omega | (simp; done) | (simp; omega)) | exact rfl))); obtain ⟨hMa, hMb, hMc, hMd, hMe, hMf⟩ := row_facts hM
      go_wp2_with fail
      refine (refchk_is n2 dst src seq kind par dat _ HM).mono ?_
      rintro e w2 ⟨rfl, hb2⟩
      go_wp2
      go_ret3
      exact bus_bad HZ.out (busE_msg HE.out HM.out) (below_run (below_run ((Below.refl _ _).alloc (Nat.le_refl _) _) hb) hb2)
  · have e9 : (n1 != 0) = true := by simpa using z1
    have HZ := Lib.hid z1
    clear z1
    go_enter Tryz.func47, Tryz.ntmps47
    go_wp2_with fail
    refine (devs_is n1 _ l _ HV.out HLB.out HE).mono ?_
    rintro e w1 ⟨rfl, hb⟩
    go_wp2
    go_ret3
    exact bus_bad HZ.out (busE_devs HE.out HZ.out) (below_run ((Below.refl _ _).alloc (Nat.le_refl _) _) hb)

end Go.Proofs.YtiemdccjphdbmaaGreat

namespace Go.Proofs.YtiemdccjphdbmaaGreat
open Go.RowKit

theorem fewall_is (q : Bool) (v : Value) (l : List Dev) (w : World) (hv : DevsAt w v l) (h : Hid ((decide (l.length ≤ 128) && l.all fun d => decide (d.lb.size ≤ 100)) = q)) :
    Calls Tryz.prog 35 #[v] w fun e w' => e = .returned (.bool q) ∧ Below w.heap.size w w' := by
  have := fewall_any v l w hv
  rw [h.out] at this
  exact this

theorem below_undrew {B : Nat} {w w' : World} (h : Below B w.drew w') : Below B w w' := ⟨h.os, h.tape, h.output, h.size, h.block⟩

theorem busD_length (l : List Dev) (m : Msg) : (busD l m).length ≤ l.length := by
  unfold busD
  split
  · rw [sentD_length]; exact Nat.le_refl _
  · exact Nat.zero_le _

end Go.Proofs.YtiemdccjphdbmaaGreat
