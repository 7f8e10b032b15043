/-
  The walk of the law on buses.
-/
import Derived.Test.YtnckalgljfplhaaBusR
import Derived.Test.YtnckalgljfplhaaSame
namespace Go.Proofs.Ytnckalgljfplhaa
open Go.RowKit

theorem fewall_is (q : Bool) (v : Value) (l : List Dev) (w : World) (hv : DevsAt w v l) (h : Hid ((decide (l.length ≤ 128) && l.all fun d => decide (d.lb.size ≤ 100)) = q)) :
    Calls Try.prog 32 #[v] w fun e w' => e = .returned (.bool q) ∧ Below w.heap.size w w' := by
  have := fewall_any v l w hv
  rw [h.out] at this
  exact this

theorem below_undrew {B : Nat} {w w' : World} (h : Below B w.drew w') : Below B w w' := ⟨h.os, h.tape, h.output, h.size, h.block⟩

theorem busD_length (l : List Dev) (m : Msg) : (busD l m).length ≤ l.length := by
  unfold busD
  split
  · rw [sentD_length]; exact Nat.le_refl _
  · exact Nat.zero_le _

set_option maxHeartbeats 4000000 in
set_option maxRecDepth 100000 in
theorem law_buses (v : Value) (l : List Dev) (dst src seq kind par : Int) (dat : ByteArray) (w : World) (hv : DevsAt w v l) (hr : l.length * 56 ≤ 140737488351232) (hds : dat.size ≤ 9223372036854775807) :
    Calls Try.prog 9 #[v, .agg #[.int .u64 dst, .int .u64 src, .int .i64 seq, .int .i64 kind, .int .i64 par, .string dat]] w fun e w' => e = .returned (.bool true) ∧ Below w.heap.size w w' := by
  obtain ⟨q1, h1⟩ : ∃ q, (decide (l.length ≤ 128) && l.all fun d => decide (d.lb.size ≤ 100)) = q := ⟨_, rfl⟩
  obtain ⟨q2, h2⟩ : ∃ q, decide (dat.size ≤ 510) = q := ⟨_, rfl⟩
  have H1 := Lib.hid h1
  have H2 := Lib.hid h2
  have HV := Lib.hid (hv.alloc (.cells #[.int .u64 dst, .int .u64 src, .int .i64 seq, .int .i64 kind, .int .i64 par, .string dat] 26))
  obtain ⟨n, hn⟩ : ∃ n, busE l ⟨dst, src, seq, kind, par, dat⟩ = n := ⟨_, rfl⟩
  obtain ⟨ld, hld⟩ : ∃ ld, busD l ⟨dst, src, seq, kind, par, dat⟩ = ld := ⟨_, rfl⟩
  obtain ⟨la, hla⟩ : ∃ la, busA l ⟨dst, src, seq, kind, par, dat⟩ = la := ⟨_, rfl⟩
  have hlen := busD_length l ⟨dst, src, seq, kind, par, dat⟩
  rw [hld] at hlen
  have cb := fun v w hv => bus_any v l dst src seq kind par dat w hv
  have cr := fun v w hv hlb => refbus_any v l dst src seq kind par dat w hv hlb hds
  rw [hn, hld, hla] at cb cr
  have CB := Lib.hid cb
  have CRF := Lib.hid cr
  clear h1 h2 hv hn hld hla cb cr
  cases q1
  · go_enter Try.func9, Try.ntmps9
    go_wp2_with fail
    refine (devices_any _ l _ HV.out hr).mono ?_
    rintro e w1 ⟨v1, rfl, hd1, hb⟩
    have HD1 := Lib.hid hd1
    clear hd1
    go_wp2_with fail
    refine (fewall_is false _ l _ HD1.out H1).mono ?_
    rintro e w2 ⟨rfl, hb2⟩
    go_wp2_with fail
    refine (awake_any _).mono ?_
    rintro e w3 ⟨rfl, hb3⟩
    go_wp2
    go_ret
    exact ⟨rfl, by (repeat' (first | (with_reducible exact Below.refl _ _) | (with_reducible assumption) | (with_reducible refine below_run ?_ (by assumption)) | (with_reducible refine below_of_upd ?_ (by assumption) ?_) | (with_reducible refine below_drewN ?_ _) | (with_reducible refine Below.drew ?_) | (with_reducible refine below_seven ?_ ?_) | (with_reducible refine below_six ?_ ?_) | (with_reducible refine below_one ?_ ?_) | (with_reducible refine Below.alloc ?_ ?_ _) | (with_reducible refine below_after ?_ ?_ (by assumption)) | (show _ ≤ _; first | omega | (simp; done) | (simp; omega))))⟩
  · have hlb : ∀ d ∈ l, d.lb.size ≤ 9223372036854775807 := by
      intro d hd
      have := H1.out
      simp only [Bool.and_eq_true, List.all_eq_true, decide_eq_true_eq] at this
      have := this.2 d hd
      omega
    have HLB := Lib.hid hlb
    clear hlb
    go_enter Try.func9, Try.ntmps9
    go_wp2_with fail
    refine (devices_any _ l _ HV.out hr).mono ?_
    rintro e w1 ⟨v1, rfl, hd1, hb⟩
    have HD1 := Lib.hid hd1
    have HV1 := Lib.hid (HV.out.run hb)
    have hz1 := hb.size
    (try simp at hz1)
    have hM : RowAt w1 w.heap.size 26 #[.int .u64 dst, .int .u64 src, .int .i64 seq, .int .i64 kind, .int .i64 par, .string dat] := (by (repeat' (first | (with_reducible assumption) | (with_reducible refine RowAt.drewN ?_ _) | (with_reducible refine RowAt.drew ?_) | (with_reducible apply RowAt.six) | (with_reducible apply RowAt.seven) | ((with_reducible refine RowAt.mk ?_ ?_); (focus (first | rfl | (simp; done))); rfl) | (with_reducible refine RowAt.alloc ?_ _) | (with_reducible refine RowAt.far ?_ ?_) | (with_reducible refine RowAt.run ?_ (by assumption)) | (with_reducible refine RowAt.below ?_ (by assumption) ?_) | (with_reducible refine RowAt.upd ?_ (by assumption) ?_) | (show _ < _; first | omega | (simp; done) | (simp; omega)) | (show ¬ _ = _; first | omega | (simp; done) | (simp; omega)) | exact rfl))); obtain ⟨hMa, hMb, hMc, hMd, hMe, hMf⟩ := row_facts hM
    have hbb1 : Below w.heap.size w w1 := below_run ((Below.refl _ _).alloc (Nat.le_refl _) _) hb
    clear hd1
    go_wp2_with fail
    refine (fewall_is true _ l _ HD1.out H1).mono ?_
    rintro e w2 ⟨rfl, hb2⟩
    have HV2 := Lib.hid (HV1.out.run hb2)
    have hM2 := hM.run hb2
    obtain ⟨x1, x2, x3, x4, x5, x6⟩ := row_facts hM2
    have hbb2 := below_run hbb1 hb2
    cases q2
    · go_wp2_with fail
      refine (fewmsg_is false _ _ _ _ _ _ _ H2).mono ?_
      rintro e w3 ⟨rfl, hb3⟩
      go_wp2_with fail
      refine (awake_any _).mono ?_
      rintro e w4 ⟨rfl, hb4⟩
      go_wp2
      go_ret
      exact ⟨rfl, below_run (below_run hbb2 hb3) hb4⟩
    · go_wp2_with fail
      refine (fewmsg_is true _ _ _ _ _ _ _ H2).mono ?_
      rintro e w3 ⟨rfl, hb3⟩
      have HV3 := Lib.hid (HV2.out.run hb3)
      have hM3 := hM2.run hb3
      obtain ⟨y1, y2, y3, y4, y5, y6⟩ := row_facts hM3
      have hbb3 := below_run hbb2 hb3
      go_wp2_with fail
      refine (CB.out _ _ HV3.out).mono ?_
      rintro e w4 ⟨va, vx, rfl, hda, hmx, hb4⟩
      have HDA4 := Lib.hid hda
      have HMX4 := Lib.hid hmx
      have HV4 := Lib.hid (HV3.out.run hb4)
      have hM4 := hM3.run hb4
      obtain ⟨z1, z2, z3, z4, z5, z6⟩ := row_facts hM4
      have hbb4 := below_run hbb3 hb4
      clear hda hmx
      go_wp2
      go_region_held3 (fun w' => w'.cell? ⟨w.heap.size, 0, none⟩ = some (.int .u64 dst) ∧ w'.cell? ⟨w.heap.size, 1, none⟩ = some (.int .u64 src) ∧ w'.cell? ⟨w.heap.size, 2, none⟩ = some (.int .i64 seq) ∧ w'.cell? ⟨w.heap.size, 3, none⟩ = some (.int .i64 kind) ∧ w'.cell? ⟨w.heap.size, 4, none⟩ = some (.int .i64 par) ∧ w'.cell? ⟨w.heap.size, 5, none⟩ = some (.string dat)) (go_keep)
        (first
          | (go_at_call 33; refine (devices_any _ l _ (by exact HV4.out) hr).mono ?_; rintro e w5 ⟨v5, rfl, hd5, hb50⟩; have hb5 : Below w4.heap.size w4 w5 := (by first | exact hb50 | exact below_undrew hb50); clear hb50; have HD5 := Lib.hid hd5; have HDA5 := Lib.hid (HDA4.out.run hb5); have HMX5 := Lib.hid (HMX4.out.run hb5); have hM5 := hM4.run hb5; obtain ⟨a1, a2, a3, a4, a5, a6⟩ := row_facts hM5; have hbb5 := below_run hbb4 hb5; clear hd5)
          | (go_at_call 35; refine (CRF.out _ _ (by exact HD5.out) HLB.out).mono ?_; rintro e w6 ⟨vb, vy, rfl, hdb, hmy, hb6⟩; have HDB6 := Lib.hid hdb; have HMY6 := Lib.hid hmy; have HDA6 := Lib.hid (HDA5.out.run hb6); have HMX6 := Lib.hid (HMX5.out.run hb6); have hM6 := hM5.run hb6; obtain ⟨c1, c2, c3, c4, c5, c6⟩ := row_facts hM6; have hbb6 := below_run hbb5 hb6; clear hdb hmy))
      go_wp2_with fail
      refine (devices_any _ ld _ HDA6.out (by omega)).mono ?_
      rintro e w7 ⟨v7, rfl, hd7, hb7⟩
      have HD7 := Lib.hid hd7
      have HDB7 := Lib.hid (HDB6.out.run hb7)
      have HMX7 := Lib.hid (HMX6.out.run hb7)
      have HMY7 := Lib.hid (HMY6.out.run hb7)
      clear hd7
      go_wp2_with fail
      refine (same_any _ _ ld _ HD7.out HDB7.out).mono ?_
      rintro e w8 ⟨rfl, hb8⟩
      have HMX8 := Lib.hid (HMX7.out.run hb8)
      have HMY8 := Lib.hid (HMY7.out.run hb8)
      go_wp2_with fail
      refine (samemsg_any _ _ la _ HMX8.out HMY8.out).mono ?_
      rintro e w9 ⟨rfl, hb9⟩
      go_wp2_with fail
      refine (awake_any _).mono ?_
      rintro e w10 ⟨rfl, hb10⟩
      go_wp2
      go_ret
      exact ⟨rfl, below_run (below_run (below_run (below_run hbb6 hb7) hb8) hb9) hb10⟩

end Go.Proofs.Ytnckalgljfplhaa
