/-
  What is heard, with the errors: Heard of both sides.
  What is heard, with the errors: the reference's Heard.
  Devices behind a message that seeks them, and what is heard: Probe of both sides.
-/
import Derived.Test.YtiemdccjphdbmaaGreatHq
import Derived.Test.YtiemdccjphdbmaaGreatSk
import Derived.Test.YtiemdccjphdbmaaGreatDvs
import Derived.Test.YtiemdccjphdbmaaGreatBusX
namespace Go.Proofs.YtiemdccjphdbmaaGreat
open Go.RowKit

/-- The first error of some messages. -/
def msgsE : List Msg → Int
  | [] => 0
  | a :: l => if chk a ≠ 0 then chk a else msgsE l
/-- The error of what is to be heard. -/
def heardE (m : Msg) (l : List Msg) : Int := if chk m ≠ 0 then chk m else if m.kind ≠ 1 then 1 else if 64 < l.length then 5 else msgsE l
/-- What is heard, and the error. -/
def heardR (m : Msg) (l : List Msg) : Int × Int × Int := if heardE m l ≠ 0 then (0, 0, heardE m l) else ((hearM m l).1, (hearM m l).2, 0)

theorem msgsE_zero : ∀ {l : List Msg}, msgsE l = 0 → ∀ a ∈ l, chk a = 0
  | [], _, a, ha => by cases ha
  | b :: l, h, a, ha => by
    rw [msgsE] at h
    by_cases hb : chk b = 0
    · rw [if_neg (not_not_intro hb)] at h
      rcases List.mem_cons.1 ha with rfl | ha
      · exact hb
      · exact msgsE_zero h a ha
    · rw [if_pos hb] at h
      exact absurd h hb
theorem msgsE_on {l : List Msg} {k : Nat} {a : Msg} (h : l[k]? = some a) (ha : chk a = 0) : msgsE (l.drop k) = msgsE (l.drop (k + 1)) := by
  have hk : k < l.length := (List.getElem?_eq_some_iff.1 h).1
  rw [List.drop_eq_getElem_cons hk, msgsE, show l[k] = a from (List.getElem?_eq_some_iff.1 h).2, if_neg (not_not_intro ha)]
theorem msgsE_bad {l : List Msg} {k : Nat} {a : Msg} {n : Int} (h : l[k]? = some a) (ha : chk a = n) (hn : n ≠ 0) : msgsE (l.drop k) = n := by
  have hk : k < l.length := (List.getElem?_eq_some_iff.1 h).1
  rw [List.drop_eq_getElem_cons hk, msgsE, show l[k] = a from (List.getElem?_eq_some_iff.1 h).2, if_pos (by rw [ha]; exact hn), ha]

theorem heard_bad {m : Msg} {l : List Msg} {n : Int} (h : heardE m l = n) (hn : n ≠ 0) : heardR m l = (0, 0, n) := by
  rw [heardR, if_pos (by rw [h]; exact hn), h]
theorem heard_good {m : Msg} {l : List Msg} {k i : Int} (h : heardE m l = 0) (hh : hearM m l = (k, i)) : heardR m l = (k, i, 0) := by
  rw [heardR, if_neg (not_not_intro h), hh]

/-- What Heard returns. -/
def HeardPost (m : Msg) (l : List Msg) (w : World) (e : Ending) (w' : World) : Prop := ∃ k id n, e = .returned (.tuple #[.int .i64 k, .int .u64 id, .int .i64 n]) ∧ Hid (heardR m l = (k, id, n)) ∧ Below w.heap.size w w'
theorem heard_end {m : Msg} {l : List Msg} {n : Int} {w w' : World} (h : heardE m l = n) (hn : n ≠ 0) (hb : Below w.heap.size w w') : HeardPost m l w (.returned (.tuple #[.int .i64 0, .int .u64 0, .int .i64 n])) w' :=
  ⟨0, 0, n, rfl, heard_bad h hn, hb⟩

set_option maxHeartbeats 4000000 in
set_option maxRecDepth 100000 in
theorem heard_any (v : Value) (l : List Msg) (dst src seq kind par : Int) (dat : ByteArray) (w : World) (hv : MsgsAt w v l) :
    Calls Tryz.prog 16 #[.agg #[.int .u64 dst, .int .u64 src, .int .i64 seq, .int .i64 kind, .int .i64 par, .string dat], v] w (HeardPost ⟨dst, src, seq, kind, par, dat⟩ l w) := by
  have HV := Lib.hid hv
  have hsl : ∃ a k c, v = .slice a k c := slice_of hv
  have hln : ∀ a k c, v = .slice a k c → (k : Int) = (l.length : Int) := by
    rintro a k c rfl
    rcases hv with ⟨h0, _, _, e⟩ | ⟨_, _, _, _, _, e, _⟩ <;> cases e <;> omega
  obtain ⟨sa, sk, sc, rfl⟩ := hsl
  obtain rfl : sk = l.length := by have := hln _ _ _ rfl; omega
  clear hv hln
  obtain ⟨n, hn⟩ : ∃ n, chk ⟨dst, src, seq, kind, par, dat⟩ = n := ⟨_, rfl⟩
  have HN := Lib.hid hn
  clear hn
  by_cases z : n = 0
  · subst z
    by_cases hk : kind = 1
    · subst hk
      by_cases hl : l.length ≤ 64
      · have hl1 : (l.length : Int) ≤ 64 := by omega
        have HE : Hid (heardE ⟨dst, src, seq, 1, par, dat⟩ l = msgsE l) := by
          show heardE _ _ = _
          rw [heardE, if_neg (not_not_intro HN.out), if_neg (by simp), if_neg (by omega)]
        have C := Lib.hid (fun W => chk_is 0 dst src seq 1 par dat W HN)
        have HL := Lib.hid hl
        go_enter Tryz.func16, Tryz.ntmps16
        go_wp2_with fail
        refine (C.out _).mono ?_
        rintro e w1 ⟨rfl, hb1⟩
        have hb0 : Below w.heap.size w w1 := below_run ((Below.refl _ _).alloc (Nat.le_refl _) _) hb1
        have hM : RowAt w1 w.heap.size 43 #[.int .u64 dst, .int .u64 src, .int .i64 seq, .int .i64 1, .int .i64 par, .string dat] := (RowAt.new _ _ _).run hb1
        obtain ⟨x1, x2, x3, x4, x5, x6⟩ := row_facts hM
        have hle := hb0.size
        have hV1 := HV.out.run hb0
        have HV1 := Lib.hid hV1
        have HM1 := Lib.hid hM
        clear hb1 hM C hV1 HV
        go_wp2
        go_loopw [9, 10, 26] (fun _ _ i wr => ∃ k : Nat, k ≤ l.length ∧ i = .int .i64 k ∧ Hid (msgsE l = msgsE (l.drop k)) ∧ Below w1.heap.size w1 wr) (fun _ _ i _ => l.length - (intOf i).toNat)
        case atStart => exact ⟨0, Nat.zero_le _, rfl, rfl, Below.refl _ _⟩
        case round =>
          obtain ⟨k, hk, rfl, hE2, hbr⟩ := hrel
          by_cases hlt2 : k < l.length
          · have hlt3 : (k : Int) < (l.length : Int) := by omega
            have hVr := HV1.out.run hbr
            rcases hVr with ⟨h0, _⟩ | ⟨h0, h1, b, off, cap, hv, hlt, hcel⟩
            · omega
            · cases hv
              obtain ⟨a, ha, e0, e1, e2, e3, e4, e5⟩ := msg_cells hcel k hlt2
              obtain ⟨c, hc⟩ : ∃ c, chk ⟨a.dst, a.src, a.seq, a.kind, a.par, a.dat⟩ = c := ⟨_, rfl⟩
              have CA := Lib.hid (fun W => chk_is c a.dst a.src a.seq a.kind a.par a.dat W hc)
              have HA := Lib.hid ha
              have HCC := Lib.hid hc
              clear ha hc hcel
              go_wp2_with fail
              refine (CA.out _).mono ?_
              rintro e w2 ⟨rfl, hb2⟩
              have hb3 := below_run (hbr.alloc hbr.size _) hb2
              clear e0 e1 e2 e3 e4 e5 hb2 hbr x1 x2 x3 x4 x5 x6 CA
              by_cases z : c = 0
              · subst z
                go_wp2
                go_roundw
                case rel => exact ⟨k + 1, by omega, by go_num, by show msgsE l = _; rw [hE2.out]; exact msgsE_on HA.out HCC.out, hb3⟩
                case measure => simp [intOf]; omega
              · have e9 : (c != 0) = true := by simpa using z
                have HZ := Lib.hid z
                clear z
                go_wp2
                go_ret3
                exact heard_end (by rw [HE.out, hE2.out]; exact msgsE_bad HA.out HCC.out HZ.out) HZ.out (hb0.trans (hb3.mono hle))
          · obtain rfl : k = l.length := by omega
            have hE3 : msgsE l = 0 := by
              rw [hE2.out, List.drop_length]
              rfl
            have hMr := HM1.out.run hbr
            obtain ⟨y1, y2, y3, y4, y5, y6⟩ := row_facts hMr
            have CU := Lib.hid (understood_any _ l dst src seq 1 par dat wr (HV1.out.run hbr) HL.out (msgsE_zero hE3) HN.out rfl)
            have HE3 := Lib.hid hE3
            have hbw : Below w.heap.size w wr := below_run hb0 hbr
            clear hE3 hMr hbr x1 x2 x3 x4 x5 x6
            go_wp2_with fail
            refine CU.out.mono ?_
            rintro e w2 ⟨kd, id, rfl, hh, hb2⟩
            go_wp2
            go_ret3
            exact ⟨_, _, _, rfl, heard_good (by rw [HE.out]; exact HE3.out) hh.out, below_run hbw hb2⟩
      · have hl1 : (64 : Int) < (l.length : Int) := by omega
        have HE : Hid (heardE ⟨dst, src, seq, 1, par, dat⟩ l = 5) := by
          show heardE _ _ = _
          rw [heardE, if_neg (not_not_intro HN.out), if_neg (by simp), if_pos (by omega)]
        have C := Lib.hid (fun W => chk_is 0 dst src seq 1 par dat W HN)
        clear hl
        go_enter Tryz.func16, Tryz.ntmps16
        go_wp2_with fail
        refine (C.out _).mono ?_
        rintro e w1 ⟨rfl, hb1⟩
        have hM : RowAt w1 w.heap.size 43 #[.int .u64 dst, .int .u64 src, .int .i64 seq, .int .i64 1, .int .i64 par, .string dat] := (RowAt.new _ _ _).run hb1
        obtain ⟨x1, x2, x3, x4, x5, x6⟩ := row_facts hM
        go_wp2
        go_ret3
        exact heard_end HE.out (by decide) (by (repeat' (first | (with_reducible exact Below.refl _ _) | (with_reducible assumption) | (with_reducible refine below_run ?_ (by assumption)) | (with_reducible refine below_of_upd ?_ (by assumption) ?_) | (with_reducible refine below_drewN ?_ _) | (with_reducible refine Below.drew ?_) | (with_reducible refine below_seven ?_ ?_) | (with_reducible refine below_six ?_ ?_) | (with_reducible refine below_one ?_ ?_) | (with_reducible refine Below.alloc ?_ ?_ _) | (with_reducible refine below_after ?_ ?_ (by assumption)) | (show _ ≤ _; first | omega | (simp; done) | (simp; omega)))))
    · have hk1 : (kind != 1) = true := by simpa using hk
      have HE : Hid (heardE ⟨dst, src, seq, kind, par, dat⟩ l = 1) := by
        show heardE _ _ = _
        rw [heardE, if_neg (not_not_intro HN.out), if_pos hk]
      have C := Lib.hid (fun W => chk_is 0 dst src seq kind par dat W HN)
      clear hk
      go_enter Tryz.func16, Tryz.ntmps16
      go_wp2_with fail
      refine (C.out _).mono ?_
      rintro e w1 ⟨rfl, hb1⟩
      have hM : RowAt w1 w.heap.size 43 #[.int .u64 dst, .int .u64 src, .int .i64 seq, .int .i64 kind, .int .i64 par, .string dat] := (RowAt.new _ _ _).run hb1
      obtain ⟨x1, x2, x3, x4, x5, x6⟩ := row_facts hM
      go_wp2
      go_ret3
      exact heard_end HE.out (by decide) (by (repeat' (first | (with_reducible exact Below.refl _ _) | (with_reducible assumption) | (with_reducible refine below_run ?_ (by assumption)) | (with_reducible refine below_of_upd ?_ (by assumption) ?_) | (with_reducible refine below_drewN ?_ _) | (with_reducible refine Below.drew ?_) | (with_reducible refine below_seven ?_ ?_) | (with_reducible refine below_six ?_ ?_) | (with_reducible refine below_one ?_ ?_) | (with_reducible refine Below.alloc ?_ ?_ _) | (with_reducible refine below_after ?_ ?_ (by assumption)) | (show _ ≤ _; first | omega | (simp; done) | (simp; omega)))))
  · have e9 : (n != 0) = true := by simpa using z
    have HE : Hid (heardE ⟨dst, src, seq, kind, par, dat⟩ l = n) := by
      show heardE _ _ = _
      rw [heardE, if_pos (by rw [HN.out]; exact z), HN.out]
    have C := Lib.hid (fun W => chk_is n dst src seq kind par dat W HN)
    have HZ := Lib.hid z
    clear z
    go_enter Tryz.func16, Tryz.ntmps16
    go_wp2_with fail
    refine (C.out _).mono ?_
    rintro e w1 ⟨rfl, hb1⟩
    go_wp2
    go_ret3
    exact heard_end HE.out HZ.out (by (repeat' (first | (with_reducible exact Below.refl _ _) | (with_reducible assumption) | (with_reducible refine below_run ?_ (by assumption)) | (with_reducible refine below_of_upd ?_ (by assumption) ?_) | (with_reducible refine below_drewN ?_ _) | (with_reducible refine Below.drew ?_) | (with_reducible refine below_seven ?_ ?_) | (with_reducible refine below_six ?_ ?_) | (with_reducible refine below_one ?_ ?_) | (with_reducible refine Below.alloc ?_ ?_ _) | (with_reducible refine below_after ?_ ?_ (by assumption)) | (show _ ≤ _; first | omega | (simp; done) | (simp; omega)))))
end Go.Proofs.YtiemdccjphdbmaaGreat

namespace Go.Proofs.YtiemdccjphdbmaaGreat
open Go.RowKit

set_option maxHeartbeats 4000000 in
set_option maxRecDepth 100000 in
theorem rheard_any (v : Value) (l : List Msg) (dst src seq kind par : Int) (dat : ByteArray) (w : World) (hv : MsgsAt w v l) :
    Calls Tryz.prog 17 #[.agg #[.int .u64 dst, .int .u64 src, .int .i64 seq, .int .i64 kind, .int .i64 par, .string dat], v] w (HeardPost ⟨dst, src, seq, kind, par, dat⟩ l w) := by
  have HV := Lib.hid hv
  have hsl : ∃ a k c, v = .slice a k c := slice_of hv
  have hln : ∀ a k c, v = .slice a k c → (k : Int) = (l.length : Int) := by
    rintro a k c rfl
    rcases hv with ⟨h0, _, _, e⟩ | ⟨_, _, _, _, _, e, _⟩ <;> cases e <;> omega
  obtain ⟨sa, sk, sc, rfl⟩ := hsl
  obtain rfl : sk = l.length := by have := hln _ _ _ rfl; omega
  clear hv hln
  obtain ⟨n, hn⟩ : ∃ n, chk ⟨dst, src, seq, kind, par, dat⟩ = n := ⟨_, rfl⟩
  have HN := Lib.hid hn
  clear hn
  by_cases z : n = 0
  · subst z
    by_cases hk : kind = 1
    · subst hk
      by_cases hl : l.length ≤ 64
      · have hl1 : (l.length : Int) ≤ 64 := by omega
        have HE : Hid (heardE ⟨dst, src, seq, 1, par, dat⟩ l = msgsE l) := by
          show heardE _ _ = _
          rw [heardE, if_neg (not_not_intro HN.out), if_neg (by simp), if_neg (by omega)]
        have C := Lib.hid (fun W => refchk_is 0 dst src seq 1 par dat W HN)
        have HL := Lib.hid hl
        go_enter Tryz.func17, Tryz.ntmps17
        go_wp2_with fail
        refine (C.out _).mono ?_
        rintro e w1 ⟨rfl, hb1⟩
        have hb0 : Below w.heap.size w w1 := below_run ((Below.refl _ _).alloc (Nat.le_refl _) _) hb1
        have hM : RowAt w1 w.heap.size 43 #[.int .u64 dst, .int .u64 src, .int .i64 seq, .int .i64 1, .int .i64 par, .string dat] := (RowAt.new _ _ _).run hb1
        obtain ⟨x1, x2, x3, x4, x5, x6⟩ := row_facts hM
        have hle := hb0.size
        have hV1 := HV.out.run hb0
        have HV1 := Lib.hid hV1
        have HM1 := Lib.hid hM
        clear hb1 hM C hV1 HV
        go_wp2
        go_loopw [8, 9] (fun i _ wr => ∃ k : Nat, k ≤ l.length ∧ i = .int .i64 k ∧ Hid (msgsE l = msgsE (l.drop k)) ∧ Below w1.heap.size w1 wr) (fun i _ _ => l.length - (intOf i).toNat)
        case atStart => exact ⟨0, Nat.zero_le _, rfl, rfl, Below.refl _ _⟩
        case round =>
          obtain ⟨k, hk, rfl, hE2, hbr⟩ := hrel
          by_cases hlt2 : k < l.length
          · have hlt3 : (k : Int) < (l.length : Int) := by omega
            have hVr := HV1.out.run hbr
            rcases hVr with ⟨h0, _⟩ | ⟨h0, h1, b, off, cap, hv, hlt, hcel⟩
            · omega
            · cases hv
              obtain ⟨a, ha, e0, e1, e2, e3, e4, e5⟩ := msg_cells hcel k hlt2
              obtain ⟨c, hc⟩ : ∃ c, chk ⟨a.dst, a.src, a.seq, a.kind, a.par, a.dat⟩ = c := ⟨_, rfl⟩
              have CA := Lib.hid (fun W => refchk_is c a.dst a.src a.seq a.kind a.par a.dat W hc)
              have HA := Lib.hid ha
              have HCC := Lib.hid hc
              clear ha hc hcel
              go_wp2_with fail
              refine (CA.out _).mono ?_
              rintro e w2 ⟨rfl, hb2⟩
              have hb3 := below_run hbr hb2
              clear e0 e1 e2 e3 e4 e5 hb2 hbr x1 x2 x3 x4 x5 x6 CA
              by_cases z : c = 0
              · subst z
                go_wp2
                go_roundw
                case rel => exact ⟨k + 1, by omega, by go_num, by show msgsE l = _; rw [hE2.out]; exact msgsE_on HA.out HCC.out, hb3⟩
                case measure => simp [intOf]; omega
              · have e9 : (c != 0) = true := by simpa using z
                have HZ := Lib.hid z
                clear z
                go_wp2
                go_ret3
                exact heard_end (by rw [HE.out, hE2.out]; exact msgsE_bad HA.out HCC.out HZ.out) HZ.out (hb0.trans (hb3.mono hle))
          · obtain rfl : k = l.length := by omega
            have hE3 : msgsE l = 0 := by
              rw [hE2.out, List.drop_length]
              rfl
            have hMr := HM1.out.run hbr
            obtain ⟨y1, y2, y3, y4, y5, y6⟩ := row_facts hMr
            have CU := Lib.hid (runderstood_any _ l dst src seq 1 par dat wr (HV1.out.run hbr) HL.out (msgsE_zero hE3) HN.out rfl)
            have HE3 := Lib.hid hE3
            have hbw : Below w.heap.size w wr := below_run hb0 hbr
            clear hE3 hMr hbr x1 x2 x3 x4 x5 x6
            go_wp2_with fail
            refine CU.out.mono ?_
            rintro e w2 ⟨kd, id, rfl, hh, hb2⟩
            go_wp2
            go_ret3
            exact ⟨_, _, _, rfl, heard_good (by rw [HE.out]; exact HE3.out) hh.out, below_run hbw hb2⟩
      · have hl1 : (64 : Int) < (l.length : Int) := by omega
        have HE : Hid (heardE ⟨dst, src, seq, 1, par, dat⟩ l = 5) := by
          show heardE _ _ = _
          rw [heardE, if_neg (not_not_intro HN.out), if_neg (by simp), if_pos (by omega)]
        have C := Lib.hid (fun W => refchk_is 0 dst src seq 1 par dat W HN)
        clear hl
        go_enter Tryz.func17, Tryz.ntmps17
        go_wp2_with fail
        refine (C.out _).mono ?_
        rintro e w1 ⟨rfl, hb1⟩
        have hM : RowAt w1 w.heap.size 43 #[.int .u64 dst, .int .u64 src, .int .i64 seq, .int .i64 1, .int .i64 par, .string dat] := (RowAt.new _ _ _).run hb1
        obtain ⟨x1, x2, x3, x4, x5, x6⟩ := row_facts hM
        go_wp2
        go_ret3
        exact heard_end HE.out (by decide) (by (repeat' (first | (with_reducible exact Below.refl _ _) | (with_reducible assumption) | (with_reducible refine below_run ?_ (by assumption)) | (with_reducible refine below_of_upd ?_ (by assumption) ?_) | (with_reducible refine below_drewN ?_ _) | (with_reducible refine Below.drew ?_) | (with_reducible refine below_seven ?_ ?_) | (with_reducible refine below_six ?_ ?_) | (with_reducible refine below_one ?_ ?_) | (with_reducible refine Below.alloc ?_ ?_ _) | (with_reducible refine below_after ?_ ?_ (by assumption)) | (show _ ≤ _; first | omega | (simp; done) | (simp; omega)))))
    · have hk1 : (kind != 1) = true := by simpa using hk
      have HE : Hid (heardE ⟨dst, src, seq, kind, par, dat⟩ l = 1) := by
        show heardE _ _ = _
        rw [heardE, if_neg (not_not_intro HN.out), if_pos hk]
      have C := Lib.hid (fun W => refchk_is 0 dst src seq kind par dat W HN)
      clear hk
      go_enter Tryz.func17, Tryz.ntmps17
      go_wp2_with fail
      refine (C.out _).mono ?_
      rintro e w1 ⟨rfl, hb1⟩
      have hM : RowAt w1 w.heap.size 43 #[.int .u64 dst, .int .u64 src, .int .i64 seq, .int .i64 kind, .int .i64 par, .string dat] := (RowAt.new _ _ _).run hb1
      obtain ⟨x1, x2, x3, x4, x5, x6⟩ := row_facts hM
      go_wp2
      go_ret3
      exact heard_end HE.out (by decide) (by (repeat' (first | (with_reducible exact Below.refl _ _) | (with_reducible assumption) | (with_reducible refine below_run ?_ (by assumption)) | (with_reducible refine below_of_upd ?_ (by assumption) ?_) | (with_reducible refine below_drewN ?_ _) | (with_reducible refine Below.drew ?_) | (with_reducible refine below_seven ?_ ?_) | (with_reducible refine below_six ?_ ?_) | (with_reducible refine below_one ?_ ?_) | (with_reducible refine Below.alloc ?_ ?_ _) | (with_reducible refine below_after ?_ ?_ (by assumption)) | (show _ ≤ _; first | omega | (simp; done) | (simp; omega)))))
  · have e9 : (n != 0) = true := by simpa using z
    have HE : Hid (heardE ⟨dst, src, seq, kind, par, dat⟩ l = n) := by
      show heardE _ _ = _
      rw [heardE, if_pos (by rw [HN.out]; exact z), HN.out]
    have C := Lib.hid (fun W => refchk_is n dst src seq kind par dat W HN)
    have HZ := Lib.hid z
    clear z
    go_enter Tryz.func17, Tryz.ntmps17
    go_wp2_with fail
    refine (C.out _).mono ?_
    rintro e w1 ⟨rfl, hb1⟩
    go_wp2
    go_ret3
    exact heard_end HE.out HZ.out (by (repeat' (first | (with_reducible exact Below.refl _ _) | (with_reducible assumption) | (with_reducible refine below_run ?_ (by assumption)) | (with_reducible refine below_of_upd ?_ (by assumption) ?_) | (with_reducible refine below_drewN ?_ _) | (with_reducible refine Below.drew ?_) | (with_reducible refine below_seven ?_ ?_) | (with_reducible refine below_six ?_ ?_) | (with_reducible refine below_one ?_ ?_) | (with_reducible refine Below.alloc ?_ ?_ _) | (with_reducible refine below_after ?_ ?_ (by assumption)) | (show _ ≤ _; first | omega | (simp; done) | (simp; omega)))))
end Go.Proofs.YtiemdccjphdbmaaGreat

namespace Go.Proofs.YtiemdccjphdbmaaGreat
open Go.RowKit

def probeE (l : List Dev) (m : Msg) : Int := if busE l m ≠ 0 then busE l m else if m.kind ≠ 1 then 1 else 0
def probeR (l : List Dev) (m : Msg) : List Dev × Int × Int × Int := if probeE l m ≠ 0 then ([], 0, 0, probeE l m) else (sentD l m, (hearM m (sentA l m)).1, (hearM m (sentA l m)).2, 0)

/-- The answers to a right message that seeks are right. -/
theorem sent_chk {l : List Dev} {m : Msg} (hm : chk m = 0) (hk : m.kind = 1) (hd : ∀ d ∈ l, chkD d = 0) : ∀ a ∈ sentA l m, chk a = 0 := by
  intro a ha
  unfold sentA at ha
  rw [List.mem_filterMap] at ha
  obtain ⟨d, hdl, hq⟩ := ha
  have hr := hd d hdl
  unfold recvD at hq
  rw [if_pos hk] at hq
  by_cases h1 : deafD d m = true
  · rw [if_pos h1] at hq
    cases hq
  · rw [if_neg h1] at hq
    by_cases h2 : hushD d m = true
    · rw [if_pos h2] at hq
      cases hq
    · rw [if_neg h2] at hq
      simp only [if_true, Option.some.injEq] at hq
      subst hq
      exact chk_replied _ _ _ hm (isId_of_chk d hr) (by rw [bytesB_size]; decide)

theorem busE_zero {l : List Dev} {m : Msg} (h : busE l m = 0) : devsE l = 0 ∧ chk m = 0 := by
  unfold busE at h
  by_cases h1 : devsE l = 0
  · rw [if_neg (not_not_intro h1)] at h
    exact ⟨h1, h⟩
  · rw [if_pos h1] at h
    exact absurd h h1
theorem probe_bad {l : List Dev} {m : Msg} {n : Int} (h : probeE l m = n) (hn : n ≠ 0) : probeR l m = ([], 0, 0, n) := by
  rw [probeR, if_pos (by rw [h]; exact hn), h]
theorem probe_good {l : List Dev} {m : Msg} {k i : Int} (h : probeE l m = 0) (hh : hearM m (sentA l m) = (k, i)) : probeR l m = (sentD l m, k, i, 0) := by
  rw [probeR, if_neg (not_not_intro h), hh]

/-- What Probe returns. -/
def ProbePost (l : List Dev) (m : Msg) (w : World) (e : Ending) (w' : World) : Prop := ∃ v ld k id n, e = .returned (.tuple #[v, .int .i64 k, .int .u64 id, .int .i64 n]) ∧ Hid (probeR l m = (ld, k, id, n)) ∧ ld.length ≤ l.length ∧ DevsAt w' v ld ∧ Below w.heap.size w w'
theorem probe_end {l : List Dev} {m : Msg} {n : Int} {w w' : World} (h : probeE l m = n) (hn : n ≠ 0) (hb : Below w.heap.size w w') : ProbePost l m w (.returned (.tuple #[.slice none 0 0, .int .i64 0, .int .u64 0, .int .i64 n])) w' :=
  ⟨_, _, 0, 0, n, rfl, probe_bad h hn, Nat.zero_le _, .inl ⟨rfl, _, _, rfl⟩, hb⟩

set_option maxHeartbeats 4000000 in
set_option maxRecDepth 100000 in
theorem probe_any (v : Value) (l : List Dev) (dst src seq kind par : Int) (dat : ByteArray) (w : World) (hv : DevsAt w v l) :
    Calls Tryz.prog 18 #[v, .agg #[.int .u64 dst, .int .u64 src, .int .i64 seq, .int .i64 kind, .int .i64 par, .string dat]] w (ProbePost l ⟨dst, src, seq, kind, par, dat⟩ w) := by
  have hv' := hv.alloc (.cells #[.int .u64 dst, .int .u64 src, .int .i64 seq, .int .i64 kind, .int .i64 par, .string dat] 43)
  have C := Lib.hid (bus_any v l dst src seq kind par dat _ hv')
  have hr0 : RowAt (w.alloc (.cells #[.int .u64 dst, .int .u64 src, .int .i64 seq, .int .i64 kind, .int .i64 par, .string dat] 43)) w.heap.size 43 #[.int .u64 dst, .int .u64 src, .int .i64 seq, .int .i64 kind, .int .i64 par, .string dat] := RowAt.new _ _ _
  have hb0 : Below w.heap.size w (w.alloc (.cells #[.int .u64 dst, .int .u64 src, .int .i64 seq, .int .i64 kind, .int .i64 par, .string dat] 43)) := (Below.refl _ _).alloc (Nat.le_refl _) _
  obtain ⟨n, hn⟩ : ∃ n, busE l ⟨dst, src, seq, kind, par, dat⟩ = n := ⟨_, rfl⟩
  obtain ⟨ld, hld⟩ : ∃ x, busD l ⟨dst, src, seq, kind, par, dat⟩ = x := ⟨_, rfl⟩
  obtain ⟨la, hla⟩ : ∃ x, busA l ⟨dst, src, seq, kind, par, dat⟩ = x := ⟨_, rfl⟩
  rw [hn, hld, hla] at C
  have HN := Lib.hid hn
  have HLD := Lib.hid hld
  have HLA := Lib.hid hla
  have R0 := Lib.hid hr0
  have B0 := Lib.hid hb0
  clear hv hv' hn hld hla hr0 hb0
  go_enter Tryz.func18, Tryz.ntmps18
  go_wp2_with fail
  refine C.out.mono ?_
  rintro e w1 ⟨v1, v2, rfl, hd1, ha1, hb1⟩
  have hM := R0.out.run hb1
  obtain ⟨x1, x2, x3, x4, x5, x6⟩ := row_facts hM
  have HB1 := Lib.hid (below_run B0.out hb1)
  have HD1 := Lib.hid hd1
  have HA1 := Lib.hid ha1
  clear hb1 hd1 ha1 C hM R0 B0
  by_cases z : n = 0
  · subst z
    obtain rfl : la = sentA l ⟨dst, src, seq, kind, par, dat⟩ := by rw [← HLA.out, busA, if_pos HN.out]
    obtain rfl : ld = sentD l ⟨dst, src, seq, kind, par, dat⟩ := by rw [← HLD.out, busD, if_pos HN.out]
    by_cases hk : kind = 1
    · subst hk
      obtain ⟨hde, hme⟩ := busE_zero HN.out
      have hdl := devs_few hde
      have CU := Lib.hid (understood_any v2 _ dst src seq 1 par dat w1 HA1.out (Nat.le_trans (sentA_length _ _) hdl) (sent_chk hme rfl (devs_chk hde)) hme rfl)
      have HE : Hid (probeE l ⟨dst, src, seq, 1, par, dat⟩ = 0) := by
        show probeE _ _ = _
        rw [probeE, if_neg (not_not_intro HN.out), if_neg (by simp)]
      obtain ⟨la, hla⟩ : ∃ x, sentA l ⟨dst, src, seq, 1, par, dat⟩ = x := ⟨_, rfl⟩
      rw [hla] at CU HA1
      have HLL := Lib.hid hla
      clear hde hme hdl hla HLA
      go_wp2_with fail
      refine CU.out.mono ?_
      rintro e w2 ⟨kd, id, rfl, hh, hb2⟩
      go_wp2
      refine bodyPost_ret (v := .tuple #[v1, .int .i64 kd, .int .u64 id, .int .i64 0]) ?_ rfl ⟨_, _, _, _, _, rfl, probe_good HE.out (by rw [HLL.out]; exact hh.out), by rw [sentD_length]; exact Nat.le_refl _, HD1.out.run hb2, below_run HB1.out hb2⟩
      simp [results, Tryz.results18, go_sem]
    · have hk1 : (kind != 1) = true := by simpa using hk
      have HE : Hid (probeE l ⟨dst, src, seq, kind, par, dat⟩ = 1) := by
        show probeE _ _ = _
        rw [probeE, if_neg (not_not_intro HN.out), if_pos hk]
      clear hk
      go_wp2
      refine bodyPost_ret (v := .tuple #[.slice none 0 0, .int .i64 0, .int .u64 0, .int .i64 1]) ?_ rfl (probe_end HE.out (by decide) HB1.out)
      simp [results, Tryz.results18, go_sem]
  · have e9 : (n != 0) = true := by simpa using z
    have HE : Hid (probeE l ⟨dst, src, seq, kind, par, dat⟩ = n) := by
      show probeE _ _ = _
      rw [probeE, if_pos (by rw [HN.out]; exact z), HN.out]
    have HZ := Lib.hid z
    clear z
    go_wp2
    refine bodyPost_ret (v := .tuple #[.slice none 0 0, .int .i64 0, .int .u64 0, .int .i64 n]) ?_ rfl (probe_end HE.out HZ.out HB1.out)
    simp [results, Tryz.results18, go_sem]

set_option maxHeartbeats 4000000 in
set_option maxRecDepth 100000 in
theorem rprobe_any (v : Value) (l : List Dev) (dst src seq kind par : Int) (dat : ByteArray) (w : World) (hv : DevsAt w v l) (hlb : ∀ d ∈ l, d.lb.size ≤ 9223372036854775807) (hds : dat.size ≤ 9223372036854775807) :
    Calls Tryz.prog 19 #[v, .agg #[.int .u64 dst, .int .u64 src, .int .i64 seq, .int .i64 kind, .int .i64 par, .string dat]] w (ProbePost l ⟨dst, src, seq, kind, par, dat⟩ w) := by
  have hv' := hv.alloc (.cells #[.int .u64 dst, .int .u64 src, .int .i64 seq, .int .i64 kind, .int .i64 par, .string dat] 43)
  have C := Lib.hid (refbus_any v l dst src seq kind par dat _ hv' hlb hds)
  have hr0 : RowAt (w.alloc (.cells #[.int .u64 dst, .int .u64 src, .int .i64 seq, .int .i64 kind, .int .i64 par, .string dat] 43)) w.heap.size 43 #[.int .u64 dst, .int .u64 src, .int .i64 seq, .int .i64 kind, .int .i64 par, .string dat] := RowAt.new _ _ _
  have hb0 : Below w.heap.size w (w.alloc (.cells #[.int .u64 dst, .int .u64 src, .int .i64 seq, .int .i64 kind, .int .i64 par, .string dat] 43)) := (Below.refl _ _).alloc (Nat.le_refl _) _
  obtain ⟨n, hn⟩ : ∃ n, busE l ⟨dst, src, seq, kind, par, dat⟩ = n := ⟨_, rfl⟩
  obtain ⟨ld, hld⟩ : ∃ x, busD l ⟨dst, src, seq, kind, par, dat⟩ = x := ⟨_, rfl⟩
  obtain ⟨la, hla⟩ : ∃ x, busA l ⟨dst, src, seq, kind, par, dat⟩ = x := ⟨_, rfl⟩
  rw [hn, hld, hla] at C
  have HN := Lib.hid hn
  have HLD := Lib.hid hld
  have HLA := Lib.hid hla
  have R0 := Lib.hid hr0
  have B0 := Lib.hid hb0
  clear hv hv' hn hld hla hr0 hb0 hlb
  go_enter Tryz.func19, Tryz.ntmps19
  go_wp2_with fail
  refine C.out.mono ?_
  rintro e w1 ⟨v1, v2, rfl, hd1, ha1, hb1⟩
  have hM := R0.out.run hb1
  obtain ⟨x1, x2, x3, x4, x5, x6⟩ := row_facts hM
  have HB1 := Lib.hid (below_run B0.out hb1)
  have HD1 := Lib.hid hd1
  have HA1 := Lib.hid ha1
  clear hb1 hd1 ha1 C hM R0 B0
  by_cases z : n = 0
  · subst z
    obtain rfl : la = sentA l ⟨dst, src, seq, kind, par, dat⟩ := by rw [← HLA.out, busA, if_pos HN.out]
    obtain rfl : ld = sentD l ⟨dst, src, seq, kind, par, dat⟩ := by rw [← HLD.out, busD, if_pos HN.out]
    by_cases hk : kind = 1
    · subst hk
      obtain ⟨hde, hme⟩ := busE_zero HN.out
      have hdl := devs_few hde
      have CU := Lib.hid (runderstood_any v2 _ dst src seq 1 par dat w1 HA1.out (Nat.le_trans (sentA_length _ _) hdl) (sent_chk hme rfl (devs_chk hde)) hme rfl)
      have HE : Hid (probeE l ⟨dst, src, seq, 1, par, dat⟩ = 0) := by
        show probeE _ _ = _
        rw [probeE, if_neg (not_not_intro HN.out), if_neg (by simp)]
      obtain ⟨la, hla⟩ : ∃ x, sentA l ⟨dst, src, seq, 1, par, dat⟩ = x := ⟨_, rfl⟩
      rw [hla] at CU HA1
      have HLL := Lib.hid hla
      clear hde hme hdl hla HLA
      go_wp2_with fail
      refine CU.out.mono ?_
      rintro e w2 ⟨kd, id, rfl, hh, hb2⟩
      go_wp2
      refine bodyPost_ret (v := .tuple #[v1, .int .i64 kd, .int .u64 id, .int .i64 0]) ?_ rfl ⟨_, _, _, _, _, rfl, probe_good HE.out (by rw [HLL.out]; exact hh.out), by rw [sentD_length]; exact Nat.le_refl _, HD1.out.run hb2, below_run HB1.out hb2⟩
      simp [results, Tryz.results19, go_sem]
    · have hk1 : (kind != 1) = true := by simpa using hk
      have HE : Hid (probeE l ⟨dst, src, seq, kind, par, dat⟩ = 1) := by
        show probeE _ _ = _
        rw [probeE, if_neg (not_not_intro HN.out), if_pos hk]
      clear hk
      go_wp2
      refine bodyPost_ret (v := .tuple #[.slice none 0 0, .int .i64 0, .int .u64 0, .int .i64 1]) ?_ rfl (probe_end HE.out (by decide) HB1.out)
      simp [results, Tryz.results19, go_sem]
  · have e9 : (n != 0) = true := by simpa using z
    have HE : Hid (probeE l ⟨dst, src, seq, kind, par, dat⟩ = n) := by
      show probeE _ _ = _
      rw [probeE, if_pos (by rw [HN.out]; exact z), HN.out]
    have HZ := Lib.hid z
    clear z
    go_wp2
    refine bodyPost_ret (v := .tuple #[.slice none 0 0, .int .i64 0, .int .u64 0, .int .i64 n]) ?_ rfl (probe_end HE.out HZ.out HB1.out)
    simp [results, Tryz.results19, go_sem]
end Go.Proofs.YtiemdccjphdbmaaGreat
