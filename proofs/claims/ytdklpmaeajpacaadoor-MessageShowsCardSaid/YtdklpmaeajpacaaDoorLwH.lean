/-
  The walk of the law on what is shown.
-/
import Derived.Test.YtdklpmaeajpacaaDoorAwm
import Derived.Test.YtdklpmaeajpacaaDoorPlS
import Derived.Test.YtdklpmaeajpacaaDoorClo
import Derived.Test.YtdklpmaeajpacaaDoorLwS
import Derived.Test.YtdklpmaeajpacaaDoorShc
import Derived.Test.YtdklpmaeajpacaaDoorApp
import Derived.Deep.AppendLies
namespace Go.Proofs.YtdklpmaeajpacaaDoor
open Go.RowKit

theorem OwnS.strs {w : World} {B : Nat} {v : Value} {l : List ByteArray} (h : OwnS w B v l) (hl : l.length ≤ 100) : StrsAt w v l :=
  own_seq h (by omega) fun j => by simp [strsC]

theorem OwnS.shape {w : World} {B : Nat} {v : Value} {l : List ByteArray} (h : OwnS w B v l) : ∃ a cap, v = .slice a l.length cap := by
  rcases h.2 with ⟨rfl, hn⟩ | ⟨g, cap, cur, rfl, _⟩
  · exact ⟨none, 0, by rw [hn]⟩
  · exact ⟨_, _, rfl⟩

theorem short_of {l : List ByteArray} {s : ByteArray} (hs : s ∈ l) (h1 : l.any longS = false) : s.size ≤ 400 := by
  rw [List.any_eq_false] at h1
  have := h1 s hs
  simpa [longS] using this

theorem and_bytes (a b : UInt8) : bits BinOp.and .u8 (a.toNat : Int) (b.toNat : Int) = ((a &&& b).toNat : Int) := by
  rw [u8_and_nat _ _ a.toNat_lt b.toNat_lt]
  simp

theorem Tryd.info_str : (Tryd.prog.info? 9).map (fun i => (i.zero, i.size, i.bytes)) = some (some (.string ⟨#[]⟩), 1, 16) := by kernel_rfl

theorem sclone_any (s : ByteArray) (w : World) (hs : s.size ≤ 400) : Calls Tryd.prog 36 #[.string s] w fun e w' => e = .returned (.string s) ∧ Below w.heap.size w w' := by
  have C := Lib.hid (fun W => Tryd.stringslite_Clone s W (by omega))
  clear hs
  go_enter Tryd.func36, Tryd.ntmps36
  go_wp2_with fail
  refine (C.out _).mono ?_
  rintro e w1 ⟨rfl, hb⟩
  go_wp2
  go_ret
  exact ⟨rfl, by (repeat' (first | (with_reducible exact Below.refl _ _) | (with_reducible assumption) | (with_reducible refine below_drewN ?_ _) | (with_reducible refine Below.drew ?_) | (with_reducible refine Below.setCell ?_ ?_ _) | (with_reducible refine Below.alloc ?_ ?_ _) | (with_reducible refine below_after ?_ ?_ (by assumption)) | (show _ ≤ _; first | omega | (simp; done) | (simp; omega))))⟩

set_option maxHeartbeats 8000000 in
set_option maxRecDepth 100000 in
theorem law_shows (v : Value) (l : List ByteArray) (w : World) (h : Tab w) (hv : StrsAt w v l) :
    Calls Tryd.prog 10 #[v] w fun e w' => e = .returned (.bool true) ∧ Below w.heap.size w w' := by
  obtain ⟨va, vc, rfl⟩ := hv.shape
  obtain ⟨i0, hi, hz0, hz1, hz2⟩ := info_parts Tryd.info_str
  have hT := h
  have HV := Lib.hid hv
  have C0 : Hid (∀ W, Below w.heap.size w W → Calls Tryd.prog 28 #[.slice va l.length vc, .func (.func 33) #[] #[]] W fun e w' => e = .returned (.bool (l.any longS)) ∧ Below W.heap.size W w') := Lib.hid fun W hb => hasLong_any _ l W (SeqAt.below hv hb)
  clear hv
  by_cases hl : l.length ≤ 64
  · have s1 : ¬ (64 : Int) < (l.length : Int) := by omega
    cases ho : l.any longS with
    | true =>
      rw [ho] at C0
      clear ho hl
      go_enter Tryd.func10, Tryd.ntmps10
      go_wp2_with fail
      refine (C0.out _ (by (repeat' (first | (with_reducible exact Below.refl _ _) | (with_reducible assumption) | (with_reducible refine below_run ?_ (by assumption)) | (with_reducible refine below_of_upd ?_ (by assumption) ?_) | (with_reducible refine below_drewN ?_ _) | (with_reducible refine Below.drew ?_) | (with_reducible refine below_seven ?_ ?_) | (with_reducible refine below_six ?_ ?_) | (with_reducible refine below_one ?_ ?_) | (with_reducible refine Below.alloc ?_ ?_ _) | (with_reducible refine below_after ?_ ?_ (by assumption)) | (show _ ≤ _; first | omega | (simp; done) | (simp; omega)))))).mono ?_
      rintro e w1 ⟨rfl, hb1⟩
      go_wp2_with fail
      refine (awake46_any _ (by repeat' (first | (with_reducible assumption) | (with_reducible refine Tab.drewN ?_ _) | (with_reducible refine Tab.drew ?_) | (with_reducible refine Tab.alloc ?_ _) | (with_reducible refine Tab.run ?_ (by assumption))))).mono ?_
      rintro e w2 ⟨rfl, hb2⟩
      go_wp2
      go_ret
      exact ⟨rfl, by (repeat' (first | (with_reducible exact Below.refl _ _) | (with_reducible assumption) | (with_reducible refine below_run ?_ (by assumption)) | (with_reducible refine below_of_upd ?_ (by assumption) ?_) | (with_reducible refine below_drewN ?_ _) | (with_reducible refine Below.drew ?_) | (with_reducible refine below_seven ?_ ?_) | (with_reducible refine below_six ?_ ?_) | (with_reducible refine below_one ?_ ?_) | (with_reducible refine Below.alloc ?_ ?_ _) | (with_reducible refine below_after ?_ ?_ (by assumption)) | (show _ ≤ _; first | omega | (simp; done) | (simp; omega))))⟩
    | false =>
      rw [ho] at C0
      have HL := Lib.hid hl
      have HO := Lib.hid ho
      obtain ⟨L, hL⟩ : ∃ L, overL (lists l) = L := ⟨_, rfl⟩
      have hov := over_few hl ho
      rw [hL] at hov
      have C1 : Hid (∀ W, Below w.heap.size w W → Calls Tryd.prog 31 #[.slice va l.length vc] W fun e w' => e = .returned (.tuple #[.string (str L), .int .i64 0]) ∧ Below W.heap.size W w') := Lib.hid fun W hb => (overlay_any _ l W (SeqAt.below HV.out hb)).mono fun e w' ⟨a, b, he, hh, hb⟩ => by
        have := hh.out; rw [hov] at this; cases this; exact ⟨he, hb⟩
      have C2 : Hid (∀ W, Below w.heap.size w W → Calls Tryd.prog 34 #[.slice va l.length vc] W fun e w' => ∃ v', e = .returned v' ∧ OwnS w' W.heap.size v' l ∧ Below W.heap.size W w') := Lib.hid fun W hb => clone_any _ l W (SeqAt.below HV.out hb) hl
      have HLL := Lib.hid hL
      clear ho hov hL
      by_cases hq : l.length = 64
      · have hq1 : ((l.length : Int) == 64) = true := by rw [hq]; rfl
        have HQ : Hid (l.length = 64) := Lib.hid hq
        clear hq hl
        go_enter Tryd.func10, Tryd.ntmps10
        go_wp2_with fail
        refine (C0.out _ (by (repeat' (first | (with_reducible exact Below.refl _ _) | (with_reducible assumption) | (with_reducible refine below_run ?_ (by assumption)) | (with_reducible refine below_of_upd ?_ (by assumption) ?_) | (with_reducible refine below_drewN ?_ _) | (with_reducible refine Below.drew ?_) | (with_reducible refine below_seven ?_ ?_) | (with_reducible refine below_six ?_ ?_) | (with_reducible refine below_one ?_ ?_) | (with_reducible refine Below.alloc ?_ ?_ _) | (with_reducible refine below_after ?_ ?_ (by assumption)) | (show _ ≤ _; first | omega | (simp; done) | (simp; omega)))))).mono ?_
        rintro e w1 ⟨rfl, hb1⟩
        have hz1' := hb1.size
        go_wp2_with fail
        refine (C1.out _ (by (repeat' (first | (with_reducible exact Below.refl _ _) | (with_reducible assumption) | (with_reducible refine below_run ?_ (by assumption)) | (with_reducible refine below_of_upd ?_ (by assumption) ?_) | (with_reducible refine below_drewN ?_ _) | (with_reducible refine Below.drew ?_) | (with_reducible refine below_seven ?_ ?_) | (with_reducible refine below_six ?_ ?_) | (with_reducible refine below_one ?_ ?_) | (with_reducible refine Below.alloc ?_ ?_ _) | (with_reducible refine below_after ?_ ?_ (by assumption)) | (show _ ≤ _; first | omega | (simp; done) | (simp; omega)))))).mono ?_
        rintro e w2 ⟨rfl, hb2⟩
        have hz2' := hb2.size
        go_wp2_with fail
        refine (C2.out _ (by (repeat' (first | (with_reducible exact Below.refl _ _) | (with_reducible assumption) | (with_reducible refine below_run ?_ (by assumption)) | (with_reducible refine below_of_upd ?_ (by assumption) ?_) | (with_reducible refine below_drewN ?_ _) | (with_reducible refine Below.drew ?_) | (with_reducible refine below_seven ?_ ?_) | (with_reducible refine below_six ?_ ?_) | (with_reducible refine below_one ?_ ?_) | (with_reducible refine Below.alloc ?_ ?_ _) | (with_reducible refine below_after ?_ ?_ (by assumption)) | (show _ ≤ _; first | omega | (simp; done) | (simp; omega)))))).mono ?_
        rintro e w3 ⟨v', rfl, ho3, hb3⟩
        have hz3' := hb3.size
        obtain ⟨ca, cc, rfl⟩ := ho3.shape
        go_wp2_with fail
        refine (reverse_any _ l w3 w2.heap.size ho3 HL.out hz3').mono ?_
        rintro e w4 ⟨rfl, ho4, hb4⟩
        have hz4' := hb4.size
        clear ho3
        have hB4 : Below w.heap.size w w4 := by
          have e2 : Below w.heap.size w w2 := by (repeat' (first | (with_reducible exact Below.refl _ _) | (with_reducible assumption) | (with_reducible refine below_run ?_ (by assumption)) | (with_reducible refine below_of_upd ?_ (by assumption) ?_) | (with_reducible refine below_drewN ?_ _) | (with_reducible refine Below.drew ?_) | (with_reducible refine below_seven ?_ ?_) | (with_reducible refine below_six ?_ ?_) | (with_reducible refine below_one ?_ ?_) | (with_reducible refine Below.alloc ?_ ?_ _) | (with_reducible refine below_after ?_ ?_ (by assumption)) | (show _ ≤ _; first | omega | (simp; done) | (simp; omega))))
          exact (e2.trans (hb3.mono (by omega))).trans (hb4.mono (by omega))
        have hr4 : OwnS w4 w2.heap.size (.slice ca l.reverse.length cc) l.reverse := by rw [List.length_reverse]; exact ho4
        obtain ⟨g0, hca, hcc⟩ : ∃ g0, ca = some ⟨g0, 0, none⟩ ∧ l.length ≤ cc := by
          rcases hr4.2 with ⟨_, hn⟩ | ⟨g0, cap0, cur, he, _, _, hnc, _⟩
          · have := HQ.out; rw [List.length_reverse] at hn; omega
          · cases he
            exact ⟨g0, rfl, by simpa using hnc⟩
        subst hca
        have hcc2 : (l.length : Int) ≤ (cc : Int) := by omega
        have hcc3 : (0 : Int) ≤ (l.length : Int) := by omega
        have hown5 : OwnS (w4.alloc (.cells #[.string ⟨#[]⟩] 9)) w2.heap.size (.slice (some ⟨g0, 0, none⟩) l.reverse.length cc) l.reverse := World.ownsRow.alloc hr4 _
        obtain ⟨g, gc, w5, hrun, ho5, hgrow, hs5⟩ := append_kept _ w2.heap.size _ cc l.reverse w4.heap.size hown5 (by have := HQ.out; simp; omega) (by have := HQ.out; simp; omega) (by simp) (by simp; omega)
        rw [List.length_reverse] at hrun hs5
        have hB5 : Below w.heap.size w w5 := below_grown (hB4.alloc (by omega) _) hown5 (by omega) hgrow (by simp; omega)
        have hs6 := ho5.strs (by have := HQ.out; simp; omega)
        rw [List.length_reverse] at hs6
        have C5 := Lib.hid (overlay_any _ _ w5 hs6)
        have HS5 := Lib.hid hs5
        clear hown5 hgrow ho5 hs6 ho4 hr4 hs5 hcc
        go_wp2_with (at_builtin; refine wpList_append_run rfl (.tmp 35) (.tmp 36) 56 rfl _ _ _ _ _ rfl rfl hrun ?_)
        clear hrun
        go_wp2_with fail
        refine C5.out.mono ?_
        rintro e w5b ⟨x5, n5, rfl, _, hb5b⟩
        have hB5b : Below w.heap.size w w5b := by
          have := hB5.size
          exact hB5.trans (hb5b.mono (by omega))
        have hs7 := SeqAt.below HS5.out hb5b
        have C6 : Hid (Calls Tryd.prog 31 #[.slice (some ⟨g0, 0, none⟩) l.length cc] w5b fun e w' => e = .returned (.tuple #[.string (str L), .int .i64 0]) ∧ Below w5b.heap.size w5b w') := Lib.hid ((overlay_any _ l.reverse w5b hs7).mono fun e w' ⟨a, b, he, hh, hb⟩ => by
          have := hh.out; rw [over_back HL.out HO.out, HLL.out] at this; cases this; exact ⟨he, hb⟩)
        clear hs7 C5 hb5b
        go_wp2_with fail
        refine C6.out.mono ?_
        rintro e w6 ⟨rfl, hb6⟩
        have hB6 : Below w.heap.size w w6 := by (repeat' (first | (with_reducible exact Below.refl _ _) | (with_reducible assumption) | (with_reducible refine below_run ?_ (by assumption)) | (with_reducible refine below_of_upd ?_ (by assumption) ?_) | (with_reducible refine below_drewN ?_ _) | (with_reducible refine Below.drew ?_) | (with_reducible refine below_seven ?_ ?_) | (with_reducible refine below_six ?_ ?_) | (with_reducible refine below_one ?_ ?_) | (with_reducible refine Below.alloc ?_ ?_ _) | (with_reducible refine below_after ?_ ?_ (by assumption)) | (show _ ≤ _; first | omega | (simp; done) | (simp; omega))))
        clear C6 C0 C1 C2 hb1 hb2 hb3 hb4 hb6 hB4 hB5 hB5b hz1' hz2' hz3' hz4' hcc2 hcc3
        have hv6 := SeqAt.below HV.out hB6
        rcases HV.out with ⟨h0, _⟩ | ⟨h0, h1, b, off, cap, he, hlt, hc⟩
        · obtain rfl : l = [] := List.eq_nil_of_length_eq_zero h0
          obtain rfl : [] = L := HLL.out
          have hsn : ((str []).size : Int) = 0 := rfl
          clear hv6 HV HQ HL hq1 s1 h0
          go_wp2_with fail
          refine wp_loop_rounds 1 ?_
          rw [rounds_succ]
          go_wp2_with fail
          refine wp_loop_rounds 1 ?_
          rw [rounds_succ]
          go_wp2_with fail
          refine (sclone_any (str []) _ (by decide)).mono ?_
          rintro e w8 ⟨rfl, hb8⟩
          have hT9 : Tab w8 := (Tab.run h hB6).run hb8
          go_wp2_with fail
          refine (awake46_any _ hT9).mono ?_
          rintro e w9 ⟨rfl, hb9'⟩
          go_wp2
          go_ret
          exact ⟨rfl, by (repeat' (first | (with_reducible exact Below.refl _ _) | (with_reducible assumption) | (with_reducible refine below_run ?_ (by assumption)) | (with_reducible refine below_of_upd ?_ (by assumption) ?_) | (with_reducible refine below_drewN ?_ _) | (with_reducible refine Below.drew ?_) | (with_reducible refine below_seven ?_ ?_) | (with_reducible refine below_six ?_ ?_) | (with_reducible refine below_one ?_ ?_) | (with_reducible refine Below.alloc ?_ ?_ _) | (with_reducible refine below_after ?_ ?_ (by assumption)) | (show _ ≤ _; first | omega | (simp; done) | (simp; omega))))⟩
        · cases he
          go_wp2_with fail
          go_loopw [65] (fun i wr => ∃ k : Nat, k ≤ l.length ∧ i = .int .i64 k ∧ Below w.heap.size w wr) (fun i _ => l.length - (intOf i).toNat)
          case atStart => exact ⟨0, Nat.zero_le _, rfl, hB6⟩
          case round =>
            obtain ⟨k, hk, rfl, hb0⟩ := hrel
            by_cases hlt2 : k < l.length
            · have hlt3 : (k : Int) < (l.length : Int) := by omega
              have hc' : ∀ j, j < l.length * 1 → wr.cell? ⟨b, off + j, none⟩ = strsC l j := fun j hj => (hb0.cell (p := ⟨b, off + j, none⟩) hlt).trans (hc j hj)
              obtain ⟨s, hs, e0⟩ := str_cell hc' k hlt2
              have hm : s ∈ l := List.mem_of_getElem? hs
              have hzs := over_size hm
              rw [HLL.out, ← str_size] at hzs
              have n1 : ¬ ((str L).size : Int) < (s.size : Int) := by omega
              have HM := Lib.hid hm
              have hw0 : w.heap.size ≤ wr.heap.size := hb0.size
              have h400 : s.size ≤ 400 := short_of hm HO.out
              have hs1 : StrsAt (wr.alloc (.cells #[.string s] 9)) (.slice (some ⟨wr.heap.size, 0, none⟩) 1 1) [s] := .inr ⟨by show 0 < 1; decide, by show 1 ≤ 140737488351232; decide, wr.heap.size, 0, 1, rfl, by simp, fun j hj => by
                obtain rfl : j = 0 := by simpa using hj
                simp [strsC]⟩
              have C6 : Hid (Calls Tryd.prog 31 #[.slice (some ⟨wr.heap.size, 0, none⟩) 1 1] (wr.alloc (.cells #[.string s] 9)) fun e w' => e = .returned (.tuple #[.string s, .int .i64 0]) ∧ Below (wr.alloc (.cells #[.string s] 9)).heap.size (wr.alloc (.cells #[.string s] 9)) w') := Lib.hid ((overlay_any _ _ _ hs1).mono fun e w' ⟨a, b, he, hh, hb⟩ => by
                have := hh.out; rw [over_one hm HO.out] at this; cases this; exact ⟨he, hb⟩)
              clear hc' hs hm hs1 hzs
              go_wp2_with fail
              refine C6.out.mono ?_
              rintro e w7 ⟨rfl, hb7⟩
              have hz7 := hb7.size
              (try simp at hz7)
              clear C6
              have hB8 : Below w.heap.size w w7 := by
                have e2 : Below w.heap.size w (wr.alloc (.cells #[.string s] 9)) := by (repeat' (first | (with_reducible exact Below.refl _ _) | (with_reducible assumption) | (with_reducible refine below_run ?_ (by assumption)) | (with_reducible refine below_of_upd ?_ (by assumption) ?_) | (with_reducible refine below_drewN ?_ _) | (with_reducible refine Below.drew ?_) | (with_reducible refine below_seven ?_ ?_) | (with_reducible refine below_six ?_ ?_) | (with_reducible refine below_one ?_ ?_) | (with_reducible refine Below.alloc ?_ ?_ _) | (with_reducible refine below_after ?_ ?_ (by assumption)) | (show _ ≤ _; first | omega | (simp; done) | (simp; omega))))
                exact e2.trans (hb7.mono (by have := hb0.size; simp; omega))
              clear hb7
              go_wp2_with fail
              go_loopw [91] (fun i wr2 => ∃ j : Nat, j ≤ s.size ∧ i = .int .i64 j ∧ Below w.heap.size w wr2) (fun i _ => s.size - (intOf i).toNat)
              case atStart => exact ⟨0, Nat.zero_le _, rfl, by (repeat' (first | (with_reducible exact Below.refl _ _) | (with_reducible assumption) | (with_reducible refine below_run ?_ (by assumption)) | (with_reducible refine below_of_upd ?_ (by assumption) ?_) | (with_reducible refine below_drewN ?_ _) | (with_reducible refine Below.drew ?_) | (with_reducible refine below_seven ?_ ?_) | (with_reducible refine below_six ?_ ?_) | (with_reducible refine below_one ?_ ?_) | (with_reducible refine Below.alloc ?_ ?_ _) | (with_reducible refine below_after ?_ ?_ (by assumption)) | (show _ ≤ _; first | omega | (simp; done) | (simp; omega))))⟩
              case round =>
                rename_i wr2 _ _ _
                obtain ⟨j, hj, rfl, hb9⟩ := hrel
                by_cases hlt4 : j < s.size
                · have hlt5 : (j : Int) < (s.size : Int) := by omega
                  have hlt6 : (j : Int) < ((str L).size : Int) := by omega
                  have hj2 : j < (str L).size := by omega
                  have hj3 : j < (overL (lists l)).length := by rw [HLL.out, ← str_size]; exact hj2
                  have hand := over_and HM.out j hlt4 hj3
                  simp only [HLL.out] at hand
                  obtain ⟨c, hcc⟩ : ∃ c, s[j] = c := ⟨_, rfl⟩
                  obtain ⟨d, hdd⟩ : ∃ d, (str L)[j] = d := ⟨_, rfl⟩
                  have hdl : L[j]'(by rw [str_size] at hj2; exact hj2) = d := hdd
                  rw [hcc, hdl] at hand
                  have hbits : bits BinOp.and .u8 (d.toNat : Int) (c.toNat : Int) = (c.toNat : Int) := by rw [and_bytes, hand]
                  clear hand hdl hj3
                  go_wp2
                  go_region
                  go_wp2
                  go_roundw
                  case rel => exact ⟨j + 1, by omega, by go_num, by (repeat' (first | (with_reducible exact Below.refl _ _) | (with_reducible assumption) | (with_reducible refine below_run ?_ (by assumption)) | (with_reducible refine below_of_upd ?_ (by assumption) ?_) | (with_reducible refine below_drewN ?_ _) | (with_reducible refine Below.drew ?_) | (with_reducible refine below_seven ?_ ?_) | (with_reducible refine below_six ?_ ?_) | (with_reducible refine below_one ?_ ?_) | (with_reducible refine Below.alloc ?_ ?_ _) | (with_reducible refine below_after ?_ ?_ (by assumption)) | (show _ ≤ _; first | omega | (simp; done) | (simp; omega))))⟩
                  case measure => simp [intOf]; omega
                · have hlt5 : ¬ (j : Int) < (s.size : Int) := by omega
                  clear hlt4
                  go_wp2
                  go_roundw
                  case rel => exact ⟨k + 1, by omega, by go_num, by (repeat' (first | (with_reducible exact Below.refl _ _) | (with_reducible assumption) | (with_reducible refine below_run ?_ (by assumption)) | (with_reducible refine below_of_upd ?_ (by assumption) ?_) | (with_reducible refine below_drewN ?_ _) | (with_reducible refine Below.drew ?_) | (with_reducible refine below_seven ?_ ?_) | (with_reducible refine below_six ?_ ?_) | (with_reducible refine below_one ?_ ?_) | (with_reducible refine Below.alloc ?_ ?_ _) | (with_reducible refine below_after ?_ ?_ (by assumption)) | (show _ ≤ _; first | omega | (simp; done) | (simp; omega))))⟩
                  case measure => simp [intOf]; omega
            · have hlt3 : ¬ (k : Int) < (l.length : Int) := by omega
              clear hlt2
              have hSL : (str L).size ≤ 400 := by
                have := overL_length_le (lists l) 400 fun t ht => by
                  obtain ⟨u, hu, rfl⟩ := List.mem_map.1 ht
                  simpa using short_of hu HO.out
                rw [HLL.out] at this
                rw [str_size]; exact this
              go_wp2_with fail
              go_loopw [109] (fun i wr3 => ∃ j : Nat, j ≤ (str L).size ∧ i = .int .i64 j ∧ Below w.heap.size w wr3) (fun i _ => (str L).size - (intOf i).toNat)
              case atStart => exact ⟨0, Nat.zero_le _, rfl, by (repeat' (first | (with_reducible exact Below.refl _ _) | (with_reducible assumption) | (with_reducible refine below_run ?_ (by assumption)) | (with_reducible refine below_of_upd ?_ (by assumption) ?_) | (with_reducible refine below_drewN ?_ _) | (with_reducible refine Below.drew ?_) | (with_reducible refine below_seven ?_ ?_) | (with_reducible refine below_six ?_ ?_) | (with_reducible refine below_one ?_ ?_) | (with_reducible refine Below.alloc ?_ ?_ _) | (with_reducible refine below_after ?_ ?_ (by assumption)) | (show _ ≤ _; first | omega | (simp; done) | (simp; omega))))⟩
              case round =>
                rename_i wr3 _ _ _
                obtain ⟨j, hj, rfl, hb9⟩ := hrel
                by_cases hlt4 : j < (str L).size
                · have hlt5 : (j : Int) < ((str L).size : Int) := by omega
                  have HB := Lib.hid (bitsAt_zero l j)
                  go_wp2_with fail
                  go_loopw [14, 114] (fun x i wr4 => ∃ n : Nat, n ≤ l.length ∧ i = .int .i64 n ∧ x = .int .u8 ((bitsAt l n j).toNat : Int) ∧ Below w.heap.size w wr4) (fun _ i _ => l.length - (intOf i).toNat)
                  case atStart => exact ⟨0, Nat.zero_le _, rfl, by rw [HB.out]; rfl, by (repeat' (first | (with_reducible exact Below.refl _ _) | (with_reducible assumption) | (with_reducible refine below_run ?_ (by assumption)) | (with_reducible refine below_of_upd ?_ (by assumption) ?_) | (with_reducible refine below_drewN ?_ _) | (with_reducible refine Below.drew ?_) | (with_reducible refine below_seven ?_ ?_) | (with_reducible refine below_six ?_ ?_) | (with_reducible refine below_one ?_ ?_) | (with_reducible refine Below.alloc ?_ ?_ _) | (with_reducible refine below_after ?_ ?_ (by assumption)) | (show _ ≤ _; first | omega | (simp; done) | (simp; omega))))⟩
                  case round =>
                    obtain ⟨n, hn, rfl, rfl, hb10⟩ := hrel
                    by_cases hlt6 : n < l.length
                    · have hlt7 : (n : Int) < (l.length : Int) := by omega
                      have hc' : ∀ j, j < l.length * 1 → wr.cell? ⟨b, off + j, none⟩ = strsC l j := fun j hj => (hb10.cell (p := ⟨b, off + j, none⟩) hlt).trans (hc j hj)
                      obtain ⟨s, hs, e0⟩ := str_cell hc' n hlt6
                      clear hc'
                      by_cases hjs : j < s.size
                      · have hjs2 : (j : Int) < (s.size : Int) := by omega
                        obtain ⟨c, hcc⟩ : ∃ c, s[j] = c := ⟨_, rfl⟩
                        have hn1 := bitsAt_in hs hjs
                        rw [hcc] at hn1
                        obtain ⟨d, hd⟩ : ∃ d, bitsAt l n j = d := ⟨_, rfl⟩
                        rw [hd] at hn1
                        have hor := or_bytes d c
                        have HN := Lib.hid hn1
                        simp only [hd]
                        clear hs hn1 hd hlt6
                        go_wp2
                        go_roundw
                        case rel => exact ⟨n + 1, by omega, by go_num, by rw [HN.out]; simp, by (repeat' (first | (with_reducible exact Below.refl _ _) | (with_reducible assumption) | (with_reducible refine below_run ?_ (by assumption)) | (with_reducible refine below_of_upd ?_ (by assumption) ?_) | (with_reducible refine below_drewN ?_ _) | (with_reducible refine Below.drew ?_) | (with_reducible refine below_seven ?_ ?_) | (with_reducible refine below_six ?_ ?_) | (with_reducible refine below_one ?_ ?_) | (with_reducible refine Below.alloc ?_ ?_ _) | (with_reducible refine below_after ?_ ?_ (by assumption)) | (show _ ≤ _; first | omega | (simp; done) | (simp; omega))))⟩
                        case measure => simp [intOf]; omega
                      · have hjs2 : ¬ (j : Int) < (s.size : Int) := by omega
                        have HN := Lib.hid (bitsAt_out hs hjs)
                        clear hs hlt6 hjs
                        go_wp2
                        go_roundw
                        case rel => exact ⟨n + 1, by omega, by go_num, by rw [HN.out], by (repeat' (first | (with_reducible exact Below.refl _ _) | (with_reducible assumption) | (with_reducible refine below_run ?_ (by assumption)) | (with_reducible refine below_of_upd ?_ (by assumption) ?_) | (with_reducible refine below_drewN ?_ _) | (with_reducible refine Below.drew ?_) | (with_reducible refine below_seven ?_ ?_) | (with_reducible refine below_six ?_ ?_) | (with_reducible refine below_one ?_ ?_) | (with_reducible refine Below.alloc ?_ ?_ _) | (with_reducible refine below_after ?_ ?_ (by assumption)) | (show _ ≤ _; first | omega | (simp; done) | (simp; omega))))⟩
                        case measure => simp [intOf]; omega
                    · obtain rfl : n = l.length := by omega
                      have hlt7 : ¬ (l.length : Int) < (l.length : Int) := by omega
                      have hj3 : j < (overL (lists l)).length := by rw [HLL.out, ← str_size]; exact hlt4
                      have hall := bitsAt_all l j hj3
                      simp only [HLL.out] at hall
                      obtain ⟨d, hdd⟩ : ∃ d, (str L)[j] = d := ⟨_, rfl⟩
                      have hdl : L[j]'(by rw [str_size] at hlt4; exact hlt4) = d := hdd
                      rw [hdl] at hall
                      simp only [hall]
                      clear hall hdl hj3 hn hlt6
                      go_wp2
                      go_roundw
                      case rel => exact ⟨j + 1, by omega, by go_num, by (repeat' (first | (with_reducible exact Below.refl _ _) | (with_reducible assumption) | (with_reducible refine below_run ?_ (by assumption)) | (with_reducible refine below_of_upd ?_ (by assumption) ?_) | (with_reducible refine below_drewN ?_ _) | (with_reducible refine Below.drew ?_) | (with_reducible refine below_seven ?_ ?_) | (with_reducible refine below_six ?_ ?_) | (with_reducible refine below_one ?_ ?_) | (with_reducible refine Below.alloc ?_ ?_ _) | (with_reducible refine below_after ?_ ?_ (by assumption)) | (show _ ≤ _; first | omega | (simp; done) | (simp; omega))))⟩
                      case measure => simp [intOf]; omega
                · have hlt5 : ¬ (j : Int) < ((str L).size : Int) := by omega
                  clear hlt4
                  go_wp2_with fail
                  refine (sclone_any (str L) _ hSL).mono ?_
                  rintro e w8 ⟨rfl, hb8⟩
                  have hT9 : Tab w8 := (Tab.run h hb9).run hb8
                  go_wp2_with fail
                  refine (awake46_any _ hT9).mono ?_
                  rintro e w9 ⟨rfl, hb9'⟩
                  go_wp2
                  go_ret
                  exact ⟨rfl, by (repeat' (first | (with_reducible exact Below.refl _ _) | (with_reducible assumption) | (with_reducible refine below_run ?_ (by assumption)) | (with_reducible refine below_of_upd ?_ (by assumption) ?_) | (with_reducible refine below_drewN ?_ _) | (with_reducible refine Below.drew ?_) | (with_reducible refine below_seven ?_ ?_) | (with_reducible refine below_six ?_ ?_) | (with_reducible refine below_one ?_ ?_) | (with_reducible refine Below.alloc ?_ ?_ _) | (with_reducible refine below_after ?_ ?_ (by assumption)) | (show _ ≤ _; first | omega | (simp; done) | (simp; omega))))⟩
      · have hq1 : ((l.length : Int) == 64) = false := beq_eq_false_iff_ne.2 (by omega)
        have HQ : Hid (l.length ≤ 63) := Lib.hid (by omega)
        clear hq hl
        go_enter Tryd.func10, Tryd.ntmps10
        go_wp2_with fail
        refine (C0.out _ (by (repeat' (first | (with_reducible exact Below.refl _ _) | (with_reducible assumption) | (with_reducible refine below_run ?_ (by assumption)) | (with_reducible refine below_of_upd ?_ (by assumption) ?_) | (with_reducible refine below_drewN ?_ _) | (with_reducible refine Below.drew ?_) | (with_reducible refine below_seven ?_ ?_) | (with_reducible refine below_six ?_ ?_) | (with_reducible refine below_one ?_ ?_) | (with_reducible refine Below.alloc ?_ ?_ _) | (with_reducible refine below_after ?_ ?_ (by assumption)) | (show _ ≤ _; first | omega | (simp; done) | (simp; omega)))))).mono ?_
        rintro e w1 ⟨rfl, hb1⟩
        have hz1' := hb1.size
        go_wp2_with fail
        refine (C1.out _ (by (repeat' (first | (with_reducible exact Below.refl _ _) | (with_reducible assumption) | (with_reducible refine below_run ?_ (by assumption)) | (with_reducible refine below_of_upd ?_ (by assumption) ?_) | (with_reducible refine below_drewN ?_ _) | (with_reducible refine Below.drew ?_) | (with_reducible refine below_seven ?_ ?_) | (with_reducible refine below_six ?_ ?_) | (with_reducible refine below_one ?_ ?_) | (with_reducible refine Below.alloc ?_ ?_ _) | (with_reducible refine below_after ?_ ?_ (by assumption)) | (show _ ≤ _; first | omega | (simp; done) | (simp; omega)))))).mono ?_
        rintro e w2 ⟨rfl, hb2⟩
        have hz2' := hb2.size
        go_wp2_with fail
        refine (C2.out _ (by (repeat' (first | (with_reducible exact Below.refl _ _) | (with_reducible assumption) | (with_reducible refine below_run ?_ (by assumption)) | (with_reducible refine below_of_upd ?_ (by assumption) ?_) | (with_reducible refine below_drewN ?_ _) | (with_reducible refine Below.drew ?_) | (with_reducible refine below_seven ?_ ?_) | (with_reducible refine below_six ?_ ?_) | (with_reducible refine below_one ?_ ?_) | (with_reducible refine Below.alloc ?_ ?_ _) | (with_reducible refine below_after ?_ ?_ (by assumption)) | (show _ ≤ _; first | omega | (simp; done) | (simp; omega)))))).mono ?_
        rintro e w3 ⟨v', rfl, ho3, hb3⟩
        have hz3' := hb3.size
        obtain ⟨ca, cc, rfl⟩ := ho3.shape
        go_wp2_with fail
        refine (reverse_any _ l w3 w2.heap.size ho3 HL.out hz3').mono ?_
        rintro e w4 ⟨rfl, ho4, hb4⟩
        have hz4' := hb4.size
        clear ho3
        have hB4 : Below w.heap.size w w4 := by
          have e2 : Below w.heap.size w w2 := by (repeat' (first | (with_reducible exact Below.refl _ _) | (with_reducible assumption) | (with_reducible refine below_run ?_ (by assumption)) | (with_reducible refine below_of_upd ?_ (by assumption) ?_) | (with_reducible refine below_drewN ?_ _) | (with_reducible refine Below.drew ?_) | (with_reducible refine below_seven ?_ ?_) | (with_reducible refine below_six ?_ ?_) | (with_reducible refine below_one ?_ ?_) | (with_reducible refine Below.alloc ?_ ?_ _) | (with_reducible refine below_after ?_ ?_ (by assumption)) | (show _ ≤ _; first | omega | (simp; done) | (simp; omega))))
          exact (e2.trans (hb3.mono (by omega))).trans (hb4.mono (by omega))
        have hown5 : (w4.alloc (.cells #[.string ⟨#[]⟩] 9)).ownsRow w2.heap.size 9 1 (.slice ca l.length cc) l.length (l.reverse.map Value.string) := World.ownsRow.alloc (by have := ho4; unfold OwnS at this; rw [List.length_reverse] at this; exact this) _
        go_wp2_with (at_builtin; refine wpList_append_lies _ rfl (.tmp 35) (.tmp 36) 56 rfl w2.heap.size 9 i0 _ 1 16 Tryd.underlying56 hi hz0 hz1 hz2 rfl (by decide) _ _ _ rfl hown5 ⟨w4.heap.size, 0, none⟩ 1 1 [.string ⟨#[]⟩] rfl rfl ?c1 ?c2 (by decide) ?c3 ?c4 ?c5 _ rfl ?_)
        case c1 =>
          intro j u hj
          match j, hj with
          | 0, hj => simp at hj; subst hj; simp [Addr.add]
        case c2 => intro u hu; simp at hu; subst hu; rfl
        case c3 => have := HQ.out; unfold maxLen; omega
        case c4 => have := HQ.out; omega
        case c5 => simp; omega
        · intro g gc w5 hown' hgrow _ _
          have ho5 : OwnS w5 w2.heap.size (.slice (some ⟨g, 0, none⟩) (l.length + 1) gc) (l.reverse ++ [⟨#[]⟩]) := by
            have e : (l.reverse ++ [(⟨#[]⟩ : ByteArray)]).length = l.length + 1 := by simp
            unfold OwnS
            rw [e, List.map_append, List.map_reverse]
            exact hown'
          have hB5 : Below w.heap.size w w5 := below_grown (hB4.alloc (by omega) _) hown5 (by omega) hgrow (by simp; omega)
          have hs5 := ho5.strs (by simp; have := HQ.out; omega)
          have C5 : Hid (Calls Tryd.prog 31 #[.slice (some ⟨g, 0, none⟩) (l.length + 1) gc] w5 fun e w' => e = .returned (.tuple #[.string (str L), .int .i64 0]) ∧ Below w5.heap.size w5 w') := Lib.hid ((overlay_any _ _ w5 hs5).mono fun e w' ⟨a, b, he, hh, hb⟩ => by
            have := hh.out; rw [over_more HQ.out HO.out, HLL.out] at this; cases this; exact ⟨he, hb⟩)
          clear hown5 hown' hgrow ho5 hs5 ho4
          go_wp2_with fail
          refine C5.out.mono ?_
          rintro e w6 ⟨rfl, hb6⟩
          have hB6 : Below w.heap.size w w6 := by (repeat' (first | (with_reducible exact Below.refl _ _) | (with_reducible assumption) | (with_reducible refine below_run ?_ (by assumption)) | (with_reducible refine below_of_upd ?_ (by assumption) ?_) | (with_reducible refine below_drewN ?_ _) | (with_reducible refine Below.drew ?_) | (with_reducible refine below_seven ?_ ?_) | (with_reducible refine below_six ?_ ?_) | (with_reducible refine below_one ?_ ?_) | (with_reducible refine Below.alloc ?_ ?_ _) | (with_reducible refine below_after ?_ ?_ (by assumption)) | (show _ ≤ _; first | omega | (simp; done) | (simp; omega))))
          clear C5 C0 C1 C2 hb1 hb2 hb3 hb4 hb6 hB4 hB5 hz1' hz2' hz3' hz4'
          have hv6 := SeqAt.below HV.out hB6
          rcases HV.out with ⟨h0, _⟩ | ⟨h0, h1, b, off, cap, he, hlt, hc⟩
          · obtain rfl : l = [] := List.eq_nil_of_length_eq_zero h0
            obtain rfl : [] = L := HLL.out
            have hsn : ((str []).size : Int) = 0 := rfl
            clear hv6 HV HQ HL hq1 s1 h0
            go_wp2_with fail
            refine wp_loop_rounds 1 ?_
            rw [rounds_succ]
            go_wp2_with fail
            refine wp_loop_rounds 1 ?_
            rw [rounds_succ]
            go_wp2_with fail
            refine (sclone_any (str []) _ (by decide)).mono ?_
            rintro e w8 ⟨rfl, hb8⟩
            have hT9 : Tab w8 := (Tab.run h hB6).run hb8
            go_wp2_with fail
            refine (awake46_any _ hT9).mono ?_
            rintro e w9 ⟨rfl, hb9'⟩
            go_wp2
            go_ret
            exact ⟨rfl, by (repeat' (first | (with_reducible exact Below.refl _ _) | (with_reducible assumption) | (with_reducible refine below_run ?_ (by assumption)) | (with_reducible refine below_of_upd ?_ (by assumption) ?_) | (with_reducible refine below_drewN ?_ _) | (with_reducible refine Below.drew ?_) | (with_reducible refine below_seven ?_ ?_) | (with_reducible refine below_six ?_ ?_) | (with_reducible refine below_one ?_ ?_) | (with_reducible refine Below.alloc ?_ ?_ _) | (with_reducible refine below_after ?_ ?_ (by assumption)) | (show _ ≤ _; first | omega | (simp; done) | (simp; omega))))⟩
          · cases he
            go_wp2_with fail
            go_loopw [65] (fun i wr => ∃ k : Nat, k ≤ l.length ∧ i = .int .i64 k ∧ Below w.heap.size w wr) (fun i _ => l.length - (intOf i).toNat)
            case atStart => exact ⟨0, Nat.zero_le _, rfl, hB6⟩
            case round =>
              obtain ⟨k, hk, rfl, hb0⟩ := hrel
              by_cases hlt2 : k < l.length
              · have hlt3 : (k : Int) < (l.length : Int) := by omega
                have hc' : ∀ j, j < l.length * 1 → wr.cell? ⟨b, off + j, none⟩ = strsC l j := fun j hj => (hb0.cell (p := ⟨b, off + j, none⟩) hlt).trans (hc j hj)
                obtain ⟨s, hs, e0⟩ := str_cell hc' k hlt2
                have hm : s ∈ l := List.mem_of_getElem? hs
                have hzs := over_size hm
                rw [HLL.out, ← str_size] at hzs
                have n1 : ¬ ((str L).size : Int) < (s.size : Int) := by omega
                have HM := Lib.hid hm
                have hw0 : w.heap.size ≤ wr.heap.size := hb0.size
                have h400 : s.size ≤ 400 := short_of hm HO.out
                have hs1 : StrsAt (wr.alloc (.cells #[.string s] 9)) (.slice (some ⟨wr.heap.size, 0, none⟩) 1 1) [s] := .inr ⟨by show 0 < 1; decide, by show 1 ≤ 140737488351232; decide, wr.heap.size, 0, 1, rfl, by simp, fun j hj => by
                  obtain rfl : j = 0 := by simpa using hj
                  simp [strsC]⟩
                have C6 : Hid (Calls Tryd.prog 31 #[.slice (some ⟨wr.heap.size, 0, none⟩) 1 1] (wr.alloc (.cells #[.string s] 9)) fun e w' => e = .returned (.tuple #[.string s, .int .i64 0]) ∧ Below (wr.alloc (.cells #[.string s] 9)).heap.size (wr.alloc (.cells #[.string s] 9)) w') := Lib.hid ((overlay_any _ _ _ hs1).mono fun e w' ⟨a, b, he, hh, hb⟩ => by
                  have := hh.out; rw [over_one hm HO.out] at this; cases this; exact ⟨he, hb⟩)
                clear hc' hs hm hs1 hzs
                go_wp2_with fail
                refine C6.out.mono ?_
                rintro e w7 ⟨rfl, hb7⟩
                have hz7 := hb7.size
                (try simp at hz7)
                clear C6
                have hB8 : Below w.heap.size w w7 := by
                  have e2 : Below w.heap.size w (wr.alloc (.cells #[.string s] 9)) := by (repeat' (first | (with_reducible exact Below.refl _ _) | (with_reducible assumption) | (with_reducible refine below_run ?_ (by assumption)) | (with_reducible refine below_of_upd ?_ (by assumption) ?_) | (with_reducible refine below_drewN ?_ _) | (with_reducible refine Below.drew ?_) | (with_reducible refine below_seven ?_ ?_) | (with_reducible refine below_six ?_ ?_) | (with_reducible refine below_one ?_ ?_) | (with_reducible refine Below.alloc ?_ ?_ _) | (with_reducible refine below_after ?_ ?_ (by assumption)) | (show _ ≤ _; first | omega | (simp; done) | (simp; omega))))
                  exact e2.trans (hb7.mono (by have := hb0.size; simp; omega))
                clear hb7
                go_wp2_with fail
                go_loopw [91] (fun i wr2 => ∃ j : Nat, j ≤ s.size ∧ i = .int .i64 j ∧ Below w.heap.size w wr2) (fun i _ => s.size - (intOf i).toNat)
                case atStart => exact ⟨0, Nat.zero_le _, rfl, by (repeat' (first | (with_reducible exact Below.refl _ _) | (with_reducible assumption) | (with_reducible refine below_run ?_ (by assumption)) | (with_reducible refine below_of_upd ?_ (by assumption) ?_) | (with_reducible refine below_drewN ?_ _) | (with_reducible refine Below.drew ?_) | (with_reducible refine below_seven ?_ ?_) | (with_reducible refine below_six ?_ ?_) | (with_reducible refine below_one ?_ ?_) | (with_reducible refine Below.alloc ?_ ?_ _) | (with_reducible refine below_after ?_ ?_ (by assumption)) | (show _ ≤ _; first | omega | (simp; done) | (simp; omega))))⟩
                case round =>
                  rename_i wr2 _ _ _
                  obtain ⟨j, hj, rfl, hb9⟩ := hrel
                  by_cases hlt4 : j < s.size
                  · have hlt5 : (j : Int) < (s.size : Int) := by omega
                    have hlt6 : (j : Int) < ((str L).size : Int) := by omega
                    have hj2 : j < (str L).size := by omega
                    have hj3 : j < (overL (lists l)).length := by rw [HLL.out, ← str_size]; exact hj2
                    have hand := over_and HM.out j hlt4 hj3
                    simp only [HLL.out] at hand
                    obtain ⟨c, hcc⟩ : ∃ c, s[j] = c := ⟨_, rfl⟩
                    obtain ⟨d, hdd⟩ : ∃ d, (str L)[j] = d := ⟨_, rfl⟩
                    have hdl : L[j]'(by rw [str_size] at hj2; exact hj2) = d := hdd
                    rw [hcc, hdl] at hand
                    have hbits : bits BinOp.and .u8 (d.toNat : Int) (c.toNat : Int) = (c.toNat : Int) := by rw [and_bytes, hand]
                    clear hand hdl hj3
                    go_wp2
                    go_region
                    go_wp2
                    go_roundw
                    case rel => exact ⟨j + 1, by omega, by go_num, by (repeat' (first | (with_reducible exact Below.refl _ _) | (with_reducible assumption) | (with_reducible refine below_run ?_ (by assumption)) | (with_reducible refine below_of_upd ?_ (by assumption) ?_) | (with_reducible refine below_drewN ?_ _) | (with_reducible refine Below.drew ?_) | (with_reducible refine below_seven ?_ ?_) | (with_reducible refine below_six ?_ ?_) | (with_reducible refine below_one ?_ ?_) | (with_reducible refine Below.alloc ?_ ?_ _) | (with_reducible refine below_after ?_ ?_ (by assumption)) | (show _ ≤ _; first | omega | (simp; done) | (simp; omega))))⟩
                    case measure => simp [intOf]; omega
                  · have hlt5 : ¬ (j : Int) < (s.size : Int) := by omega
                    clear hlt4
                    go_wp2
                    go_roundw
                    case rel => exact ⟨k + 1, by omega, by go_num, by (repeat' (first | (with_reducible exact Below.refl _ _) | (with_reducible assumption) | (with_reducible refine below_run ?_ (by assumption)) | (with_reducible refine below_of_upd ?_ (by assumption) ?_) | (with_reducible refine below_drewN ?_ _) | (with_reducible refine Below.drew ?_) | (with_reducible refine below_seven ?_ ?_) | (with_reducible refine below_six ?_ ?_) | (with_reducible refine below_one ?_ ?_) | (with_reducible refine Below.alloc ?_ ?_ _) | (with_reducible refine below_after ?_ ?_ (by assumption)) | (show _ ≤ _; first | omega | (simp; done) | (simp; omega))))⟩
                    case measure => simp [intOf]; omega
              · have hlt3 : ¬ (k : Int) < (l.length : Int) := by omega
                clear hlt2
                have hSL : (str L).size ≤ 400 := by
                  have := overL_length_le (lists l) 400 fun t ht => by
                    obtain ⟨u, hu, rfl⟩ := List.mem_map.1 ht
                    simpa using short_of hu HO.out
                  rw [HLL.out] at this
                  rw [str_size]; exact this
                go_wp2_with fail
                go_loopw [109] (fun i wr3 => ∃ j : Nat, j ≤ (str L).size ∧ i = .int .i64 j ∧ Below w.heap.size w wr3) (fun i _ => (str L).size - (intOf i).toNat)
                case atStart => exact ⟨0, Nat.zero_le _, rfl, by (repeat' (first | (with_reducible exact Below.refl _ _) | (with_reducible assumption) | (with_reducible refine below_run ?_ (by assumption)) | (with_reducible refine below_of_upd ?_ (by assumption) ?_) | (with_reducible refine below_drewN ?_ _) | (with_reducible refine Below.drew ?_) | (with_reducible refine below_seven ?_ ?_) | (with_reducible refine below_six ?_ ?_) | (with_reducible refine below_one ?_ ?_) | (with_reducible refine Below.alloc ?_ ?_ _) | (with_reducible refine below_after ?_ ?_ (by assumption)) | (show _ ≤ _; first | omega | (simp; done) | (simp; omega))))⟩
                case round =>
                  rename_i wr3 _ _ _
                  obtain ⟨j, hj, rfl, hb9⟩ := hrel
                  by_cases hlt4 : j < (str L).size
                  · have hlt5 : (j : Int) < ((str L).size : Int) := by omega
                    have HB := Lib.hid (bitsAt_zero l j)
                    go_wp2_with fail
                    go_loopw [14, 114] (fun x i wr4 => ∃ n : Nat, n ≤ l.length ∧ i = .int .i64 n ∧ x = .int .u8 ((bitsAt l n j).toNat : Int) ∧ Below w.heap.size w wr4) (fun _ i _ => l.length - (intOf i).toNat)
                    case atStart => exact ⟨0, Nat.zero_le _, rfl, by rw [HB.out]; rfl, by (repeat' (first | (with_reducible exact Below.refl _ _) | (with_reducible assumption) | (with_reducible refine below_run ?_ (by assumption)) | (with_reducible refine below_of_upd ?_ (by assumption) ?_) | (with_reducible refine below_drewN ?_ _) | (with_reducible refine Below.drew ?_) | (with_reducible refine below_seven ?_ ?_) | (with_reducible refine below_six ?_ ?_) | (with_reducible refine below_one ?_ ?_) | (with_reducible refine Below.alloc ?_ ?_ _) | (with_reducible refine below_after ?_ ?_ (by assumption)) | (show _ ≤ _; first | omega | (simp; done) | (simp; omega))))⟩
                    case round =>
                      obtain ⟨n, hn, rfl, rfl, hb10⟩ := hrel
                      by_cases hlt6 : n < l.length
                      · have hlt7 : (n : Int) < (l.length : Int) := by omega
                        have hc' : ∀ j, j < l.length * 1 → wr.cell? ⟨b, off + j, none⟩ = strsC l j := fun j hj => (hb10.cell (p := ⟨b, off + j, none⟩) hlt).trans (hc j hj)
                        obtain ⟨s, hs, e0⟩ := str_cell hc' n hlt6
                        clear hc'
                        by_cases hjs : j < s.size
                        · have hjs2 : (j : Int) < (s.size : Int) := by omega
                          obtain ⟨c, hcc⟩ : ∃ c, s[j] = c := ⟨_, rfl⟩
                          have hn1 := bitsAt_in hs hjs
                          rw [hcc] at hn1
                          obtain ⟨d, hd⟩ : ∃ d, bitsAt l n j = d := ⟨_, rfl⟩
                          rw [hd] at hn1
                          have hor := or_bytes d c
                          have HN := Lib.hid hn1
                          simp only [hd]
                          clear hs hn1 hd hlt6
                          go_wp2
                          go_roundw
                          case rel => exact ⟨n + 1, by omega, by go_num, by rw [HN.out]; simp, by (repeat' (first | (with_reducible exact Below.refl _ _) | (with_reducible assumption) | (with_reducible refine below_run ?_ (by assumption)) | (with_reducible refine below_of_upd ?_ (by assumption) ?_) | (with_reducible refine below_drewN ?_ _) | (with_reducible refine Below.drew ?_) | (with_reducible refine below_seven ?_ ?_) | (with_reducible refine below_six ?_ ?_) | (with_reducible refine below_one ?_ ?_) | (with_reducible refine Below.alloc ?_ ?_ _) | (with_reducible refine below_after ?_ ?_ (by assumption)) | (show _ ≤ _; first | omega | (simp; done) | (simp; omega))))⟩
                          case measure => simp [intOf]; omega
                        · have hjs2 : ¬ (j : Int) < (s.size : Int) := by omega
                          have HN := Lib.hid (bitsAt_out hs hjs)
                          clear hs hlt6 hjs
                          go_wp2
                          go_roundw
                          case rel => exact ⟨n + 1, by omega, by go_num, by rw [HN.out], by (repeat' (first | (with_reducible exact Below.refl _ _) | (with_reducible assumption) | (with_reducible refine below_run ?_ (by assumption)) | (with_reducible refine below_of_upd ?_ (by assumption) ?_) | (with_reducible refine below_drewN ?_ _) | (with_reducible refine Below.drew ?_) | (with_reducible refine below_seven ?_ ?_) | (with_reducible refine below_six ?_ ?_) | (with_reducible refine below_one ?_ ?_) | (with_reducible refine Below.alloc ?_ ?_ _) | (with_reducible refine below_after ?_ ?_ (by assumption)) | (show _ ≤ _; first | omega | (simp; done) | (simp; omega))))⟩
                          case measure => simp [intOf]; omega
                      · obtain rfl : n = l.length := by omega
                        have hlt7 : ¬ (l.length : Int) < (l.length : Int) := by omega
                        have hj3 : j < (overL (lists l)).length := by rw [HLL.out, ← str_size]; exact hlt4
                        have hall := bitsAt_all l j hj3
                        simp only [HLL.out] at hall
                        obtain ⟨d, hdd⟩ : ∃ d, (str L)[j] = d := ⟨_, rfl⟩
                        have hdl : L[j]'(by rw [str_size] at hlt4; exact hlt4) = d := hdd
                        rw [hdl] at hall
                        simp only [hall]
                        clear hall hdl hj3 hn hlt6
                        go_wp2
                        go_roundw
                        case rel => exact ⟨j + 1, by omega, by go_num, by (repeat' (first | (with_reducible exact Below.refl _ _) | (with_reducible assumption) | (with_reducible refine below_run ?_ (by assumption)) | (with_reducible refine below_of_upd ?_ (by assumption) ?_) | (with_reducible refine below_drewN ?_ _) | (with_reducible refine Below.drew ?_) | (with_reducible refine below_seven ?_ ?_) | (with_reducible refine below_six ?_ ?_) | (with_reducible refine below_one ?_ ?_) | (with_reducible refine Below.alloc ?_ ?_ _) | (with_reducible refine below_after ?_ ?_ (by assumption)) | (show _ ≤ _; first | omega | (simp; done) | (simp; omega))))⟩
                        case measure => simp [intOf]; omega
                  · have hlt5 : ¬ (j : Int) < ((str L).size : Int) := by omega
                    clear hlt4
                    go_wp2_with fail
                    refine (sclone_any (str L) _ hSL).mono ?_
                    rintro e w8 ⟨rfl, hb8⟩
                    have hT9 : Tab w8 := (Tab.run h hb9).run hb8
                    go_wp2_with fail
                    refine (awake46_any _ hT9).mono ?_
                    rintro e w9 ⟨rfl, hb9'⟩
                    go_wp2
                    go_ret
                    exact ⟨rfl, by (repeat' (first | (with_reducible exact Below.refl _ _) | (with_reducible assumption) | (with_reducible refine below_run ?_ (by assumption)) | (with_reducible refine below_of_upd ?_ (by assumption) ?_) | (with_reducible refine below_drewN ?_ _) | (with_reducible refine Below.drew ?_) | (with_reducible refine below_seven ?_ ?_) | (with_reducible refine below_six ?_ ?_) | (with_reducible refine below_one ?_ ?_) | (with_reducible refine Below.alloc ?_ ?_ _) | (with_reducible refine below_after ?_ ?_ (by assumption)) | (show _ ≤ _; first | omega | (simp; done) | (simp; omega))))⟩
  · have s1 : (64 : Int) < (l.length : Int) := by omega
    clear hl
    go_enter Tryd.func10, Tryd.ntmps10
    go_wp2_with fail
    refine (awake46_any _ (by repeat' (first | (with_reducible assumption) | (with_reducible refine Tab.drewN ?_ _) | (with_reducible refine Tab.drew ?_) | (with_reducible refine Tab.alloc ?_ _) | (with_reducible refine Tab.run ?_ (by assumption))))).mono ?_
    rintro e w1 ⟨rfl, hb1⟩
    go_wp2
    go_ret
    exact ⟨rfl, by (repeat' (first | (with_reducible exact Below.refl _ _) | (with_reducible assumption) | (with_reducible refine below_run ?_ (by assumption)) | (with_reducible refine below_of_upd ?_ (by assumption) ?_) | (with_reducible refine below_drewN ?_ _) | (with_reducible refine Below.drew ?_) | (with_reducible refine below_seven ?_ ?_) | (with_reducible refine below_six ?_ ?_) | (with_reducible refine below_one ?_ ?_) | (with_reducible refine Below.alloc ?_ ?_ _) | (with_reducible refine below_after ?_ ?_ (by assumption)) | (show _ ≤ _; first | omega | (simp; done) | (simp; omega))))⟩

end Go.Proofs.YtdklpmaeajpacaaDoor
