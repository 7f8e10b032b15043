/-
  The reference's errors of wires and requests.
-/
import Derived.Test.YtpkhcehddfmhpaaGreatQf
import Derived.Test.YtpkhcehddfmhpaaGreatMo
import Derived.Test.YtpkhcehddfmhpaaGreatDvs
import Derived.Test.YtpkhcehddfmhpaaGreatRchk
namespace Go.Proofs.YtpkhcehddfmhpaaGreat
open Go.RowKit

/-- A wire's parts in memory, as the reference has them. -/
structure WireR (w : World) (dv fv lv : Value) (x : Wre) : Prop where
  devs : DevsAt w dv x.devs
  faults : IntsAt w fv x.faults
  late : StrsAt w lv x.late
theorem WireAt.r {w : World} {dv fv lv : Value} {x : Wre} (h : WireAt w dv fv lv x) : WireR w dv fv lv x := ⟨h.devs, h.faults, h.late⟩
theorem WireR.run {w w' : World} {dv fv lv : Value} {x : Wre} (h : WireR w dv fv lv x) (hb : Below w.heap.size w w') : WireR w' dv fv lv x :=
  ⟨h.devs.below hb, h.faults.run hb, h.late.runM hb⟩
theorem WireR.drew {w : World} {dv fv lv : Value} {x : Wre} (h : WireR w dv fv lv x) : WireR w.drew dv fv lv x := ⟨h.devs, h.faults, h.late⟩

set_option maxHeartbeats 4000000 in
set_option maxRecDepth 100000 in
theorem rcheck_any (n : Int) (da fa la : Option Addr) (dn dc fn fc ln lc : Nat) (y : Wre) (w : World) (h : WireR w (.slice da dn dc) (.slice fa fn fc) (.slice la ln lc) y) (hn : wireE y = n) (hlb : ∀ d ∈ y.devs, d.lb.size ≤ 9223372036854775807) :
    Calls Tryz.prog 94 #[.agg #[.slice da dn dc, .slice fa fn fc, .slice la ln lc]] w fun e w' => e = .returned (.int .i64 n) ∧ Below w.heap.size w w' := by
  obtain rfl : fn = y.faults.length := by
    obtain ⟨a, c, e⟩ := shape_of h.faults
    cases e
    rfl
  obtain rfl : ln = y.late.length := by
    obtain ⟨a, c, e⟩ := shape_of h.late
    cases e
    rfl
  obtain ⟨W, hW⟩ : ∃ W, w.alloc (.cells #[.slice da dn dc, .slice fa y.faults.length fc, .slice la y.late.length lc] 44) = W := ⟨_, rfl⟩
  have hbW : Below w.heap.size w W := by rw [← hW]; (repeat' (first | (with_reducible exact Below.refl _ _) | (with_reducible assumption) | (with_reducible refine below_run ?_ (by assumption)) | (with_reducible refine below_of_upd ?_ (by assumption) ?_) | (with_reducible refine below_drewN ?_ _) | (with_reducible refine Below.drew ?_) | (with_reducible refine below_seven ?_ ?_) | (with_reducible refine below_six ?_ ?_) | (with_reducible refine below_one ?_ ?_) | (with_reducible refine Below.alloc ?_ ?_ _) | (with_reducible refine below_after ?_ ?_ (by assumption)) | (show _ ≤ _; first | omega | (simp; done) | (simp; omega))))
  have r0 : RowAt W w.heap.size 44 #[.slice da dn dc, .slice fa y.faults.length fc, .slice la y.late.length lc] := by rw [← hW]; exact RowAt.new _ _ _
  obtain ⟨m, hm⟩ : ∃ m, devsE y.devs = m := ⟨_, rfl⟩
  obtain ⟨q1, hq1⟩ : ∃ q, y.faults.any badFault = q := ⟨_, rfl⟩
  obtain ⟨q2, hq2⟩ : ∃ q, y.late.any longText = q := ⟨_, rfl⟩
  have HX := Lib.hid (show n = if m ≠ 0 then m else if 4096 < y.faults.length then 5 else if q1 = true then 1 else if 64 < y.late.length then 5 else if q2 = true then 13 else 0 by rw [← hn, wireE, hm, hq1, hq2])
  have CD := Lib.hid (devices_err (.slice da dn dc) y.devs W (h.run hbW).devs hlb)
  rw [hm] at CD
  have HQ1 := Lib.hid hq1
  have HQ2 := Lib.hid hq2
  have H := Lib.hid h
  have HB := Lib.hid hbW
  have R0 := Lib.hid r0
  obtain ⟨x1, x2, x3, x4, x5, x6⟩ := row_facts r0
  have c0 := cell_fact r0 0
  simp only [List.getElem?_toArray] at c0
  clear h r0 hbW hn hm hq1 hq2 hlb
  go_enter Tryz.func94, Tryz.ntmps94
  go_upto_region 1 with fail
  clear hW
  go_wp2_with fail
  refine (CD.out).mono ?_
  rintro e w1 ⟨rfl, hb1⟩
  have r1 := R0.out.run hb1
  have HB1 := Lib.hid (below_run HB.out hb1)
  have R1 := Lib.hid r1
  obtain ⟨y1, y2, y3, y4, y5, y6⟩ := row_facts r1
  have d1 := cell_fact r1 1
  have d2 := cell_fact r1 2
  simp only [List.getElem?_toArray] at d1 d2
  clear hb1 r1 x1 x2 x3 x4 x5 x6 c0 CD R0 HB y1
  by_cases hm0 : m = 0
  · subst hm0
    by_cases g1 : 4096 < y.faults.length
    · have g1' : (4096 : Int) < (y.faults.length : Int) := by omega
      have HE : Hid (n = 5) := by show n = 5; rw [HX.out, if_neg (by decide), if_pos g1]
      clear g1
      go_wp2
      go_ret
      exact ⟨ret_int (by rw [HE.out]), HB1.out⟩
    · have g1' : ¬ (4096 : Int) < (y.faults.length : Int) := by omega
      have HX1 := Lib.hid (show n = if q1 = true then 1 else if 64 < y.late.length then 5 else if q2 = true then 13 else 0 by rw [HX.out, if_neg (by decide), if_neg g1])
      clear g1
      go_wp2
      go_loopw [4] (fun i wr => ∃ k : Nat, k ≤ y.faults.length ∧ i = .int .i64 k ∧ (y.faults.take k).any badFault = false ∧ wr = w1) (fun i _ => y.faults.length - (intOf i).toNat)
      case atStart => exact ⟨0, Nat.zero_le _, rfl, rfl, rfl⟩
      case round =>
        obtain ⟨k, hk, rfl, hall, rfl⟩ := hrel
        have HA := Lib.hid hall
        clear hall
        by_cases hlt : k < y.faults.length
        · have hlt3 : (k : Int) < (y.faults.length : Int) := by omega
          rcases (H.out.run HB1.out).faults with ⟨h0, _⟩ | ⟨h0, h1, b, off, cap, hv, hbl, hcel⟩
          · omega
          · cases hv
            obtain ⟨x, hx, e0⟩ := int_cell hcel k hlt
            have HT := Lib.hid (take_succ_some hx)
            have HS := Lib.hid hx
            clear hcel hx
            by_cases k1 : x < 0
            · have hE : y.faults.any badFault = true := List.any_eq_true.2 ⟨x, List.mem_of_getElem? HS.out, decide_eq_true (.inl k1)⟩
              have HE := Lib.hid (show n = 1 by rw [HX1.out, if_pos (HQ1.out.symm.trans hE)])
              clear hE
              go_wp2
              go_ret
              exact ⟨ret_int (by rw [HE.out]), HB1.out⟩
            · by_cases k2 : 4 < x
              · have hE : y.faults.any badFault = true := List.any_eq_true.2 ⟨x, List.mem_of_getElem? HS.out, decide_eq_true (.inr k2)⟩
                have HE := Lib.hid (show n = 1 by rw [HX1.out, if_pos (HQ1.out.symm.trans hE)])
                clear hE
                go_wp2
                go_ret
                exact ⟨ret_int (by rw [HE.out]), HB1.out⟩
              · have HM := Lib.hid (show badFault x = false from decide_eq_false (by omega))
                go_wp2
                go_roundw
                case rel => exact ⟨k + 1, by omega, by go_num, by rw [HT.out, List.any_append, HA.out]; simp [HM.out], trivial⟩
                case measure => simp [intOf]; omega
        · obtain rfl : k = y.faults.length := by omega
          have hq : q1 = false := by
            have := HA.out
            rw [List.take_length] at this
            exact HQ1.out.symm.trans this
          have HX2 := Lib.hid (show n = if 64 < y.late.length then 5 else if q2 = true then 13 else 0 by rw [HX1.out, if_neg (by rw [hq]; decide)])
          clear hq
          by_cases g2 : 64 < y.late.length
          · have g2' : (64 : Int) < (y.late.length : Int) := by omega
            have HE : Hid (n = 5) := by show n = 5; rw [HX2.out, if_pos g2]
            clear g2
            go_wp2
            go_ret
            exact ⟨ret_int (by rw [HE.out]), HB1.out⟩
          · have g2' : ¬ (64 : Int) < (y.late.length : Int) := by omega
            have HX3 := Lib.hid (show n = if q2 = true then 13 else 0 by rw [HX2.out, if_neg g2])
            clear g2
            go_wp2
            go_loopw [5] (fun i wx => ∃ k : Nat, k ≤ y.late.length ∧ i = .int .i64 k ∧ (y.late.take k).any longText = false ∧ wx = wr) (fun i _ => y.late.length - (intOf i).toNat)
            case atStart => exact ⟨0, Nat.zero_le _, rfl, rfl, rfl⟩
            case round =>
              obtain ⟨j, hj, rfl, hall, rfl⟩ := hrel
              have HA2 := Lib.hid hall
              clear hall
              by_cases hlt : j < y.late.length
              · have hlt3 : (j : Int) < (y.late.length : Int) := by omega
                rcases (H.out.run HB1.out).late with ⟨h0, _⟩ | ⟨h0, h1, b, off, cap, hv, hbl, hcel⟩
                · omega
                · cases hv
                  obtain ⟨x, hx, e0⟩ := str_cell hcel j hlt
                  have HT := Lib.hid (take_succ_some hx)
                  have HS := Lib.hid hx
                  clear hcel hx
                  by_cases k1 : (4096 : Int) < (x.size : Int)
                  · have hE : y.late.any longText = true := List.any_eq_true.2 ⟨x, List.mem_of_getElem? HS.out, decide_eq_true (by omega)⟩
                    have HE := Lib.hid (show n = 13 by rw [HX3.out, if_pos (HQ2.out.symm.trans hE)])
                    clear hE
                    go_wp2
                    go_ret
                    exact ⟨ret_int (by rw [HE.out]), HB1.out⟩
                  · have HM := Lib.hid (show longText x = false from decide_eq_false (by omega))
                    go_wp2
                    go_roundw
                    case rel => exact ⟨j + 1, by omega, by go_num, by rw [HT.out, List.any_append, HA2.out]; simp [HM.out], trivial⟩
                    case measure => simp [intOf]; omega
              · obtain rfl : j = y.late.length := by omega
                have hq : q2 = false := by
                  have := HA2.out
                  rw [List.take_length] at this
                  exact HQ2.out.symm.trans this
                have HE := Lib.hid (show n = 0 by rw [HX3.out, if_neg (by rw [hq]; decide)])
                clear hq
                go_wp2
                go_ret
                exact ⟨ret_int (by rw [HE.out]), HB1.out⟩
  · have e9 : (m != 0) = true := by simpa using hm0
    have HE : Hid (n = m) := by show n = m; rw [HX.out, if_pos hm0]
    clear hm0
    go_wp2
    go_ret
    exact ⟨ret_int (by rw [HE.out]), HB1.out⟩
end Go.Proofs.YtpkhcehddfmhpaaGreat
