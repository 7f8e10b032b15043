/-
  The chapter's independent laws, plain: insisting, setting labels, reading, waiting.
  Whether two wires are equal, where they are; whether a world is small and right.
  Ask, behind all that leaves old memory alone.
-/
import Derived.Test.YtpjmhhfpjhmiiaaGreatQd
import Derived.Test.YtpjmhhfpjhmiiaaGreatQj
namespace Go.Proofs.YtpjmhhfpjhmiiaaGreat

/-! ### Reading -/
/-! ### Waiting -/
end Go.Proofs.YtpjmhhfpjhmiiaaGreat

namespace Go.Proofs.YtpjmhhfpjhmiiaaGreat
open Go.RowKit Go.Shelf

set_option maxHeartbeats 2000000 in
set_option maxRecDepth 100000 in
theorem sametexts_any (v u : Value) (l : List ByteArray) (w : World) (hv : StrsAt w v l) (hu : StrsAt w u l) :
    Calls Tryz.prog 65 #[v, u] w fun e w' => e = .returned (.bool true) ∧ Below w.heap.size w w' := by
  rcases hv with ⟨h0, a, cap, rfl⟩ | ⟨h0, h1, b, off, cap, rfl, hlt, hc⟩
  · have hl : l = [] := List.eq_nil_of_length_eq_zero h0
    subst hl
    rcases hu with ⟨_, a', cap', rfl⟩ | ⟨g0, _⟩
    · go_enter Tryz.func65, Tryz.ntmps65
      go_wp2
      refine wp_loop_rounds 1 ?_
      rw [rounds_succ]
      go_wp2
      go_ret
      exact ⟨rfl, by (repeat' (first | (with_reducible exact Below.refl _ _) | (with_reducible assumption) | (with_reducible refine below_run ?_ (by assumption)) | (with_reducible refine below_of_upd ?_ (by assumption) ?_) | (with_reducible refine below_drewN ?_ _) | (with_reducible refine Below.drew ?_) | (with_reducible refine below_seven ?_ ?_) | (with_reducible refine below_six ?_ ?_) | (with_reducible refine below_one ?_ ?_) | (with_reducible refine Below.alloc ?_ ?_ _) | (with_reducible refine below_after ?_ ?_ (by assumption)) | (show _ ≤ _; first | omega | (simp; done) | (simp; omega))))⟩
    · simp at g0
  · rcases hu with ⟨g0, _⟩ | ⟨_, _, b', off', cap', rfl, hlt', hc'⟩
    · omega
    · have h3 : (l.length : Int) ≤ 140737488351232 := by omega
      have h4 : (0 : Int) < (l.length : Int) := by omega
      have h5 : ((l.length : Int) != (l.length : Int)) = false := by simp
      go_enter Tryz.func65, Tryz.ntmps65
      go_wp2
      go_loopw [5] (fun i wr => ∃ k : Nat, k ≤ l.length ∧ i = .int .i64 k ∧ Below w.heap.size w wr) (fun i _ => l.length - (intOf i).toNat)
      case atStart => exact ⟨0, Nat.zero_le _, rfl, Below.refl _ _⟩
      case round =>
        obtain ⟨k, hk, rfl, hb0⟩ := hrel
        by_cases hlt2 : k < l.length
        · have hlt3 : (k : Int) < (l.length : Int) := by omega
          have hk0 : (0 : Int) ≤ (k : Int) := by omega
          have hw1 : ∀ j, j < l.length * 1 → wr.cell? ⟨b, off + j, none⟩ = strsC l j := fun j hj => (hb0.cell (p := ⟨b, off + j, none⟩) hlt).trans (hc j hj)
          have hw2 : ∀ j, j < l.length * 1 → wr.cell? ⟨b', off' + j, none⟩ = strsC l j := fun j hj => (hb0.cell (p := ⟨b', off' + j, none⟩) hlt').trans (hc' j hj)
          obtain ⟨d, hd, e0⟩ := str_cell hw1 k hlt2
          obtain ⟨d', hd', f0⟩ := str_cell hw2 k hlt2
          rw [hd] at hd'
          simp only [Option.some.injEq] at hd'
          subst hd'
          clear hc hc' hw1 hw2 hd
          go_wp2
          go_quiet (fail)
          go_wp2
          go_roundw
          case rel => exact ⟨k + 1, by omega, by go_num, by (repeat' (first | (with_reducible exact Below.refl _ _) | (with_reducible assumption) | (with_reducible refine below_run ?_ (by assumption)) | (with_reducible refine below_of_upd ?_ (by assumption) ?_) | (with_reducible refine below_drewN ?_ _) | (with_reducible refine Below.drew ?_) | (with_reducible refine below_seven ?_ ?_) | (with_reducible refine below_six ?_ ?_) | (with_reducible refine below_one ?_ ?_) | (with_reducible refine Below.alloc ?_ ?_ _) | (with_reducible refine below_after ?_ ?_ (by assumption)) | (show _ ≤ _; first | omega | (simp; done) | (simp; omega))))⟩
          case measure => simp [intOf]; omega
        · obtain rfl : k = l.length := by omega
          go_wp2
          go_ret
          exact ⟨rfl, hb0⟩

set_option maxHeartbeats 4000000 in
set_option maxRecDepth 100000 in
theorem rsame_any (da fa la da' fa' la' : Option Addr) (dn dc fn fc ln lc dn' dc' fn' fc' ln' lc' : Nat) (y : Wre) (w : World) (h : WireR w (.slice da dn dc) (.slice fa fn fc) (.slice la ln lc) y) (h' : WireR w (.slice da' dn' dc') (.slice fa' fn' fc') (.slice la' ln' lc') y) :
    Calls Tryz.prog 25 #[.agg #[.slice da dn dc, .slice fa fn fc, .slice la ln lc], .agg #[.slice da' dn' dc', .slice fa' fn' fc', .slice la' ln' lc']] w fun e w' => e = .returned (.bool true) ∧ Below w.heap.size w w' := by
  obtain rfl : fn = y.faults.length := by
    obtain ⟨a, c, e⟩ := shape_of h.faults
    cases e
    rfl
  obtain rfl : fn' = y.faults.length := by
    obtain ⟨a, c, e⟩ := shape_of h'.faults
    cases e
    rfl
  have hz : (y.faults.length : Int) ≤ 140737488351232 := by
    rcases h.faults with ⟨h0, _⟩ | ⟨_, h1, _⟩ <;> omega
  have h5 : ((y.faults.length : Int) != (y.faults.length : Int)) = false := by simp
  obtain ⟨W, hW⟩ : ∃ W, (w.alloc (.cells #[.slice da dn dc, .slice fa y.faults.length fc, .slice la ln lc] 35)).alloc (.cells #[.slice da' dn' dc', .slice fa' y.faults.length fc', .slice la' ln' lc'] 35) = W := ⟨_, rfl⟩
  have hbW : Below w.heap.size w W := by rw [← hW]; (repeat' (first | (with_reducible exact Below.refl _ _) | (with_reducible assumption) | (with_reducible refine below_run ?_ (by assumption)) | (with_reducible refine below_of_upd ?_ (by assumption) ?_) | (with_reducible refine below_drewN ?_ _) | (with_reducible refine Below.drew ?_) | (with_reducible refine below_seven ?_ ?_) | (with_reducible refine below_six ?_ ?_) | (with_reducible refine below_one ?_ ?_) | (with_reducible refine Below.alloc ?_ ?_ _) | (with_reducible refine below_after ?_ ?_ (by assumption)) | (show _ ≤ _; first | omega | (simp; done) | (simp; omega))))
  have r0 : RowAt W w.heap.size 35 #[.slice da dn dc, .slice fa y.faults.length fc, .slice la ln lc] := by rw [← hW]; exact (RowAt.new _ _ _).alloc _
  have r1 : RowAt W (w.heap.size + 1) 35 #[.slice da' dn' dc', .slice fa' y.faults.length fc', .slice la' ln' lc'] := by rw [← hW]; exact RowAt.mk (by simp) rfl
  have H := Lib.hid (h.run hbW)
  have H' := Lib.hid (h'.run hbW)
  have HB := Lib.hid hbW
  have R0 := Lib.hid r0
  have R1 := Lib.hid r1
  obtain ⟨x1, x2, x3, x4, x5, x6⟩ := row_facts r0
  obtain ⟨y1, y2, y3, y4, y5, y6⟩ := row_facts r1
  clear h h' r0 r1 hbW
  go_enter Tryz.func25, Tryz.ntmps25
  go_upto_region 1 with fail
  clear hW
  go_wp2_with fail
  refine (same_any _ _ y.devs _ H.out.devs H'.out.devs).mono ?_
  rintro e w1 ⟨rfl, hb1⟩
  have H1 := Lib.hid (H.out.run hb1)
  have H1' := Lib.hid (H'.out.run hb1)
  have HB1 := Lib.hid (below_run HB.out hb1)
  have r0 := R0.out.run hb1
  have r1 := R1.out.run hb1
  have R01 := Lib.hid r0
  have R11 := Lib.hid r1
  clear hb1 H H' HB x1 x2 x3 x4 x5 x6 y1 y2 y3 y4 y5 y6 R0 R1
  obtain ⟨x1, x2, x3, x4, x5, x6⟩ := row_facts r0
  obtain ⟨y1, y2, y3, y4, y5, y6⟩ := row_facts r1
  clear r0 r1
  go_wp2_with fail
  refine (sametexts_any _ _ y.late _ H1.out.late H1'.out.late).mono ?_
  rintro e w2 ⟨rfl, hb2⟩
  have H2 := Lib.hid (H1.out.run hb2)
  have H2' := Lib.hid (H1'.out.run hb2)
  have HB2 := Lib.hid (below_run HB1.out hb2)
  have r0 := R01.out.run hb2
  have r1 := R11.out.run hb2
  clear hb2 H1 H1' HB1 x1 x2 x3 x4 x5 x6 y1 y2 y3 y4 y5 y6 R01 R11
  obtain ⟨x1, x2, x3, x4, x5, x6⟩ := row_facts r0
  obtain ⟨y1, y2, y3, y4, y5, y6⟩ := row_facts r1
  have HR0 := Lib.hid r0
  have HR1 := Lib.hid r1
  clear r0 r1
  go_wp2
  go_loopw [5] (fun i wr => ∃ k : Nat, k ≤ y.faults.length ∧ i = .int .i64 k ∧ Below w2.heap.size w2 wr) (fun i _ => y.faults.length - (intOf i).toNat)
  case atStart => exact ⟨0, Nat.zero_le _, rfl, Below.refl _ _⟩
  case round =>
    obtain ⟨k, hk, rfl, hb0⟩ := hrel
    have r0 := HR0.out.run hb0
    have r1 := HR1.out.run hb0
    have c1 := cell_fact r0 1
    have d1 := cell_fact r1 1
    simp only [List.getElem?_toArray] at c1 d1
    have g1 := H2.out.run hb0
    have g2 := H2'.out.run hb0
    clear x1 x2 x3 x4 x5 x6 y1 y2 y3 y4 y5 y6
    obtain ⟨x1, x2, x3, x4, x5, x6⟩ := row_facts r0
    obtain ⟨y1, y2, y3, y4, y5, y6⟩ := row_facts r1
    clear r0 r1
    by_cases hlt2 : k < y.faults.length
    · have hlt3 : (k : Int) < (y.faults.length : Int) := by omega
      have hk0 : (0 : Int) ≤ (k : Int) := by omega
      rcases g1.faults with ⟨h0, _⟩ | ⟨h0, _, b, off, cap, hv, hbl, hcel⟩
      · omega
      · rcases g2.faults with ⟨h0, _⟩ | ⟨h0, _, b', off', cap', hv', hbl', hcel'⟩
        · omega
        · cases hv
          cases hv'
          obtain ⟨d, hd, e0⟩ := int_cell hcel k hlt2
          obtain ⟨d', hd', f0⟩ := int_cell hcel' k hlt2
          rw [hd] at hd'
          simp only [Option.some.injEq] at hd'
          subst hd'
          have h7 : (d != d) = false := by simp
          clear hcel hcel' hd g1 g2
          go_wp2
          go_quiet (fail)
          go_wp2
          go_roundw
          case rel => exact ⟨k + 1, by omega, by go_num, by (repeat' (first | (with_reducible exact Below.refl _ _) | (with_reducible assumption) | (with_reducible refine below_run ?_ (by assumption)) | (with_reducible refine below_of_upd ?_ (by assumption) ?_) | (with_reducible refine below_drewN ?_ _) | (with_reducible refine Below.drew ?_) | (with_reducible refine below_seven ?_ ?_) | (with_reducible refine below_six ?_ ?_) | (with_reducible refine below_one ?_ ?_) | (with_reducible refine Below.alloc ?_ ?_ _) | (with_reducible refine below_after ?_ ?_ (by assumption)) | (show _ ≤ _; first | omega | (simp; done) | (simp; omega))))⟩
          case measure => simp [intOf]; omega
    · obtain rfl : k = y.faults.length := by omega
      clear g1 g2
      go_wp2
      go_ret
      exact ⟨rfl, below_run HB2.out hb0⟩

end Go.Proofs.YtpjmhhfpjhmiiaaGreat

namespace Go.Proofs.YtpjmhhfpjhmiiaaGreat
open Go.RowKit Go.Shelf

theorem send_length (x : Mgr) (r : Rqs) (y : Wre) : (sendW x r y).devs.length = y.devs.length := by
  show (if faultW y = 1 then y.devs else sentD y.devs (ofM x r)).length = _
  split
  · rfl
  · exact sentD_length _ _
theorem askF_length (r : Rqs) : ∀ (n : Nat) (t : Int) (x : Mgr) (y : Wre), (askF r n t x y).2.1.devs.length = y.devs.length
  | 0, _, _, _ => rfl
  | n + 1, t, x, y => by
    rw [askF]
    split
    · exact send_length x r y
    · rw [askF_length r n, send_length]
end Go.Proofs.YtpjmhhfpjhmiiaaGreat
