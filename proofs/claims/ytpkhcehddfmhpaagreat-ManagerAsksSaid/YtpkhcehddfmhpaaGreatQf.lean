/-
  Whether a wire is small.
  The law's own copying of a wire; whether a wire is small.
-/
import Derived.Test.YtpkhcehddfmhpaaGreatMd
import Derived.Test.YtpkhcehddfmhpaaGreatBusX
namespace Go.Proofs.YtpkhcehddfmhpaaGreat
open Go.RowKit

theorem shape_of {w : World} {S n : Nat} {v : Value} {cs : Nat → Option Value} (h : SeqAt w S v n cs) : ∃ a cap, v = .slice a n cap := by
  rcases h with ⟨rfl, a, cap, rfl⟩ | ⟨_, _, b, off, cap, rfl, _⟩ <;> exact ⟨_, _, rfl⟩
theorem own_slice {w : World} {base T S n : Nat} {v : Value} {xs : List Value} (h : w.ownsRow base T S v n xs) : ∃ a, ∃ m c : Nat, v = .slice a m c := by
  rcases h.2 with ⟨rfl, _⟩ | ⟨g, cap, cur, rfl, _⟩ <;> exact ⟨_, _, _, rfl⟩
/-- A store into a block of another type leaves an owned row alone. -/
theorem own_far {w : World} {base T S n k U : Nat} {v : Value} {xs : List Value} {cs : Array Value} (h : w.ownsRow base T S v n xs) (hr : RowAt w k U cs) (hne : T ≠ U) (i : Nat) (u : Value) : (w.setCell ⟨k, i, none⟩ u).ownsRow base T S v n xs := by
  refine ⟨h.1, ?_⟩
  rcases h.2 with hn | ⟨g, cap, cur, rfl, hbg, hg, rest⟩
  · exact .inl hn
  · refine .inr ⟨g, cap, cur, rfl, hbg, (heap_setCell_other w ⟨k, i, none⟩ g u ?_).trans hg, rest⟩
    rintro rfl
    unfold RowAt at hr
    rw [hr] at hg
    cases hg
    exact hne rfl
def midText (s : ByteArray) : Bool := decide (300 < s.size ∧ s.size ≤ 4096)
def fewAll (l : List Dev) : Bool := decide (l.length ≤ 128) && l.all fun d => decide (d.lb.size ≤ 100)
def fewW (y : Wre) : Bool := !(y.late.take 100).any midText && (fewAll y.devs && (decide (y.faults.length ≤ 100) || decide (4096 < y.faults.length)) && decide (y.late.length ≤ 100))

set_option maxHeartbeats 4000000 in
set_option maxRecDepth 100000 in
theorem rfew_any (q : Bool) (da fa la : Option Addr) (dn dc fn fc ln lc : Nat) (y : Wre) (w : World) (h : WireAt w (.slice da dn dc) (.slice fa fn fc) (.slice la ln lc) y) (hq : fewW y = q) :
    Calls Tryz.prog 20 #[.agg #[.slice da dn dc, .slice fa fn fc, .slice la ln lc]] w fun e w' => e = .returned (.bool q) ∧ Below w.heap.size w w' := by
  obtain rfl : fn = y.faults.length := by
    obtain ⟨a, c, e⟩ := shape_of h.faults
    cases e
    rfl
  obtain rfl : ln = y.late.length := by
    obtain ⟨a, c, e⟩ := shape_of h.late
    cases e
    rfl
  obtain ⟨W, hW⟩ : ∃ W, w.alloc (.cells #[.slice da dn dc, .slice fa y.faults.length fc, .slice la y.late.length lc] 44) = W := ⟨_, rfl⟩
  have hbW : Below w.heap.size w W := by rw [← hW]; (repeat' (first | (with_reducible exact Below.refl _ _) | (with_reducible assumption) | (with_reducible refine below_run ?_ (by assumption)) | (with_reducible refine below_of_upd ?_ (by assumption) ?_) | (with_reducible refine below_drewN ?_ _) | (with_reducible refine Below.drew ?_) | (with_reducible refine below_seven ?_ ?_) | (with_reducible refine below_six ?_ ?_) | (with_reducible refine below_one ?_ ?_) | (with_reducible refine Below.alloc ?_ ?_ _) | (with_reducible refine below_after ?_ ?_ (by assumption)) | (show _ ≤ _; first | omega | (simp; done) | (simp; omega))))
  have r0 : RowAt W w.heap.size 44 #[.slice da dn dc, .slice fa y.faults.length fc, .slice la y.late.length lc] := by rw [← hW]; exact RowAt.new _ _ _
  obtain ⟨q1, h1⟩ : ∃ q, fewAll y.devs = q := ⟨_, rfl⟩
  have H := Lib.hid (h.run hbW)
  have HB := Lib.hid hbW
  have HQ := Lib.hid hq
  have R0 := Lib.hid r0
  have H1 := Lib.hid h1
  have CF := Lib.hid (fun W hv => fewall_is q1 (.slice da dn dc) y.devs W hv H1)
  obtain ⟨x1, x2, x3, x4, x5, x6⟩ := row_facts r0
  have c0 := cell_fact r0 0
  have c1 := cell_fact r0 1
  have c2 := cell_fact r0 2
  simp only [List.getElem?_toArray] at c0 c1 c2
  clear h r0 hbW x1 hq h1
  go_enter Tryz.func20, Tryz.ntmps20
  go_upto_region 1 with fail
  clear hW
  go_wp2
  go_loopw [3] (fun i wr => ∃ k : Nat, k ≤ y.late.length ∧ k ≤ 100 ∧ i = .int .i64 k ∧ (y.late.take k).any midText = false ∧ wr = W) (fun i _ => y.late.length - (intOf i).toNat)
  case atStart => exact ⟨0, Nat.zero_le _, Nat.zero_le _, rfl, rfl, rfl⟩
  case round =>
    obtain ⟨k, hk, hk2, rfl, hall, rfl⟩ := hrel
    have HA := Lib.hid hall
    clear hall
    by_cases hgo : k < y.late.length ∧ k < 100
    · obtain ⟨hlt, hlt2⟩ := hgo
      have hlt3 : (k : Int) < (y.late.length : Int) := by omega
      have hlt4 : (k : Int) < 100 := by omega
      · rcases H.out.late with ⟨h0, _⟩ | ⟨h0, h1, b, off, cap, hv, hbl, hcel⟩
        · omega
        · cases hv
          obtain ⟨s, hs, e0⟩ := str_cell hcel k hlt
          have HT := Lib.hid (take_succ_some hs)
          have HS := Lib.hid hs
          clear hcel hs
          by_cases g1 : (300 : Int) < (s.size : Int)
          · by_cases g2 : (s.size : Int) ≤ 4096
            · have hm : midText s = true := decide_eq_true (by omega)
              have hE : fewW y = false := by
                have : (y.late.take 100).any midText = true := List.any_eq_true.2 ⟨s, List.mem_take_iff_getElem.2 ⟨k, by omega, (List.getElem?_eq_some_iff.1 HS.out).2⟩, hm⟩
                rw [fewW, this]
                rfl
              have HE := Lib.hid (HQ.out.symm.trans hE)
              clear hm hE
              go_wp2
              go_ret
              exact ⟨ret_bool HE.out.symm, HB.out⟩
            · have hm : midText s = false := decide_eq_false (by omega)
              have HM := Lib.hid hm
              clear hm
              go_wp2
              go_roundw
              case rel => exact ⟨k + 1, by omega, by omega, by go_num, by rw [HT.out, List.any_append, HA.out]; simp [HM.out], trivial⟩
              case measure => simp [intOf]; omega
          · have hm : midText s = false := decide_eq_false (by omega)
            have HM := Lib.hid hm
            clear hm
            go_wp2
            go_roundw
            case rel => exact ⟨k + 1, by omega, by omega, by go_num, by rw [HT.out, List.any_append, HA.out]; simp [HM.out], trivial⟩
            case measure => simp [intOf]; omega
    · have hk3 : k = y.late.length ∨ k = 100 := by omega
      have htk : (y.late.take 100).any midText = false := by
        rcases hk3 with e | e
        · have := HA.out
          rw [e, List.take_length] at this
          rw [List.any_eq_false] at this ⊢
          exact fun x hx => this x (List.mem_of_mem_take hx)
        · rw [← e]
          exact HA.out
      have hE : q = (q1 && (decide (y.faults.length ≤ 100) || decide (4096 < y.faults.length)) && decide (y.late.length ≤ 100)) := by rw [← HQ.out, fewW, htk, H1.out]; simp
      have HE := Lib.hid hE
      have hl1 : y.late.length ≤ 100 ∨ ¬ y.late.length ≤ 100 := Classical.em _
      have hways : (q1 = false) ∨ (q1 = true ∧ y.faults.length ≤ 100 ∧ y.late.length ≤ 100) ∨ (q1 = true ∧ y.faults.length ≤ 100 ∧ ¬ y.late.length ≤ 100) ∨ (q1 = true ∧ ¬ y.faults.length ≤ 100 ∧ 4096 < y.faults.length ∧ y.late.length ≤ 100) ∨
          (q1 = true ∧ ¬ y.faults.length ≤ 100 ∧ 4096 < y.faults.length ∧ ¬ y.late.length ≤ 100) ∨ (q1 = true ∧ ¬ y.faults.length ≤ 100 ∧ ¬ 4096 < y.faults.length) := by
        cases q1
        · exact .inl rfl
        · simp only [reduceCtorEq, false_or, true_and]
          omega
      have HW := Lib.hid hways
      have hends : (¬ (k : Int) < (y.late.length : Int)) ∨ ((k : Int) < (y.late.length : Int) ∧ ¬ (k : Int) < 100) := by omega
      have HN := Lib.hid hends
      clear hgo hk3 htk hE hl1 hways hends hk hk2
      rcases HN.out with g | ⟨g1, g2⟩
      all_goals
        rcases HW.out with rfl | ⟨rfl, f1, f2⟩ | ⟨rfl, f1, f2⟩ | ⟨rfl, f1, f2, f3⟩ | ⟨rfl, f1, f2, f3⟩ | ⟨rfl, f1, f2⟩
        · go_wp2_with fail
          refine (CF.out _ H.out.devs).mono ?_
          rintro e w1 ⟨rfl, hb1⟩
          go_wp2
          go_ret
          exact ⟨ret_bool (by rw [HE.out]; rfl), below_run HB.out hb1⟩
        · have f1' : (y.faults.length : Int) ≤ 100 := by omega
          have f2' : (y.late.length : Int) ≤ 100 := by omega
          have HV := Lib.hid (show q = true by rw [HE.out, decide_eq_true f1, decide_eq_true f2]; rfl)
          clear f1 f2
          (try (exfalso; omega))
          all_goals
            go_wp2_with fail
            refine (CF.out _ H.out.devs).mono ?_
            rintro e w1 ⟨rfl, hb1⟩
            have r1 := R0.out.run hb1
            obtain ⟨y1, y2, y3, y4, y5, y6⟩ := row_facts r1
            go_wp2
            go_ret
            exact ⟨ret_bool (by rw [HV.out]; try simp [*]), below_run HB.out hb1⟩
        · have f1' : (y.faults.length : Int) ≤ 100 := by omega
          have f2' : ¬ (y.late.length : Int) ≤ 100 := by omega
          have HV := Lib.hid (show q = false by rw [HE.out, decide_eq_true f1, decide_eq_false f2]; rfl)
          clear f1 f2
          (try (exfalso; omega))
          all_goals
            go_wp2_with fail
            refine (CF.out _ H.out.devs).mono ?_
            rintro e w1 ⟨rfl, hb1⟩
            have r1 := R0.out.run hb1
            obtain ⟨y1, y2, y3, y4, y5, y6⟩ := row_facts r1
            go_wp2
            go_ret
            exact ⟨ret_bool (by rw [HV.out]; try simp [*]), below_run HB.out hb1⟩
        · have f1' : ¬ (y.faults.length : Int) ≤ 100 := by omega
          have f2' : (4096 : Int) < (y.faults.length : Int) := by omega
          have f3' : (y.late.length : Int) ≤ 100 := by omega
          have HV := Lib.hid (show q = true by rw [HE.out, decide_eq_false f1, decide_eq_true f2, decide_eq_true f3]; rfl)
          clear f1 f2 f3
          (try (exfalso; omega))
          all_goals
            go_wp2_with fail
            refine (CF.out _ H.out.devs).mono ?_
            rintro e w1 ⟨rfl, hb1⟩
            have r1 := R0.out.run hb1
            obtain ⟨y1, y2, y3, y4, y5, y6⟩ := row_facts r1
            go_wp2
            go_ret
            exact ⟨ret_bool (by rw [HV.out]; try simp [*]), below_run HB.out hb1⟩
        · have f1' : ¬ (y.faults.length : Int) ≤ 100 := by omega
          have f2' : (4096 : Int) < (y.faults.length : Int) := by omega
          have f3' : ¬ (y.late.length : Int) ≤ 100 := by omega
          have HV := Lib.hid (show q = false by rw [HE.out, decide_eq_false f1, decide_eq_true f2, decide_eq_false f3]; rfl)
          clear f1 f2 f3
          (try (exfalso; omega))
          all_goals
            go_wp2_with fail
            refine (CF.out _ H.out.devs).mono ?_
            rintro e w1 ⟨rfl, hb1⟩
            have r1 := R0.out.run hb1
            obtain ⟨y1, y2, y3, y4, y5, y6⟩ := row_facts r1
            go_wp2
            go_ret
            exact ⟨ret_bool (by rw [HV.out]; try simp [*]), below_run HB.out hb1⟩
        · have f1' : ¬ (y.faults.length : Int) ≤ 100 := by omega
          have f2' : ¬ (4096 : Int) < (y.faults.length : Int) := by omega
          have HV := Lib.hid (show q = false by rw [HE.out, decide_eq_false f1, decide_eq_false f2]; rfl)
          clear f1 f2
          (try (exfalso; omega))
          all_goals
            go_wp2_with fail
            refine (CF.out _ H.out.devs).mono ?_
            rintro e w1 ⟨rfl, hb1⟩
            have r1 := R0.out.run hb1
            obtain ⟨y1, y2, y3, y4, y5, y6⟩ := row_facts r1
            go_wp2
            go_ret
            exact ⟨ret_bool (by rw [HV.out]; try simp [*]), below_run HB.out hb1⟩
end Go.Proofs.YtpkhcehddfmhpaaGreat

namespace Go.Proofs.YtpkhcehddfmhpaaGreat
open Go.RowKit

set_option maxHeartbeats 4000000 in
set_option maxRecDepth 100000 in
theorem wof_any (da fa la : Option Addr) (dn dc fn fc ln lc : Nat) (y : Wre) (w : World) (h : WireAt w (.slice da dn dc) (.slice fa fn fc) (.slice la ln lc) y) (hr : y.devs.length * 56 ≤ 140737488351232) :
    Calls Tryz.prog 9 #[.agg #[.slice da dn dc, .slice fa fn fc, .slice la ln lc]] w fun e w' => ∃ (a : Option Addr) (c : Nat), e = .returned (.agg #[.slice a y.devs.length c, .slice fa fn fc, .slice la ln lc]) ∧ WireAt w' (.slice a y.devs.length c) (.slice fa fn fc) (.slice la ln lc) y ∧ Below w.heap.size w w' := by
  obtain ⟨i0, hi, hz0, hz1, hz2⟩ := info_parts Tryz.info_rdev
  obtain rfl : dn = y.devs.length := by
    obtain ⟨a, c, e⟩ := shape_of h.devs
    cases e
    rfl
  obtain ⟨W, hW⟩ : ∃ W, ((w.alloc (.cells #[.slice da y.devs.length dc, .slice fa fn fc, .slice la ln lc] 29)).alloc (.cells #[.slice none 0 0, .slice none 0 0, .slice none 0 0] 44)).alloc (.cells #[.slice none 0 0, .slice fa fn fc, .slice la ln lc] 44) = W := ⟨_, rfl⟩
  have hbW : Below w.heap.size w W := by rw [← hW]; (repeat' (first | (with_reducible exact Below.refl _ _) | (with_reducible assumption) | (with_reducible refine below_run ?_ (by assumption)) | (with_reducible refine below_of_upd ?_ (by assumption) ?_) | (with_reducible refine below_drewN ?_ _) | (with_reducible refine Below.drew ?_) | (with_reducible refine below_seven ?_ ?_) | (with_reducible refine below_six ?_ ?_) | (with_reducible refine below_one ?_ ?_) | (with_reducible refine Below.alloc ?_ ?_ _) | (with_reducible refine below_after ?_ ?_ (by assumption)) | (show _ ≤ _; first | omega | (simp; done) | (simp; omega))))
  have r0 : RowAt W w.heap.size 29 #[.slice da y.devs.length dc, .slice fa fn fc, .slice la ln lc] := by rw [← hW]; exact ((RowAt.new _ _ _).alloc _).alloc _
  have r1 : RowAt W (w.heap.size + 1) 44 #[.slice none 0 0, .slice none 0 0, .slice none 0 0] := by rw [← hW]; exact (RowAt.mk (by simp) rfl).alloc _
  have r2 : RowAt W (w.heap.size + 2) 44 #[.slice none 0 0, .slice fa fn fc, .slice la ln lc] := by rw [← hW]; exact RowAt.mk (by simp) rfl
  have H := Lib.hid h
  have R1 := Lib.hid r1
  have R2 := Lib.hid r2
  have HB := Lib.hid hbW
  obtain ⟨x1, x2, x3, x4, x5, x6⟩ := row_facts r0
  have c0 := cell_fact r0 0
  simp only [List.getElem?_toArray] at c0
  have hz3 : (y.devs.length : Int) ≤ 140737488351232 := by omega
  have hWz : w.heap.size + 3 = W.heap.size := by rw [← hW]; simp
  clear h r0 r1 r2 hbW x1
  go_enter Tryz.func9, Tryz.ntmps9
  go_upto_region 2 with fail
  clear hW
  rw [show w.heap.size + 1 + 1 = w.heap.size + 2 from rfl]
  go_wp2
  go_loopw [14] (fun i wr => ∃ (k : Nat) (v : Value), k ≤ y.devs.length ∧ i = .int .i64 k ∧ RowAt wr (w.heap.size + 2) 44 #[v, .slice fa fn fc, .slice la ln lc] ∧ wr.ownsRow W.heap.size 92 7 v k (devsL (y.devs.take k)) ∧ (∃ a n c, v = .slice a n c) ∧ RowAt wr (w.heap.size + 1) 44 #[.slice none 0 0, .slice none 0 0, .slice none 0 0] ∧ Below w.heap.size w wr ∧ W.heap.size ≤ wr.heap.size) (fun i _ => y.devs.length - (intOf i).toNat)
  case atStart => exact ⟨0, _, Nat.zero_le _, rfl, R2.out, World.ownsRow_nil _ _ _ _, ⟨_, _, _, rfl⟩, R1.out, HB.out, Nat.le_refl _⟩
  case round =>
    obtain ⟨k, v, hk, rfl, hr2, hown, ⟨va, vn, vc, rfl⟩, hr1, hb0, hzr⟩ := hrel
    by_cases hlt2 : k < y.devs.length
    · have hlt3 : (k : Int) < (y.devs.length : Int) := by omega
      have hw1 : ∃ b off cap, Value.slice da y.devs.length dc = .slice (some ⟨b, off, none⟩) y.devs.length cap ∧ ∀ i, i < y.devs.length * 7 → wr.cell? ⟨b, off + i, none⟩ = devsC y.devs i := by
        rcases H.out.devs.below hb0 with ⟨h0, _⟩ | ⟨h0, h1, b, off, cap, hv, hbl, hcel⟩
        · omega
        · exact ⟨b, off, cap, hv, hcel⟩
      obtain ⟨b, off, cap, hve, hcel⟩ := hw1
      cases hve
      obtain ⟨d, hd, e0, e1, e2, e3, e4, e5, e6⟩ := dev_cells hcel k hlt2
      have HT := Lib.hid (take_succ_some hd)
      have HR1 := Lib.hid hr1
      have HR2 := Lib.hid hr2
      obtain ⟨y1, y2, y3, y4, y5, y6⟩ := row_facts hr2
      have g0 := cell_fact hr2 0
      simp only [List.getElem?_toArray] at g0
      clear hcel hd hr1 hr2 y1
      go_wp2_with (at_builtin; refine wpList_append_own _ rfl _ _ 42 rfl W.heap.size 92 i0 _ 7 56 Tryz.underlying42 hi hz0 hz1 hz2 rfl (by decide) _ _ _ rfl ((hown.alloc _).alloc _) ⟨wr.heap.size + 1, 0, none⟩ 1 1 (devA d).toList rfl rfl ?c1 (dev_ones d) ?c3 ?c4 ?c5 ?_)
      case c1 => exact dev_news (d := d) (RowAt.mk (by simp) rfl)
      case c3 => unfold maxLen; omega
      case c4 => omega
      case c5 => simp; omega
      · intro v' w1 hown' hgrow _
        have hd2 : devsL (y.devs.take (k + 1)) = devsL (y.devs.take k) ++ [Value.int IntKind.u64 d.id, Value.int IntKind.i64 d.ft, Value.int IntKind.i64 d.ad, Value.string d.lb, Value.int IntKind.i64 d.hr, Value.bool d.mu, Value.bool d.idf] := by
          rw [HT.out, devsL_append]; rfl
        have hr2w := row_two ((hown.alloc _).alloc _) ((HR2.out.alloc _).alloc _) (by decide) hgrow
        have hr1w := row_two ((hown.alloc _).alloc _) ((HR1.out.alloc _).alloc _) (by decide) hgrow
        have hb1 := below_grown (((hb0.alloc (by omega) _).alloc (by simp; omega) _)) ((hown.alloc _).alloc _) (by omega) hgrow (by simp; omega)
        have hz1 := hgrow.size
        obtain ⟨z1, z2, z3, z4, z5, z6⟩ := row_facts hr2w
        rw [← hd2] at hown'
        have HR1W := Lib.hid hr1w
        have HR2W := Lib.hid hr2w
        have HB1 := Lib.hid hb1
        have HO := Lib.hid hown'
        obtain ⟨ua, un, uc, rfl⟩ := own_slice hown'
        clear hgrow hown hd2 hr2w hr1w hb1 hown' e0 e1 e2 e3 e4 e5 e6 g0 y2 y3 y4 y5 y6
        go_wp2
        go_roundw
        case rel =>
          refine ⟨k + 1, _, by omega, by go_num, RowAt.set HR2W.out rfl, own_far HO.out HR2W.out (by decide) _ _, ⟨_, _, _, rfl⟩, HR1W.out.far1 (by omega), below_one HB1.out (by omega), ?_⟩
          simp at hz1 ⊢
          omega
        case measure => simp [intOf]; omega
    · obtain rfl : k = y.devs.length := by omega
      rw [List.take_length] at hown
      have hdv := own_devs hown (by omega)
      have hrm : RoomOk (.slice va vn vc) := typed_room (typed_own hown) hdv
      obtain rfl : vn = y.devs.length := by
        obtain ⟨a, c, e⟩ := shape_of hdv
        cases e
        rfl
      have hF : RowAt (((wr.setCell ⟨w.heap.size + 1, 0, none⟩ (.slice va y.devs.length vc)).setCell ⟨w.heap.size + 1, 1, none⟩ (.slice fa fn fc)).setCell ⟨w.heap.size + 1, 2, none⟩ (.slice la ln lc)) (w.heap.size + 1) 44 #[.slice va y.devs.length vc, .slice fa fn fc, .slice la ln lc] := RowAt.set (RowAt.set (RowAt.set hr1 rfl) rfl) rfl
      have hbF : Below w.heap.size w (((wr.setCell ⟨w.heap.size + 1, 0, none⟩ (.slice va y.devs.length vc)).setCell ⟨w.heap.size + 1, 1, none⟩ (.slice fa fn fc)).setCell ⟨w.heap.size + 1, 2, none⟩ (.slice la ln lc)) := below_one (below_one (below_one hb0 (by omega)) (by omega)) (by omega)
      have hw' := H.out.run hbF
      have hdF : DevsAt (((wr.setCell ⟨w.heap.size + 1, 0, none⟩ (.slice va y.devs.length vc)).setCell ⟨w.heap.size + 1, 1, none⟩ (.slice fa fn fc)).setCell ⟨w.heap.size + 1, 2, none⟩ (.slice la ln lc)) (.slice va y.devs.length vc) y.devs := own_devs (own_far (own_far (own_far hown hr1 (by decide) _ _) (RowAt.set hr1 rfl) (by decide) _ _) (RowAt.set (RowAt.set hr1 rfl) rfl) (by decide) _ _) (by omega)
      have HW := Lib.hid (show WireAt _ (.slice va y.devs.length vc) (.slice fa fn fc) (.slice la ln lc) y from ⟨hdF, hrm, hw'.faults, hw'.late⟩)
      have HBF := Lib.hid hbF
      have f0 := cell_fact hF 0
      have f1 := cell_fact hF 1
      have f2 := cell_fact hF 2
      simp only [List.getElem?_toArray] at f0 f1 f2
      have g0 := cell_fact hr2 0
      have g1 := cell_fact hr2 1
      have g2 := cell_fact hr2 2
      simp only [List.getElem?_toArray] at g0 g1 g2
      obtain ⟨y1, y2, y3, y4, y5, y6⟩ := row_facts hr1
      clear hdv hrm hF hbF hw' hdF hown hr2 hr1 hb0
      go_wp2
      refine bodyPost_ret (v := .agg #[.slice va y.devs.length vc, .slice fa fn fc, .slice la ln lc]) ?_ rfl ⟨va, vc, rfl, HW.out, HBF.out⟩
      simp [results, Tryz.results9, go_sem, f0, f1, f2]
end Go.Proofs.YtpkhcehddfmhpaaGreat
