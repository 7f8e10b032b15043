/-
  Lists of ranges that are the same; the top's check of a small set.
-/
import Derived.Test.YtndkpdiacabjgaaGreatDoorGo
namespace Go.Proofs.YtndkpdiacabjgaaGreatDoor
open Go.RowKit

set_option maxHeartbeats 2000000 in
set_option maxRecDepth 100000 in
theorem gequal_same (l : List (Int × Int)) (v v' : Value) (w : World) (h : RngsAt w v l) (h' : RngsAt w v' l) :
    Calls Tryz.prog 16 #[v, v'] w fun e w' => e = .returned (.bool true) ∧ Below w.heap.size w w' := by
  rcases h with ⟨h0, a, cap, rfl⟩ | ⟨h0, h1, b, off, cap, rfl, hlt, hc⟩
  · rcases h' with ⟨h0', a', cap', rfl⟩ | ⟨h0', _⟩
    · clear h0 h0'
      go_enter Tryz.func16, Tryz.ntmps16
      go_wp2
      refine wp_loop_rounds 1 ?_
      rw [rounds_succ]
      go_wp2
      go_ret
      exact ⟨rfl, Below.refl _ _⟩
    · omega
  · rcases h' with ⟨h0', _⟩ | ⟨h0', h1', b', off', cap', rfl, hlt', hc'⟩
    · omega
    · have HC := Lib.hid hc
      have HC' := Lib.hid hc'
      have hl1 : (l.length : Int) ≤ 140737488351232 := by omega
      clear hc hc' h1 h1' h0'
      go_enter Tryz.func16, Tryz.ntmps16
      go_wp2
      go_loopw [5, 13] (fun _ i wr => ∃ k : Nat, k ≤ l.length ∧ i = .int .i64 k ∧ ∃ m, wr = w.drewN m) (fun _ i _ => l.length - (intOf i).toNat)
      case atStart => exact ⟨0, Nat.zero_le _, rfl, 0, rfl⟩
      case round =>
        obtain ⟨k, hk, rfl, m, rfl⟩ := hrel
        by_cases hlt2 : k < l.length
        · have hlt3 : (k : Int) < (l.length : Int) := by omega
          have hk0 : (0 : Int) ≤ (k : Int) := by omega
          obtain ⟨e1, e2⟩ := rng_cells HC.out k hlt2
          obtain ⟨f1, f2⟩ := rng_cells HC'.out k hlt2
          obtain ⟨x, hx⟩ : ∃ x, l[k].1 = x := ⟨_, rfl⟩
          obtain ⟨y, hy⟩ : ∃ y, l[k].2 = y := ⟨_, rfl⟩
          rw [hx] at e1 f1
          rw [hy] at e2 f2
          clear hx hy
          go_wp2_with fail
          go_quiet (fail)
          go_wp2
          go_roundw
          case rel => exact ⟨k + 1, by omega, by go_num, _, rfl⟩
          case measure => simp [intOf]; omega
        · obtain rfl : k = l.length := by omega
          go_wp2
          go_ret
          exact ⟨rfl, by (repeat' (first | (with_reducible exact Below.refl _ _) | (with_reducible assumption) | (with_reducible refine below_drewN ?_ _) | (with_reducible refine Below.drew ?_) | (with_reducible refine Below.setCell ?_ ?_ _) | (with_reducible refine Below.alloc ?_ ?_ _) | (with_reducible refine below_after ?_ ?_ (by assumption)) | (show _ ≤ _; first | omega | (simp; done) | (simp; omega))))⟩

set_option maxHeartbeats 1000000 in
set_option maxRecDepth 100000 in
theorem rright06_any (a b : Int) (w : World) :
    Calls Tryz.prog 53 #[.agg #[.int .i64 a, .int .i64 b]] w fun e w' => e = .returned (.bool (rightG (a, b))) ∧ Below w.heap.size w w' := by
  go_enter Tryz.func53, Tryz.ntmps53
  go_wp2
  all_goals go_ret
  all_goals exact ⟨ret_bool (by grind [rightG]), by (repeat' (first | (with_reducible exact Below.refl _ _) | (with_reducible assumption) | (with_reducible refine below_run ?_ (by assumption)) | (with_reducible refine below_of_upd ?_ (by assumption) ?_) | (with_reducible refine below_drewN ?_ _) | (with_reducible refine Below.drew ?_) | (with_reducible refine below_seven ?_ ?_) | (with_reducible refine below_six ?_ ?_) | (with_reducible refine below_one ?_ ?_) | (with_reducible refine Below.alloc ?_ ?_ _) | (with_reducible refine below_after ?_ ?_ (by assumption)) | (show _ ≤ _; first | omega | (simp; done) | (simp; omega))))⟩
theorem rright06_is (q : Bool) (a b : Int) (w : World) (h : Hid (rightG (a, b) = q)) :
    Calls Tryz.prog 53 #[.agg #[.int .i64 a, .int .i64 b]] w fun e w' => e = .returned (.bool q) ∧ Below w.heap.size w w' := by
  have := rright06_any a b w
  rw [h.out] at this
  exact this

set_option maxHeartbeats 2000000 in
set_option maxRecDepth 100000 in
theorem rcheck06_any (l : List (Int × Int)) (v : Value) (w : World) (h : RngsAt w v l) :
    Calls Tryz.prog 31 #[v] w fun e w' => e = .returned (.int .i64 (chkG none l)) ∧ Below w.heap.size w w' := by
  rcases h with ⟨h0, a, cap, rfl⟩ | ⟨h0, h1, b, off, cap, rfl, hlt, hc⟩
  · have hl : l = [] := List.eq_nil_of_length_eq_zero h0
    subst hl
    go_enter Tryz.func31, Tryz.ntmps31
    go_wp2
    refine wp_loop_rounds 1 ?_
    rw [rounds_succ]
    go_wp2
    go_ret
    exact ⟨rfl, by (repeat' (first | (with_reducible exact Below.refl _ _) | (with_reducible assumption) | (with_reducible refine below_run ?_ (by assumption)) | (with_reducible refine below_of_upd ?_ (by assumption) ?_) | (with_reducible refine below_drewN ?_ _) | (with_reducible refine Below.drew ?_) | (with_reducible refine below_seven ?_ ?_) | (with_reducible refine below_six ?_ ?_) | (with_reducible refine below_one ?_ ?_) | (with_reducible refine Below.alloc ?_ ?_ _) | (with_reducible refine below_after ?_ ?_ (by assumption)) | (show _ ≤ _; first | omega | (simp; done) | (simp; omega))))⟩
  · have HC := Lib.hid hc
    have hl1 : (l.length : Int) ≤ 140737488351232 := by omega
    clear hc h1
    go_enter Tryz.func31, Tryz.ntmps31
    go_wp2
    go_loopw [3] (fun i wr => ∃ k : Nat, k ≤ l.length ∧ i = .int .i64 k ∧ Hid (chkG none l = chkG (prevG l k) (l.drop k)) ∧ Hid (∀ j (hj : j < l.length), j < k → rightG l[j] = true) ∧ Below w.heap.size w wr) (fun i _ => l.length - (intOf i).toNat)
    case atStart => exact ⟨0, Nat.zero_le _, rfl, by simp [Hid, prevG], fun j hj h => absurd h (by omega), Below.refl _ _⟩
    case round =>
      obtain ⟨k, hk, rfl, HE, HR, hb0⟩ := hrel
      by_cases hlt2 : k < l.length
      · have hlt3 : (k : Int) < (l.length : Int) := by omega
        have hk0 : (0 : Int) ≤ (k : Int) := by omega
        have hsz := hb0.size
        have hblt : b < wr.heap.size := by omega
        have hc' : ∀ j, j < l.length * 2 → wr.cell? ⟨b, off + j, none⟩ = rngsC l j := fun j hj => (hb0.cell (p := ⟨b, off + j, none⟩) hlt).trans (HC.out j hj)
        obtain ⟨e1, e2⟩ := rng_cells hc' k hlt2
        obtain ⟨x, hx⟩ : ∃ x, l[k].1 = x := ⟨_, rfl⟩
        obtain ⟨y, hy⟩ : ∃ y, l[k].2 = y := ⟨_, rfl⟩
        rw [hx] at e1
        rw [hy] at e2
        have HXY : Hid (l[k] = (x, y)) := Lib.hid (by rw [← hx, ← hy])
        obtain ⟨q, hq⟩ : ∃ q, rightG (x, y) = q := ⟨_, rfl⟩
        have HQ := Lib.hid hq
        cases q with
        | false =>
          have HZ := Lib.hid (chkG_bad l k hlt2 (by rw [HXY.out]; exact hq))
          clear hc' hq hx hy
          go_wp2_with fail
          refine (rright06_is false x y _ HQ).mono ?_
          rintro e w1 ⟨rfl, hb⟩
          go_wp2
          go_ret
          exact ⟨by rw [HE.out, HZ.out]; rfl, by (repeat' (first | (with_reducible exact Below.refl _ _) | (with_reducible assumption) | (with_reducible refine below_run ?_ (by assumption)) | (with_reducible refine below_of_upd ?_ (by assumption) ?_) | (with_reducible refine below_drewN ?_ _) | (with_reducible refine Below.drew ?_) | (with_reducible refine below_seven ?_ ?_) | (with_reducible refine below_six ?_ ?_) | (with_reducible refine below_one ?_ ?_) | (with_reducible refine Below.alloc ?_ ?_ _) | (with_reducible refine below_after ?_ ?_ (by assumption)) | (show _ ≤ _; first | omega | (simp; done) | (simp; omega))))⟩
        | true =>
          obtain ⟨q1, q2, q3⟩ := gright_hid hq
          have HR' : Hid (∀ j (hj : j < l.length), j < k + 1 → rightG l[j] = true) := by
            intro j hj h
            rcases Nat.lt_or_eq_of_le (Nat.le_of_lt_succ h) with h' | rfl
            · exact HR.out j hj h'
            · rw [HXY.out]; exact hq
          by_cases hz : k = 0
          · have HN := Lib.hid (chkG_step l k hlt2 (by rw [HXY.out]; exact hq) (.inl hz))
            have hg : decide ((0 : Int) < (k : Int)) = false := by rw [hz]; rfl
            have hg2 : decide (0 < k) = false := by rw [hz]; rfl
            clear hc' hq hx hy hz
            go_wp2_with fail
            refine (rright06_is true x y _ HQ).mono ?_
            rintro e w1 ⟨rfl, hb⟩
            go_wp2_with fail
            go_quiet (fail)
            go_wp2
            go_roundw
            case rel => exact ⟨k + 1, by omega, by go_num, by show _ = _; rw [HE.out, HN.out], HR', by (repeat' (first | (with_reducible exact Below.refl _ _) | (with_reducible assumption) | (with_reducible refine below_run ?_ (by assumption)) | (with_reducible refine below_of_upd ?_ (by assumption) ?_) | (with_reducible refine below_drewN ?_ _) | (with_reducible refine Below.drew ?_) | (with_reducible refine below_seven ?_ ?_) | (with_reducible refine below_six ?_ ?_) | (with_reducible refine below_one ?_ ?_) | (with_reducible refine Below.alloc ?_ ?_ _) | (with_reducible refine below_after ?_ ?_ (by assumption)) | (show _ ≤ _; first | omega | (simp; done) | (simp; omega))))⟩
            case measure => simp [intOf]; omega
          · have hkm : k - 1 < l.length := by omega
            have hkm2 : ((k : Int) - 1).toNat = k - 1 := by omega
            have hkm3 : (k : Int) - 1 < (l.length : Int) := by omega
            have hkm4 : (0 : Int) ≤ (k : Int) - 1 := by omega
            have hkm5 : IntKind.i64.wrap ((k : Int) - 1) = (k : Int) - 1 := IntWalk.i64_in _ (by omega)
            obtain ⟨f1, f2⟩ := rng_cells hc' (k - 1) hkm
            have hpr := rightG_iff.1 (HR.out (k - 1) hkm (by omega))
            obtain ⟨z, hzz⟩ : ∃ z, l[k - 1].2 = z := ⟨_, rfl⟩
            have hz0 : 1 ≤ z ∧ z ≤ 999 := by omega
            have hz1 : IntKind.i64.wrap (z + 2) = z + 2 := IntWalk.i64_in _ (by omega)
            rw [hzz] at f2
            have hg : decide ((0 : Int) < (k : Int)) = true := by simp; omega
            have hg2 : decide (0 < k) = true := by simp; omega
            by_cases ho : x < z + 2
            · have HZ := Lib.hid (chkG_ord l k hlt2 hz (by rw [HXY.out]; exact hq) hkm (by rw [hzz, HXY.out]; exact ho))
              clear hc' hq hx hy hpr hzz f1
              go_wp2_with fail
              refine (rright06_is true x y _ HQ).mono ?_
              rintro e w1 ⟨rfl, hb⟩
              have f3 : w1.cell? ⟨b, off + (k - 1) * 2 + 1, none⟩ = some (.int .i64 z) := (hb.cell (p := ⟨b, _, none⟩) hblt).trans f2
              have f4 : w1.cell? ⟨b, off + k * 2, none⟩ = some (.int .i64 x) := (hb.cell (p := ⟨b, _, none⟩) hblt).trans e1
              clear f2 e1 e2
              go_wp2_with fail
              go_quiet (fail)
              go_wp2
              go_ret
              exact ⟨by rw [HE.out, HZ.out]; rfl, by (repeat' (first | (with_reducible exact Below.refl _ _) | (with_reducible assumption) | (with_reducible refine below_run ?_ (by assumption)) | (with_reducible refine below_of_upd ?_ (by assumption) ?_) | (with_reducible refine below_drewN ?_ _) | (with_reducible refine Below.drew ?_) | (with_reducible refine below_seven ?_ ?_) | (with_reducible refine below_six ?_ ?_) | (with_reducible refine below_one ?_ ?_) | (with_reducible refine Below.alloc ?_ ?_ _) | (with_reducible refine below_after ?_ ?_ (by assumption)) | (show _ ≤ _; first | omega | (simp; done) | (simp; omega))))⟩
            · have HN := Lib.hid (chkG_step l k hlt2 (by rw [HXY.out]; exact hq) (.inr ⟨hkm, by rw [hzz, HXY.out]; exact ho⟩))
              clear hc' hq hx hy hpr hzz f1
              go_wp2_with fail
              refine (rright06_is true x y _ HQ).mono ?_
              rintro e w1 ⟨rfl, hb⟩
              have f3 : w1.cell? ⟨b, off + (k - 1) * 2 + 1, none⟩ = some (.int .i64 z) := (hb.cell (p := ⟨b, _, none⟩) hblt).trans f2
              have f4 : w1.cell? ⟨b, off + k * 2, none⟩ = some (.int .i64 x) := (hb.cell (p := ⟨b, _, none⟩) hblt).trans e1
              clear f2 e1 e2
              go_wp2_with fail
              go_quiet (fail)
              go_wp2
              go_roundw
              case rel => exact ⟨k + 1, by omega, by go_num, by show _ = _; rw [HE.out, HN.out], HR', by (repeat' (first | (with_reducible exact Below.refl _ _) | (with_reducible assumption) | (with_reducible refine below_run ?_ (by assumption)) | (with_reducible refine below_of_upd ?_ (by assumption) ?_) | (with_reducible refine below_drewN ?_ _) | (with_reducible refine Below.drew ?_) | (with_reducible refine below_seven ?_ ?_) | (with_reducible refine below_six ?_ ?_) | (with_reducible refine below_one ?_ ?_) | (with_reducible refine Below.alloc ?_ ?_ _) | (with_reducible refine below_after ?_ ?_ (by assumption)) | (show _ ≤ _; first | omega | (simp; done) | (simp; omega))))⟩
              case measure => simp [intOf]; omega
      · obtain rfl : k = l.length := by omega
        go_wp2
        go_ret
        exact ⟨by rw [HE.out, List.drop_length, chkG_end]; rfl, hb0⟩

theorem rcheck06_is (n : Int) (l : List (Int × Int)) (v : Value) (w : World) (h : RngsAt w v l) (hn : Hid (chkG none l = n)) :
    Calls Tryz.prog 31 #[v] w fun e w' => e = .returned (.int .i64 n) ∧ Below w.heap.size w w' := by
  have := rcheck06_any l v w h
  rw [hn.out] at this
  exact this

theorem Tryz.info_rng06 : (Tryz.prog.info? 60).map (fun i => (i.zero, i.size, i.bytes)) = some (some (.agg #[.int .i64 0, .int .i64 0]), 2, 16) := by kernel_rfl

set_option maxHeartbeats 4000000 in
set_option maxRecDepth 100000 in
theorem pset_any (l : List (Int × Int)) (v : Value) (w : World) (h : RngsAt w v l) (hr : l.length * 16 ≤ 140737488351232) :
    Calls Tryz.prog 12 #[v] w fun e w' => e = .returned (.bool (decide (l.length ≤ 30) && decide (chkG none l = 0))) ∧ Below w.heap.size w w' := by
  obtain ⟨i0, hi, hz0, hz1, hz2⟩ := info_parts Tryz.info_rng06
  have H := Lib.hid h
  have hz3 : (l.length : Int) ≤ 140737488351232 := by omega
  obtain ⟨va, vc, e⟩ := seq_shape h
  subst e
  obtain ⟨E, hE⟩ : ∃ E, chkG none l = E := ⟨_, rfl⟩
  have HE := Lib.hid (show Hid (chkG none l = E) from Lib.hid hE)
  obtain ⟨Q, hQ⟩ : ∃ Q, (decide (l.length ≤ 30) && decide (chkG none l = 0)) = Q := ⟨_, rfl⟩
  rw [hQ]
  rw [hE] at hQ
  have HQ := Lib.hid hQ
  clear h hE hQ
  go_enter Tryz.func12, Tryz.ntmps12
  go_wp2
  go_loopw [3, 5, 8] (fun v _ i wr => ∃ k : Nat, k ≤ l.length ∧ i = .int .i64 k ∧ wr.ownsRow w.heap.size 60 2 v k (rngsL (l.take k)) ∧ Below w.heap.size w wr) (fun _ _ i _ => l.length - (intOf i).toNat)
  case atStart => exact ⟨0, Nat.zero_le _, rfl, World.ownsRow_nil _ _ _ _, Below.refl _ _⟩
  case round =>
    obtain ⟨k, hk, rfl, hown, hb0⟩ := hrel
    by_cases hlt2 : k < l.length
    · have hlt3 : (k : Int) < (l.length : Int) := by omega
      have hk0 : (0 : Int) ≤ (k : Int) := by omega
      have hw1 : ∃ b off cap, Value.slice va l.length vc = .slice (some ⟨b, off, none⟩) l.length cap ∧ ∀ i, i < l.length * 2 → wr.cell? ⟨b, off + i, none⟩ = rngsC l i := by
        rcases (SeqAt.below H.out hb0 : RngsAt wr _ l) with ⟨h0, _⟩ | ⟨h0, h1, b, off, cap, hv, hbl, hcel⟩
        · omega
        · exact ⟨b, off, cap, hv, hcel⟩
      obtain ⟨b, off, cap, hve, hcel⟩ := hw1
      cases hve
      obtain ⟨e1, e2⟩ := rng_cells hcel k hlt2
      have HT : Hid (l.take (k + 1) = l.take k ++ [l[k]]) := Lib.hid (List.take_succ_eq_append_getElem hlt2)
      obtain ⟨x, hx⟩ : ∃ x, l[k].1 = x := ⟨_, rfl⟩
      obtain ⟨y, hy⟩ : ∃ y, l[k].2 = y := ⟨_, rfl⟩
      have hXY : l[k] = (x, y) := by rw [← hx, ← hy]
      rw [hXY] at HT
      rw [hx] at e1
      rw [hy] at e2
      have hsz := hb0.size
      clear hcel hx hy hXY
      go_wp2_with (at_builtin; refine wpList_append_own _ rfl _ _ 59 rfl w.heap.size 60 i0 _ 2 16 Tryz.underlying59 hi hz0 hz1 hz2 rfl (by decide) _ _ _ rfl ((hown.alloc _).alloc _) ⟨wr.heap.size + 1, 0, none⟩ 1 1 (rngA (x, y)).toList rfl rfl ?c1 (rng_ones (x, y)) ?c3 ?c4 ?c5 ?_)
      case c1 => exact rng_news (r := (x, y)) (RowAt.mk (by simp) rfl)
      case c3 => unfold maxLen; omega
      case c4 => omega
      case c5 => simp; omega
      · intro v' w1 hown' hgrow _
        have hb1 := below_grown (((hb0.alloc (by omega) _).alloc (by simp; omega) _)) ((hown.alloc _).alloc _) (by omega) hgrow (by simp; omega)
        have hownN : w1.ownsRow w.heap.size 60 2 v' (k + 1) (rngsL (l.take (k + 1))) := by rw [HT.out, rngsL_append]; exact hown'
        clear hgrow hown hown' e1 e2
        go_wp2
        go_roundw
        case rel => exact ⟨k + 1, by omega, by go_num, hownN, hb1⟩
        case measure => simp [intOf]; omega
    · obtain rfl : k = l.length := by omega
      rw [List.take_length] at hown
      have hdv := own_rngs hown (by omega)
      have CD := Lib.hid (rcheck06_is E l _ wr hdv HE.out)
      have HB := Lib.hid hb0
      obtain ⟨va', vc', e⟩ := seq_shape hdv
      subst e
      by_cases h8 : l.length ≤ 30
      · have h8' : (l.length : Int) ≤ 30 := by omega
        have e1 : decide (l.length ≤ 30) = true := by simpa using h8
        have hq := HQ.out
        rw [e1, Bool.true_and] at hq
        have HQ2 := Lib.hid hq
        clear hown hdv hb0 h8 e1 hq HQ
        go_wp2_with fail
        refine CD.out.mono ?_
        rintro e w1 ⟨rfl, hb1⟩
        go_wp2
        go_ret
        exact ⟨by rw [← HQ2.out]; rfl, below_run HB.out hb1⟩
      · have h8' : ¬ (l.length : Int) ≤ 30 := by omega
        have e1 : decide (l.length ≤ 30) = false := by simpa using h8
        have hq := HQ.out
        rw [e1, Bool.false_and] at hq
        have HQ2 := Lib.hid hq
        clear hown hdv hb0 h8 e1 hq HQ
        go_wp2
        go_ret
        exact ⟨by rw [← HQ2.out]; rfl, HB.out⟩
end Go.Proofs.YtndkpdiacabjgaaGreatDoor
