/-
  The number between two numbers: the reference.
-/
import Derived.Test.YtnkgpfcoidilnaaDoorM5
namespace Go.Proofs.YtnkgpfcoidilnaaDoor
open Go.RowKit

theorem rcmp5_is (c n : Int) (a b : ByteArray) (w : World) (ha : a.size ≤ 9223372036854775806) (hb : b.size ≤ 9223372036854775806) (h : Hid (cmp5 a.data.toList b.data.toList = (c, n))) :
    Calls Tryd.prog 19 #[.string a, .string b] w fun e w' => e = .returned (.tuple #[.int .i64 c, .int .i64 n]) ∧ Below w.heap.size w w' := by
  have := rcmp5_any a b w ha hb
  rw [h.out] at this
  exact this

theorem ord_ge (x y : Int) (h : y ≤ x) : 0 ≤ ord5 x y := by
  unfold ord5
  rw [if_neg (by omega)]
  split <;> decide
theorem ord_lt (x y : Int) (h : ¬ y ≤ x) : ord5 x y = -1 := by rw [ord5, if_pos (by omega)]

set_option maxHeartbeats 2000000 in
set_option maxRecDepth 100000 in
theorem rbet5_any (a b : ByteArray) (w : World) (ha : a.size ≤ 9223372036854775806) (hb : b.size ≤ 9223372036854775806) :
    Calls Tryd.prog 21 #[.string a, .string b] w fun e w' => e = .returned (strE (bet5 a.data.toList b.data.toList)) ∧ Below w.heap.size w w' := by
  obtain ⟨n, hn⟩ : ∃ n, chk5 a.data.toList = n := ⟨_, rfl⟩
  obtain ⟨m, hm⟩ : ∃ m, chk5 b.data.toList = m := ⟨_, rfl⟩
  by_cases h0 : n = 0
  · subst h0
    by_cases m0 : m = 0
    · subst m0
      have C := fun W => rcmp5_is _ _ a b W ha hb (cmp_ab hn hm)
      have V1 := fun W => rvalue5_any a W ha hn
      have V2 := fun W => rvalue5_any b W hb hm
      rw [bet_ab hn hm]
      have v1 := val_bound hn
      have v2 := val_bound hm
      obtain ⟨x, hx⟩ : ∃ x : Int, (val5 a.data.toList : Int) = x := ⟨_, rfl⟩
      obtain ⟨y, hy⟩ : ∃ y : Int, (val5 b.data.toList : Int) = y := ⟨_, rfl⟩
      rw [hx, hy] at C ⊢
      rw [hx] at V1
      rw [hy] at V2
      have x0 : 0 ≤ x := by omega
      have x1 : x ≤ 9999999 := by omega
      have y1 : y ≤ 9999999 := by omega
      have HC := Lib.hid C
      have HV1 := Lib.hid V1
      have HV2 := Lib.hid V2
      clear C V1 V2 hn hm ha hb v1 v2 hx hy
      by_cases hle : y ≤ x
      · rw [if_pos hle]
        have ho := ord_ge x y hle
        obtain ⟨c, hc⟩ : ∃ c, ord5 x y = c := ⟨_, rfl⟩
        rw [hc] at ho HC
        clear x0 x1 y1 hle hc
        go_enter Tryd.func21, Tryd.ntmps21
        go_wp2_with fail
        refine (HC.out _).mono ?_
        rintro e w1 ⟨rfl, hb1⟩
        go_wp2
        go_ret2
        exact ⟨rfl, hb1⟩
      · rw [if_neg hle]
        rw [ord_lt x y hle] at HC
        go_enter Tryd.func21, Tryd.ntmps21
        go_wp2_with fail
        refine (HC.out _).mono ?_
        rintro e w1 ⟨rfl, hb1⟩
        have HB := Lib.hid hb1
        go_wp2
        go_loopw [8] (fun u wr => ∃ k : Nat, k ≤ 4 ∧ u = .int .i64 (units k) ∧ Hid (∀ j, j < k → y ≤ nextM x (units j)) ∧ Below w.heap.size w wr) (fun u _ => (intOf u).toNat)
        case atStart => exact ⟨0, by omega, rfl, fun j hj => absurd hj (by omega), by (repeat' (first | (with_reducible exact Below.refl _ _) | (with_reducible assumption) | (with_reducible refine below_drewN ?_ _) | (with_reducible refine Below.drew ?_) | (with_reducible refine Below.setCell ?_ ?_ _) | (with_reducible refine Below.alloc ?_ ?_ _) | (with_reducible refine below_after ?_ ?_ (by assumption)) | (show _ ≤ _; first | omega | (simp; done) | (simp; omega))))⟩
        case round =>
          obtain ⟨k, hk, rfl, hno, hbr⟩ := hrel
          by_cases hk4 : k < 4
          · obtain ⟨u0, u1, u2⟩ := unit_pos k hk4
            obtain ⟨n0, n1, n2, n3⟩ := nextM_in x (units k) x0 x1 u0 u1
            have HBA := Lib.hid (betV_at x y k hk4 hno.out)
            have HNO : Hid (y ≤ nextM x (units k) → ∀ j, j < k + 1 → y ≤ nextM x (units j)) := fun h j hj => by
              rcases Nat.lt_or_eq_of_le (Nat.le_of_lt_succ hj) with h' | h'
              · exact hno.out j h'
              · rw [h']; exact h
            obtain ⟨u, hu⟩ : ∃ u, units k = u := ⟨_, rfl⟩
            obtain ⟨u', hu'⟩ : ∃ u, units (k + 1) = u := ⟨_, rfl⟩
            have HU' := Lib.hid hu'
            rw [hu] at u0 u1 u2 n0 n1 n2 n3 HBA HNO ⊢
            rw [hu'] at u2
            have hq : (x / u + 1) * u = nextM x u := rfl
            have hd0 : 0 ≤ x / u := Int.ediv_nonneg x0 (by omega)
            have hd1 : x / u ≤ x := Int.ediv_le_self u x0
            obtain ⟨t, ht⟩ : ∃ t, nextM x u = t := ⟨_, rfl⟩
            rw [ht] at n0 n1 hq HBA HNO
            have ht1 : x.tdiv u = x / u := Int.tdiv_eq_ediv_of_nonneg x0
            have ht2 : u.tdiv 10 = u / 10 := Int.tdiv_eq_ediv_of_nonneg (by omega)
            have w1 : IntKind.i64.wrap (x / u) = x / u := IntWalk.i64_in _ (by omega)
            have w2 : IntKind.i64.wrap (x / u + 1) = x / u + 1 := IntWalk.i64_in _ (by omega)
            have w4 : IntKind.i64.wrap t = t := IntWalk.i64_in _ (by omega)
            have w3 : IntKind.i64.wrap u' = u' := IntWalk.i64_in _ (by omega)
            have hun : ¬ u = 0 := by omega
            have HDEC : Hid (u'.toNat < u.toNat) := by show u'.toNat < u.toNat; omega
            have HTY : Hid (t < y → of5 t = (named t.toNat, 0) ∧ (t = (t.toNat : Int)) ∧ t.toNat ≤ 9999999) := fun h => ⟨of5_in (by omega) (by omega), by omega, by omega⟩
            clear hno hu hu' ht n0 n1 n2 n3 u1 x0 x1 y1 hd0 hd1 hle
            go_wp2_with fail
            refine (HV1.out _).mono ?_
            rintro e w2 ⟨rfl, hb2⟩
            go_wp2_with fail
            refine (HV2.out _).mono ?_
            rintro e w3 ⟨rfl, hb3⟩
            have hb4 := below_run (below_run hbr hb2) hb3
            clear hbr hb2 hb3 hb1
            by_cases hlt : t < y
            · obtain ⟨q1, q2, q3⟩ := HTY.out hlt
              have HG := Lib.hid (HBA.out hlt)
              have N := rnamed_any t.toNat w3 q3
              rw [← q2] at N
              have HN := Lib.hid N
              have HQ := Lib.hid q1
              clear q1 q2 q3 N
              go_wp2_with fail
              refine HN.out.mono ?_
              rintro e w4 ⟨rfl, rfl⟩
              go_wp2
              go_ret2
              exact ⟨by rw [HG.out, HQ.out]; rfl, hb4⟩
            · have hge : y ≤ t := by omega
              have HN2 := Lib.hid (HNO.out hge)
              go_wp2
              go_roundw
              case rel => exact ⟨k + 1, by omega, by rw [HU'.out], HN2.out, hb4⟩
              case measure => exact HDEC.out
          · obtain rfl : k = 4 := by omega
            have HNB := Lib.hid (betV_no x y hno.out)
            have hu0 : units 4 = 0 := rfl
            rw [hu0]
            clear hno hu0 x0 x1 y1
            go_wp2
            go_ret2
            exact ⟨by rw [HNB.out]; rfl, hbr⟩
    · have C := Lib.hid (fun W => rcmp5_is _ _ a b W ha hb (cmp_b hn hm m0))
      have e9 : (m != 0) = true := by simpa using m0
      rw [bet_b hn hm m0]
      clear hn hm ha hb m0
      go_enter Tryd.func21, Tryd.ntmps21
      go_wp2_with fail
      refine (C.out _).mono ?_
      rintro e w1 ⟨rfl, hb1⟩
      go_wp2
      go_ret2
      exact ⟨rfl, hb1⟩
  · have C := Lib.hid (fun W => rcmp5_is _ _ a b W ha hb (cmp_a hn h0))
    have e9 : (n != 0) = true := by simpa using h0
    rw [bet_a hn h0]
    clear hn hm ha hb h0
    go_enter Tryd.func21, Tryd.ntmps21
    go_wp2_with fail
    refine (C.out _).mono ?_
    rintro e w1 ⟨rfl, hb1⟩
    go_wp2
    go_ret2
    exact ⟨rfl, hb1⟩
end Go.Proofs.YtnkgpfcoidilnaaDoor
