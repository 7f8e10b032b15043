/-
  The number between two numbers: both sides.
-/
import Derived.Test.YtndkpdiacabjgaaGreatDoorL5
import Derived.WalkMore
namespace Go.Proofs.YtndkpdiacabjgaaGreatDoor
open Go.RowKit

/-- The number between two ones whose thousandths are known, the first less than the second. -/
def betV (x y : Int) : List UInt8 × Int :=
  if nextM x 1000 < y then of5 (nextM x 1000)
  else if nextM x 100 < y then of5 (nextM x 100)
  else if nextM x 10 < y then of5 (nextM x 10)
  else if nextM x 1 < y then of5 (nextM x 1)
  else ([], 12)
def units : Nat → Int
  | 0 => 1000
  | 1 => 100
  | 2 => 10
  | 3 => 1
  | _ => 0

theorem bet_ab {a b : List UInt8} (h : chk5 a = 0) (h2 : chk5 b = 0) : bet5 a b = if (val5 b : Int) ≤ val5 a then ([], 9) else betV (val5 a) (val5 b) := by rw [bet5, if_pos h, if_pos h2]; rfl
theorem bet_b {a b : List UInt8} {n : Int} (h : chk5 a = 0) (h2 : chk5 b = n) (hn : n ≠ 0) : bet5 a b = ([], n) := by rw [bet5, if_pos h, if_neg (by rw [h2]; exact hn), h2]
theorem bet_a {a b : List UInt8} {n : Int} (h : chk5 a = n) (hn : n ≠ 0) : bet5 a b = ([], n) := by rw [bet5, if_neg (by rw [h]; exact hn), h]

theorem betV_at (x y : Int) (k : Nat) (hk : k < 4) (h : ∀ j, j < k → y ≤ nextM x (units j)) (hlt : nextM x (units k) < y) : betV x y = of5 (nextM x (units k)) := by
  have h4 : k = 0 ∨ k = 1 ∨ k = 2 ∨ k = 3 := by omega
  unfold betV
  rcases h4 with rfl | rfl | rfl | rfl
  · simp only [units] at hlt
    rw [if_pos hlt]; rfl
  · have a := h 0 (by omega)
    simp only [units] at a hlt
    rw [if_neg (by omega), if_pos hlt]; rfl
  · have a := h 0 (by omega)
    have b := h 1 (by omega)
    simp only [units] at a b hlt
    rw [if_neg (by omega), if_neg (by omega), if_pos hlt]; rfl
  · have a := h 0 (by omega)
    have b := h 1 (by omega)
    have c := h 2 (by omega)
    simp only [units] at a b c hlt
    rw [if_neg (by omega), if_neg (by omega), if_neg (by omega), if_pos hlt]; rfl
theorem betV_no (x y : Int) (h : ∀ j, j < 4 → y ≤ nextM x (units j)) : betV x y = ([], 12) := by
  have a := h 0 (by omega)
  have b := h 1 (by omega)
  have c := h 2 (by omega)
  have d := h 3 (by omega)
  simp only [units] at a b c d
  unfold betV
  rw [if_neg (by omega), if_neg (by omega), if_neg (by omega), if_neg (by omega)]

theorem unit_pos (k : Nat) (hk : k < 4) : 0 < units k ∧ units k ≤ 1000 ∧ (units k) / 10 = units (k + 1) := by
  have h4 : k = 0 ∨ k = 1 ∨ k = 2 ∨ k = 3 := by omega
  rcases h4 with rfl | rfl | rfl | rfl <;> decide
theorem nextM_in (x u : Int) (h0 : 0 ≤ x) (h1 : x ≤ 9999999) (hu : 0 < u) (hu2 : u ≤ 1000) : 0 < nextM x u ∧ nextM x u ≤ 10000999 ∧ 0 ≤ x % u ∧ x % u ≤ x := by
  have a := next_is x u
  have b := Int.emod_nonneg x (by omega : u ≠ 0)
  have c := Int.emod_lt_of_pos x hu
  have d : 0 ≤ x / u := Int.ediv_nonneg h0 (by omega)
  have e := Int.mul_ediv_add_emod x u
  have f : 0 ≤ u * (x / u) := Int.mul_nonneg (by omega) d
  omega

set_option maxHeartbeats 2000000 in
set_option maxRecDepth 100000 in
theorem bet5_any (a b : ByteArray) (w : World) (ha : a.size ≤ 9223372036854775806) (hb : b.size ≤ 9223372036854775806) (hp : Pow w) :
    Calls Tryz.prog 9 #[.string a, .string b] w fun e w' => e = .returned (strE (bet5 a.data.toList b.data.toList)) ∧ Below w.heap.size w w' := by
  obtain ⟨n, hn⟩ : ∃ n, chk5 a.data.toList = n := ⟨_, rfl⟩
  obtain ⟨m, hm⟩ : ∃ m, chk5 b.data.toList = m := ⟨_, rfl⟩
  have HP := Lib.hid hp
  clear hp
  by_cases h0 : n = 0
  · subst h0
    by_cases m0 : m = 0
    · subst m0
      have C := fun W => values5_is _ _ _ a b W ha hb (vals_ab hn hm)
      rw [bet_ab hn hm]
      have v1 := val_bound hn
      have v2 := val_bound hm
      obtain ⟨x, hx⟩ : ∃ x : Int, (val5 a.data.toList : Int) = x := ⟨_, rfl⟩
      obtain ⟨y, hy⟩ : ∃ y : Int, (val5 b.data.toList : Int) = y := ⟨_, rfl⟩
      rw [hx, hy] at C ⊢
      have x0 : 0 ≤ x := by omega
      have x1 : x ≤ 9999999 := by omega
      have y1 : y ≤ 9999999 := by omega
      have HC := Lib.hid C
      clear C hn hm ha hb v1 v2 hx hy
      by_cases hle : y ≤ x
      · rw [if_pos hle]
        go_enter Tryz.func9, Tryz.ntmps9
        go_wp2
        go_step3
        go_wp2_with fail
        refine (HC.out _).mono ?_
        rintro e w1 ⟨rfl, hb1⟩
        go_wp2
        rw [Exit.noGoto_ret]
        go_ret2
        exact ⟨rfl, hb1⟩
      · rw [if_neg hle]
        have hle2 : ¬ y ≤ x := hle
        have HX := Lib.hid (And.intro x0 (And.intro x1 y1))
        go_enter Tryz.func9, Tryz.ntmps9
        go_wp2
        go_step3
        go_wp2_with fail
        refine (HC.out _).mono ?_
        rintro e w1 ⟨rfl, hb1⟩
        have HB := Lib.hid hb1
        have HP1 := Lib.hid (HP.out.run hb1)
        clear hb1
        go_wp2
        go_step3
        go_wp2
        go_loop [9, 10] (fun o u => ∃ k : Nat, k ≤ 4 ∧ u = .int .i64 (units k) ∧ Hid (∀ j, j < k → y ≤ nextM x (units j)) ∧ (∃ v : Int, o = .int .i64 v ∧ Hid (k = 4 → v = nextM x 1))) (fun _ u => (intOf u).toNat)
        case atStart => exact ⟨0, by omega, rfl, fun j hj => absurd hj (by omega), 0, rfl, fun h => absurd h (by omega)⟩
        case round =>
          obtain ⟨k, hk, rfl, hno, v, rfl, hv⟩ := hrel
          by_cases hk4 : k < 4
          · obtain ⟨u0, u1, u2⟩ := unit_pos k hk4
            obtain ⟨n0, n1, n2, n3⟩ := nextM_in x (units k) x0 x1 u0 u1
            have hq := next_is x (units k)
            have HBA := Lib.hid (betV_at x y k hk4 hno.out)
            have HNO : Hid (y ≤ nextM x (units k) → ∀ j, j < k + 1 → y ≤ nextM x (units j)) := fun h j hj => by
              rcases Nat.lt_or_eq_of_le (Nat.le_of_lt_succ hj) with h' | h'
              · exact hno.out j h'
              · rw [h']; exact h
            have HU : Hid (k + 1 = 4 → nextM x (units k) = nextM x 1) := fun h => by
              obtain rfl : k = 3 := by omega
              rfl
            obtain ⟨u, hu⟩ : ∃ u, units k = u := ⟨_, rfl⟩
            obtain ⟨u', hu'⟩ : ∃ u, units (k + 1) = u := ⟨_, rfl⟩
            have HU' := Lib.hid hu'
            rw [hu] at u0 u1 u2 n0 n1 n2 n3 hq HBA HNO HU ⊢
            rw [hu'] at u2
            obtain ⟨t, ht⟩ : ∃ t, nextM x u = t := ⟨_, rfl⟩
            rw [ht] at n0 n1 hq HBA HNO HU
            have ht1 : x.tmod u = x % u := Int.tmod_eq_emod_of_nonneg x0
            have ht2 : u.tdiv 10 = u / 10 := Int.tdiv_eq_ediv_of_nonneg (by omega)
            have w1 : IntKind.i64.wrap (x - x % u) = x - x % u := IntWalk.i64_in _ (by omega)
            have w2 : IntKind.i64.wrap t = t := IntWalk.i64_in _ (by omega)
            have w3 : IntKind.i64.wrap u' = u' := IntWalk.i64_in _ (by omega)
            have hun : ¬ u = 0 := by omega
            have HDEC : Hid (u'.toNat < u.toNat) := by show u'.toNat < u.toNat; omega
            have HT : Hid (t ≤ 9999999 → 1 ≤ t) := fun _ => by omega
            clear hno hv hu hu' ht n0 n1 n2 n3 u1 x0 x1 y1
            by_cases hlt : t < y
            · have hge : ¬ y ≤ t := by omega
              obtain ⟨r, c, hr⟩ : ∃ r c, of5 t = (r, c) := ⟨_, _, rfl⟩
              have HR := Lib.hid hr
              have HG := Lib.hid (HBA.out hlt)
              clear hr
              go_wp2_with fail
              refine (of5_is t c r _ HP1.out HR).mono ?_
              rintro e w2 ⟨rfl, hb2⟩
              go_wp2
              rw [Exit.noGoto_ret]
              go_ret2
              exact ⟨by rw [HG.out, HR.out]; rfl, below_run HB.out hb2⟩
            · have hge : y ≤ t := by omega
              have HN2 := Lib.hid (HNO.out hge)
              go_wp2
              go_round
              case rel => exact ⟨k + 1, by omega, by rw [HU'.out], HN2.out, t, rfl, HU.out⟩
              case measure => exact HDEC.out
          · obtain rfl : k = 4 := by omega
            have hlast := hno.out 3 (by omega)
            have hv1 := hv.out rfl
            have hge : y ≤ v := by rw [hv1]; exact hlast
            have HNB := Lib.hid (betV_no x y hno.out)
            have hu0 : units 4 = 0 := rfl
            rw [hu0]
            clear hlast hv1 hno hv hu0 x0 x1 y1
            go_wp2
            go_ret2
            exact ⟨by rw [HNB.out]; rfl, HB.out⟩
    · have C := Lib.hid (fun W => values5_is _ _ _ a b W ha hb (vals_b hn hm m0))
      have e9 : (m != 0) = true := by simpa using m0
      rw [bet_b hn hm m0]
      clear hn hm ha hb m0
      go_enter Tryz.func9, Tryz.ntmps9
      go_wp2
      go_step3
      go_wp2_with fail
      refine (C.out _).mono ?_
      rintro e w1 ⟨rfl, hb1⟩
      go_wp2
      rw [Exit.noGoto_ret]
      go_ret2
      exact ⟨rfl, hb1⟩
  · have C := Lib.hid (fun W => values5_is _ _ _ a b W ha hb (vals_a hn h0))
    have e9 : (n != 0) = true := by simpa using h0
    rw [bet_a hn h0]
    clear hn hm ha hb h0
    go_enter Tryz.func9, Tryz.ntmps9
    go_wp2
    go_step3
    go_wp2_with fail
    refine (C.out _).mono ?_
    rintro e w1 ⟨rfl, hb1⟩
    go_wp2
    rw [Exit.noGoto_ret]
    go_ret2
    exact ⟨rfl, hb1⟩
end Go.Proofs.YtndkpdiacabjgaaGreatDoor
