/-
  The law on what is between two numbers, joined.
-/
import Derived.Test.YtnkgpfcoidilnaaDoorX5
namespace Go.Proofs.YtnkgpfcoidilnaaDoor
open Go.RowKit

set_option maxHeartbeats 1000000 in
theorem law_fits5 (n m : Int) (w : World) (hp : Pow w) (h0 : 0 ≤ n) (_h1 : n ≤ 4294967295) (g0 : 0 ≤ m) (_g1 : m ≤ 4294967295) :
    Calls Tryd.prog 8 #[.int .u32 n, .int .u32 m] w fun e w' => e = .returned (.bool true) ∧ Below w.heap.size w w' := by
  obtain ⟨i, hi, i1, i2⟩ := kay n
  obtain ⟨j, hj, j1, j2⟩ := kay m
  have ht : n.tmod 9999999 = n % 9999999 := Int.tmod_eq_emod_of_nonneg h0
  have ht' : m.tmod 9999999 = m % 9999999 := Int.tmod_eq_emod_of_nonneg g0
  have W1 : Hid (IntKind.u32.wrap (n % 9999999) = n % 9999999) := IntWalk.u32_in _ (by omega)
  have W2 : Hid (IntKind.i64.wrap (n % 9999999) = n % 9999999) := IntWalk.i64_in _ (by omega)
  have W3 : Hid (IntKind.i64.wrap (i : Int) = (i : Int)) := IntWalk.i64_in _ (by omega)
  have W4 : Hid (IntKind.u32.wrap (m % 9999999) = m % 9999999) := IntWalk.u32_in _ (by omega)
  have W5 : Hid (IntKind.i64.wrap (m % 9999999) = m % 9999999) := IntWalk.i64_in _ (by omega)
  have W6 : Hid (IntKind.i64.wrap (j : Int) = (j : Int)) := IntWalk.i64_in _ (by omega)
  obtain ⟨a, ha, a1, a2⟩ : ∃ a : Nat, min (i : Int) (j : Int) = (a : Int) ∧ 1 ≤ a ∧ a ≤ 9999999 := ⟨min i j, by omega, by omega, by omega⟩
  obtain ⟨b, hb, b1, b2⟩ : ∃ b : Nat, max (i : Int) (j : Int) = (b : Int) ∧ 1 ≤ b ∧ b ≤ 9999999 := ⟨max i j, by omega, by omega, by omega⟩
  have C1 : Hid (∀ W, Pow W → Calls Tryd.prog 16 #[.int .i64 (a : Int)] W fun e w' => e = .returned (.tuple #[.string (str (named a)), .int .i64 0]) ∧ Below W.heap.size W w') := fun W h => of5_good a W a1 a2 h
  have C2 : Hid (∀ W, Pow W → Calls Tryd.prog 16 #[.int .i64 (b : Int)] W fun e w' => e = .returned (.tuple #[.string (str (named b)), .int .i64 0]) ∧ Below W.heap.size W w') := fun W h => of5_good b W b1 b2 h
  have sz1 : (str (named a)).size ≤ 8 := by rw [str_len]; exact named_len a a2
  have sz2 : (str (named b)).size ≤ 8 := by rw [str_len]; exact named_len b b2
  have hbet := fits_bet a b a1 a2 b1 b2
  by_cases hle : (b : Int) ≤ a
  · rw [if_pos hle] at hbet
    have C3 : Hid (∀ W, Pow W → Calls Tryd.prog 20 #[.string (str (named a)), .string (str (named b))] W fun e w' => e = .returned (.tuple #[.string ⟨#[]⟩, .int .i64 9]) ∧ Below W.heap.size W w') := fun W h => bet5_is _ _ [] 9 ⟨#[]⟩ W h (by omega) (by omega) (by rw [str_data, str_data]; exact hbet) rfl
    have hij : i = j := by omega
    exact fits_same n m a b i j _ _ w hp ht ht' W1 W2 W3 W4 W5 W6 hi hj ha hb C1 C2 C3 (by rw [hij]; exact beq_self_eq_true _) (beq_eq_false_iff_ne.2 (by omega)) (IntWalk.i64_in _ (by omega))
  · rw [if_neg hle] at hbet
    rcases betV_ends a b with ⟨k, hk, hno, hlt⟩ | hno
    · obtain ⟨u0, u1, -⟩ := unit_pos k hk
      obtain ⟨n0, n1, n2, n3⟩ := nextM_in a (units k) (by omega) (by omega) u0 u1
      have hq := next_is (a : Int) (units k)
      rw [betV_at a b k hk hno hlt] at hbet
      obtain ⟨z, hz⟩ : ∃ z : Nat, nextM (a : Int) (units k) = (z : Int) := ⟨(nextM (a : Int) (units k)).toNat, by omega⟩
      have hdec := fits_decs a b k hk (by omega) hno hlt
      rw [hz] at hbet hlt hq n0 n1 hdec
      rw [Int.toNat_natCast] at hdec
      have z1 : 1 ≤ z := by omega
      have z2 : z ≤ 9999999 := by omega
      rw [of5_in (by omega) (by omega), Int.toNat_natCast] at hbet
      have szm : (str (named z)).size ≤ 8 := by rw [str_len]; exact named_len z z2
      have C3 : Hid (∀ W, Pow W → Calls Tryd.prog 20 #[.string (str (named a)), .string (str (named b))] W fun e w' => e = .returned (.tuple #[.string (str (named z)), .int .i64 0]) ∧ Below W.heap.size W w') := fun W h => bet5_is _ _ (named z) 0 _ W h (by omega) (by omega) (by rw [str_data, str_data]; exact hbet) rfl
      have C4 : Hid (∀ W, Calls Tryd.prog 12 #[.string (str (named z))] W fun e w' => e = .returned (.tuple #[.int .i64 (z : Int), .int .i64 0]) ∧ Below W.heap.size W w') := fun W => thou5_is z 0 _ W (by omega) (show thou5 (str (named z)).data.toList = ((z : Int), 0) by rw [str_data, thou_good (chk_named z z1 z2), val_named])
      have hC5 : ∀ W, Calls Tryd.prog 25 #[.string (str (named z))] W fun e w' => e = .returned (.int .i64 (k : Nat)) ∧ w' = W := fun W => by
        have := decimals_any (str (named z)) W (by omega)
        rwa [str_data, (named_parts z).2.1, trim_len _ (Nat.mod_lt _ (by decide)), hdec] at this
      have hk4 : k = 0 ∨ k = 1 ∨ k = 2 ∨ k = 3 := by omega
      rcases hk4 with rfl | rfl | rfl | rfl
      · simp only [units] at hq n2 n3
        exact fits_main0 n m a b z i j _ _ _ w hp ht ht' W1 W2 W3 W4 W5 W6 hi hj ha hb C1 C2 C3 C4 hC5 (by omega) (by omega) (by omega) (IntWalk.i64_in _ (by omega))
      · have hqy := hno 0 (by omega)
        simp only [units] at hq n2 n3 hqy
        have hx0 : 0 ≤ (a : Int) / 1000 := Int.ediv_nonneg (by omega) (by decide)
        have hx1 : (a : Int) / 1000 ≤ a := Int.ediv_le_self _ (by omega)
        have hx2 := Int.mul_ediv_add_emod (a : Int) 1000
        have hx3 : 0 ≤ (a : Int) % 1000 ∧ (a : Int) % 1000 < 1000 := ⟨Int.emod_nonneg _ (by decide), Int.emod_lt_of_pos _ (by decide)⟩
        exact fits_main1 n m a b z i j _ _ _ w hp ht ht' W1 W2 W3 W4 W5 W6 hi hj ha hb C1 C2 C3 C4 hC5 (by omega) (by omega) (by omega) (IntWalk.i64_in _ (by omega)) (nextM a 1000) rfl hqy (Int.tdiv_eq_ediv_of_nonneg (by omega)) (IntWalk.i64_in _ (by omega)) (IntWalk.i64_in _ (by omega)) (IntWalk.i64_in _ (by unfold nextM; omega))
      · have hqy := hno 1 (by omega)
        simp only [units] at hq n2 n3 hqy
        have hx0 : 0 ≤ (a : Int) / 100 := Int.ediv_nonneg (by omega) (by decide)
        have hx1 : (a : Int) / 100 ≤ a := Int.ediv_le_self _ (by omega)
        have hx2 := Int.mul_ediv_add_emod (a : Int) 100
        have hx3 : 0 ≤ (a : Int) % 100 ∧ (a : Int) % 100 < 100 := ⟨Int.emod_nonneg _ (by decide), Int.emod_lt_of_pos _ (by decide)⟩
        exact fits_main2 n m a b z i j _ _ _ w hp ht ht' W1 W2 W3 W4 W5 W6 hi hj ha hb C1 C2 C3 C4 hC5 (by omega) (by omega) (by omega) (IntWalk.i64_in _ (by omega)) (nextM a 100) rfl hqy (Int.tdiv_eq_ediv_of_nonneg (by omega)) (IntWalk.i64_in _ (by omega)) (IntWalk.i64_in _ (by omega)) (IntWalk.i64_in _ (by unfold nextM; omega))
      · have hqy := hno 2 (by omega)
        simp only [units] at hq n2 n3 hqy
        have hx0 : 0 ≤ (a : Int) / 10 := Int.ediv_nonneg (by omega) (by decide)
        have hx1 : (a : Int) / 10 ≤ a := Int.ediv_le_self _ (by omega)
        have hx2 := Int.mul_ediv_add_emod (a : Int) 10
        have hx3 : 0 ≤ (a : Int) % 10 ∧ (a : Int) % 10 < 10 := ⟨Int.emod_nonneg _ (by decide), Int.emod_lt_of_pos _ (by decide)⟩
        exact fits_main3 n m a b z i j _ _ _ w hp ht ht' W1 W2 W3 W4 W5 W6 hi hj ha hb C1 C2 C3 C4 hC5 (by omega) (by omega) (by omega) (IntWalk.i64_in _ (by omega)) (nextM a 10) rfl hqy (Int.tdiv_eq_ediv_of_nonneg (by omega)) (IntWalk.i64_in _ (by omega)) (IntWalk.i64_in _ (by omega)) (IntWalk.i64_in _ (by unfold nextM; omega))
    · have hd := hno 3 (by omega)
      rw [betV_no a b hno] at hbet
      have h1 : nextM (a : Int) (units 3) = a + 1 := by simp [nextM, units]
      rw [h1] at hd
      have C3 : Hid (∀ W, Pow W → Calls Tryd.prog 20 #[.string (str (named a)), .string (str (named b))] W fun e w' => e = .returned (.tuple #[.string ⟨#[]⟩, .int .i64 12]) ∧ Below W.heap.size W w') := fun W h => bet5_is _ _ [] 12 ⟨#[]⟩ W h (by omega) (by omega) (by rw [str_data, str_data]; exact hbet) rfl
      exact fits_next n m a b i j _ _ w hp ht ht' W1 W2 W3 W4 W5 W6 hi hj ha hb C1 C2 C3 (beq_eq_false_iff_ne.2 (by omega)) (by simp; omega) (IntWalk.i64_in _ (by omega))
end Go.Proofs.YtnkgpfcoidilnaaDoor
