/-
  The number with some thousandths: the reference.
-/
import Derived.Test.YtnkgpfcoidilnaaDoorH5
namespace Go.Proofs.YtnkgpfcoidilnaaDoor
open Go.RowKit

def strLen : Value → Nat
  | .string s => s.size
  | _ => 0

theorem enc_digit (m : Nat) (h : m < 10) : Utf8.encode (48 + (m : Int)) = str [UInt8.ofNat (48 + m)] := by
  have hc : m = 0 ∨ m = 1 ∨ m = 2 ∨ m = 3 ∨ m = 4 ∨ m = 5 ∨ m = 6 ∨ m = 7 ∨ m = 8 ∨ m = 9 := by omega
  rcases hc with rfl | rfl | rfl | rfl | rfl | rfl | rfl | rfl | rfl | rfl <;> rfl

/-- What the reference's loop leaves. -/
def DecAt (n0 least k : Nat) : Prop := n0 / 10 ^ k = 0 ∧ least ≤ k ∧ (k ≤ least ∨ 0 < n0 / 10 ^ (k - 1))

theorem pow8 (k n0 : Nat) (h : n0 < 100000000) (h0 : 0 < n0 / 10 ^ k) : k < 8 := by
  refine Nat.lt_of_not_le fun h8 => ?_
  have : 10 ^ 8 ≤ 10 ^ k := Nat.pow_le_pow_right (by decide) h8
  have e : (10 : Nat) ^ 8 = 100000000 := by decide
  rw [Nat.div_eq_of_lt (by omega)] at h0
  omega

set_option maxHeartbeats 2000000 in
set_option maxRecDepth 100000 in
theorem rdecimal_any (n0 least : Nat) (w : World) (hn : n0 < 100000000) (hl : least ≤ 3) :
    Calls Tryd.prog 55 #[.int .i64 n0, .int .i64 least] w fun e w' => (∃ k, e = .returned (.string (str (decN n0 k))) ∧ Hid (DecAt n0 least k)) ∧ w = w' := by
  go_enter Tryd.func55, Tryd.ntmps55
  go_wp2
  go_loop [0, 5] (fun n o => ∃ k : Nat, n = .int .i64 ((n0 / 10 ^ k : Nat) : Int) ∧ o = .string (str (decN n0 k)) ∧ Hid (k ≤ least ∨ 0 < n0 / 10 ^ (k - 1))) (fun _ o => 20 - strLen o)
  case atStart => exact ⟨0, by simp, rfl, by simp [Hid]⟩
  case round =>
    obtain ⟨k, rfl, rfl, hk⟩ := hrel
    have hsz : (str (decN n0 k)).size = k := by rw [str_len, decN_length]
    have hk9 : k ≤ 9 := by
      rcases hk.out with h | h
      · omega
      · have := pow8 (k - 1) n0 hn h
        omega
    have hm : n0 / 10 ^ k < 100000000 := Nat.lt_of_le_of_lt (Nat.div_le_self _ _) hn
    have hdec := Lib.hid (decN_cons n0 k)
    have hdiv : n0 / 10 ^ (k + 1) = n0 / 10 ^ k / 10 := by rw [Nat.pow_succ, Nat.div_div_eq_div_mul]
    obtain ⟨m, hmm⟩ : ∃ m, n0 / 10 ^ k = m := ⟨_, rfl⟩
    have HR : Hid (DecAt n0 least k ↔ m = 0 ∧ least ≤ k) := ⟨fun h => ⟨by rw [← hmm]; exact h.1, h.2.1⟩, fun h => ⟨by rw [hmm]; exact h.1, h.2, hk.out⟩⟩
    have HK : Hid (0 < m → 0 < n0 / 10 ^ (k + 1 - 1)) := fun h => by show 0 < n0 / 10 ^ k; rw [hmm]; exact h
    rw [hmm] at hm hdiv ⊢
    have HD := Lib.hid hdiv
    have henc := enc_digit (m % 10) (Nat.mod_lt _ (by decide))
    have henc2 : Utf8.encode (48 + (m : Int) % 10) = str [UInt8.ofNat (48 + m % 10)] := henc
    rw [hmm] at hdec
    obtain ⟨t, ht⟩ : ∃ t, str (decN n0 k) = t := ⟨_, rfl⟩
    rw [ht] at hsz ⊢
    have HT := Lib.hid ht
    have t1 : (m : Int).tmod 10 = (m : Int) % 10 := Int.tmod_eq_emod_of_nonneg (by omega)
    have t2 : (m : Int).tdiv 10 = (m : Int) / 10 := Int.tdiv_eq_ediv_of_nonneg (by omega)
    have t3 : IntKind.i64.wrap (48 + (m : Int) % 10) = 48 + (m : Int) % 10 := IntWalk.i64_in _ (by omega)
    have t4 : IntKind.i32.wrap (48 + (m : Int) % 10) = 48 + (m : Int) % 10 := IntWalk.i32_in _ (by omega)
    have t5 : IntKind.i64.wrap ((m : Int) / 10) = (m : Int) / 10 := IntWalk.i64_in _ (by omega)
    have t6 : (str [UInt8.ofNat (48 + m % 10)]).size = 1 := by rw [str_len]; rfl
    have hx : str [UInt8.ofNat (48 + m % 10)] ++ t = str (decN n0 (k + 1)) := by rw [hdec.out, ← ht, str_add]; rfl
    have HX := Lib.hid hx
    have t7 : (t.size : Int) ≤ 9 := by omega
    have t8 : (k : Int) ≤ 9 := by omega
    clear henc hmm hdiv ht hdec hn hx hm
    obtain ⟨d, hd⟩ : ∃ d, str [UInt8.ofNat (48 + m % 10)] = d := ⟨_, rfl⟩
    rw [hd] at henc2 t6 HX
    clear hd
    obtain ⟨z, hz⟩ : ∃ z : Int, (m : Int) = z := ⟨_, rfl⟩
    have HZ : Hid (((m / 10 : Nat) : Int) = z / 10) := by show ((m / 10 : Nat) : Int) = z / 10; rw [← hz]; rfl
    rw [hz] at t1 t2 t3 t4 t5 henc2 ⊢
    by_cases hgo : 0 < m
    · have g1 : (0 : Int) < z := by omega
      clear hz
      go_wp2
      go_round
      case rel => exact ⟨k + 1, by rw [HD.out, HZ.out], by rw [← HX.out], .inr (HK.out hgo)⟩
      case measure => simp [strLen]; omega
    · have g1 : ¬ (0 : Int) < z := by omega
      clear hz
      have G := Lib.hid (show m = 0 by omega)
      clear hgo
      by_cases hless : k < least
      · have g2 : (k : Int) < (least : Int) := by omega
        go_wp2
        go_round
        case rel => exact ⟨k + 1, by rw [HD.out, HZ.out], by rw [← HX.out], .inl (by omega)⟩
        case measure => simp [strLen]; omega
      · have g2 : ¬ (k : Int) < (least : Int) := by omega
        go_wp2
        go_ret
        exact ⟨⟨k, by rw [HT.out]; rfl, HR.out.2 ⟨G.out, by omega⟩⟩, rfl⟩

theorem dec_three (m k : Nat) (h : m < 1000) (hk : DecAt m 3 k) : decN m k = three m := by
  obtain ⟨h1, h2, h3⟩ := hk
  have : k = 3 := by
    rcases h3 with h3 | h3
    · omega
    · refine Nat.le_antisymm (Nat.le_of_not_lt fun h4 => ?_) h2
      have : 10 ^ 3 ≤ 10 ^ (k - 1) := Nat.pow_le_pow_right (by decide) (by omega)
      have e : (10 : Nat) ^ 3 = 1000 := by decide
      rw [Nat.div_eq_of_lt (by omega)] at h3
      omega
  subst this
  exact (three_decN m h).symm
theorem dec_one (n k : Nat) (hk : DecAt n 1 k) : decN n k = Lib.decDigits n := by
  obtain ⟨h1, h2, h3⟩ := hk
  obtain ⟨j, rfl⟩ : ∃ j, k = j + 1 := ⟨k - 1, by omega⟩
  refine (decDigits_decN j n h1 ?_).symm
  rcases h3 with h3 | h3
  · exact .inl (by omega)
  · exact .inr h3

theorem rthree_any (m : Nat) (w : World) (h : m < 1000) : Calls Tryd.prog 55 #[.int .i64 m, .int .i64 3] w fun e w' => e = .returned (.string (str (three m))) ∧ w = w' := by
  refine (rdecimal_any m 3 w (by omega) (by omega)).mono ?_
  rintro e w' ⟨⟨k, rfl, hk⟩, hw⟩
  exact ⟨by rw [dec_three m k h hk.out], hw⟩
theorem rone_any (n : Nat) (w : World) (h : n < 100000000) : Calls Tryd.prog 55 #[.int .i64 n, .int .i64 1] w fun e w' => e = .returned (.string (str (Lib.decDigits n))) ∧ w = w' := by
  refine (rdecimal_any n 1 w h (by omega)).mono ?_
  rintro e w' ⟨⟨k, rfl, hk⟩, hw⟩
  exact ⟨by rw [dec_one n k hk.out], hw⟩
end Go.Proofs.YtnkgpfcoidilnaaDoor
