/-
  The walk of the law that numbers and thousandths belong to each other.
-/
import Derived.Test.YtnkgpfcoidilnaaDoorQ5
namespace Go.Proofs.YtnkgpfcoidilnaaDoor
open Go.RowKit

theorem named_len (n : Nat) (h : n ≤ 9999999) : (named n).length ≤ 8 := by
  have h1 := decDigits_len (n / 1000) (by omega)
  have h2 := trim_len (n % 1000) (Nat.mod_lt _ (by decide))
  unfold named
  rw [List.length_append]
  split
  · simp
    omega
  · rw [List.length_cons, h2]
    have : decs (n % 1000) ≤ 3 := by
      unfold decs
      repeat' split
      all_goals omega
    omega

theorem no_suffix {l : List UInt8} (b : UInt8) (h : l.getLast? = some b) (hb : b ≠ 46) : Lib.hasSuffix l [46] = false := by
  cases hh : Lib.hasSuffix l [46] with
  | false => rfl
  | true =>
    unfold Lib.hasSuffix at hh
    have hm : [46] <:+ l := by simpa using hh
    obtain ⟨t, ht⟩ := hm
    rw [← ht] at h
    simp at h
    exact absurd h.symm hb

theorem named_suffix (n : Nat) : Lib.hasSuffix (named n) [46] = false := by
  have key : ∀ l r : List UInt8, r.all isDig = true → r ≠ [] → Lib.hasSuffix (l ++ r) [46] = false := fun l r h1 h2 => by
    cases hr : r.getLast? with
    | none => exact absurd (List.getLast?_eq_none_iff.1 hr) h2
    | some b =>
      have hb : b ∈ r := List.mem_of_getLast? hr
      rw [List.all_eq_true] at h1
      have hd := isDig_le (h1 b hb)
      refine no_suffix b (by rw [List.getLast?_append, hr]; rfl) fun e => ?_
      rw [e] at hd
      simp at hd
  unfold named
  split
  · rw [List.append_nil]
    have := key [] _ (decDigits_all (n / 1000)) (decDigits_ne _)
    simpa using this
  · rename_i h
    have := key (Lib.decDigits (n / 1000) ++ [46]) _ (trim_digs (n % 1000) (Nat.mod_lt _ (by decide))) (trim_ne _ (Nat.mod_lt _ (by decide)) h)
    simpa using this

/-- A number of thousandths, as a law makes it of any 32 bits. -/
theorem kay (n : Int) : ∃ k : Nat, 1 + n % 9999999 = (k : Int) ∧ 1 ≤ k ∧ k ≤ 9999999 := ⟨(1 + n % 9999999).toNat, by omega, by omega, by omega⟩

set_option maxHeartbeats 1000000 in
set_option maxRecDepth 100000 in
theorem law_returns5 (n : Int) (w : World) (hp : Pow w) (h0 : 0 ≤ n) (_h1 : n ≤ 4294967295) :
    Calls Tryd.prog 7 #[.int .u32 n] w fun e w' => e = .returned (.bool true) ∧ Below w.heap.size w w' := by
  have HP := Lib.hid hp
  clear hp
  obtain ⟨k, hk, k1, k2⟩ := kay n
  have ht : n.tmod 9999999 = n % 9999999 := Int.tmod_eq_emod_of_nonneg h0
  have wr1 : IntKind.u32.wrap (n % 9999999) = n % 9999999 := IntWalk.u32_in _ (by omega)
  have wr2 : IntKind.i64.wrap (n % 9999999) = n % 9999999 := IntWalk.i64_in _ (by omega)
  have wr3 : IntKind.i64.wrap (k : Int) = (k : Int) := IntWalk.i64_in _ (by omega)
  obtain ⟨s, hs⟩ : ∃ s, str (named k) = s := ⟨_, rfl⟩
  have hsd : s.data.toList = named k := by rw [← hs, str_data]
  have hsz : s.size ≤ 8 := by rw [← hs, str_len]; exact named_len k k2
  have C1 : Hid (∀ W, Pow W → Calls Tryd.prog 16 #[.int .i64 (k : Int)] W fun e w' => e = .returned (.tuple #[.string s, .int .i64 0]) ∧ Below W.heap.size W w') := fun W h => by rw [← hs]; exact of5_good k W k1 k2 h
  have C2 := Lib.hid (fun W => check5_is 0 s W (by omega) (show chk5 s.data.toList = 0 by rw [hsd]; exact chk_named k k1 k2))
  have C3 := Lib.hid (fun W => thou5_is k 0 s W (by omega) (show thou5 s.data.toList = ((k : Int), 0) by rw [hsd, thou_good (chk_named k k1 k2), val_named]))
  have S := fun W => Tryd.strings_HasSuffix s ⟨#[46]⟩ W (by omega)
  rw [hsd, show (⟨#[46]⟩ : ByteArray).data.toList = [46] from rfl, named_suffix] at S
  have HS := Lib.hid S
  clear S hs hsd hsz h0 _h1 k1 k2
  obtain ⟨z, hz⟩ : ∃ z : Int, (k : Int) = z := ⟨_, rfl⟩
  rw [hz] at C1 C3 wr3 hk
  clear hz
  go_enter Tryd.func7, Tryd.ntmps7
  go_wp2_with fail
  refine (C1.out _ HP.out).mono ?_
  rintro e w1 ⟨rfl, hb1⟩
  go_wp2_with fail
  refine (C2.out _).mono ?_
  rintro e w2 ⟨rfl, hb2⟩
  go_wp2_with fail
  refine (HS.out _).mono ?_
  rintro e w3 ⟨rfl, rfl⟩
  go_wp2_with fail
  refine (C3.out _).mono ?_
  rintro e w4 ⟨rfl, hb4⟩
  have B4 := below_run (below_run hb1 hb2) hb4
  go_wp2_with fail
  refine (awake5_any _ (HP.out.run B4)).mono ?_
  rintro e w5 ⟨rfl, hb5⟩
  go_wp2
  go_ret
  exact ⟨rfl, below_run B4 hb5⟩
end Go.Proofs.YtnkgpfcoidilnaaDoor
