/-
  The walk of the law that the order of numbers is that of their thousandths.
-/
import Derived.Test.YtnkgpfcoidilnaaDoorS5
import Derived.Test.YtnkgpfcoidilnaaDoorR5
namespace Go.Proofs.YtnkgpfcoidilnaaDoor
open Go.RowKit

theorem asc_two (i j : Nat) (hi : 1 ≤ i) (hi2 : i ≤ 9999999) (hj : 1 ≤ j) (hj2 : j ≤ 9999999) : asc5 0 [str (named i), str (named j)] = if i < j then 0 else 9 := by
  have c1 : chk5 (str (named i)).data.toList = 0 := by rw [str_data]; exact chk_named i hi hi2
  have c2 : chk5 (str (named j)).data.toList = 0 := by rw [str_data]; exact chk_named j hj hj2
  have v1 : val5 (str (named i)).data.toList = i := by rw [str_data]; exact val_named i
  have v2 : val5 (str (named j)).data.toList = j := by rw [str_data]; exact val_named j
  rw [asc_on c1 (by rw [v1]; omega), v1]
  by_cases h : i < j
  · rw [asc_on c2 (by rw [v2]; omega), if_pos h]
    rfl
  · rw [asc_low c2 (by rw [v2]; omega), if_neg h]

theorem strs_new (w : World) (a b : ByteArray) : StrsAt (w.alloc (.cells #[.string a, .string b] 9)) (.slice (some ⟨w.heap.size, 0, none⟩) 2 2) [a, b] := by
  refine .inr ⟨by simp, by simp, _, 0, 2, rfl, by simp, fun j hj => ?_⟩
  have hr : RowAt (w.alloc (.cells #[.string a, .string b] 9)) w.heap.size 9 #[.string a, .string b] := RowAt.new _ _ _
  rw [(row_facts hr).1, Nat.zero_add]
  have hj2 : j < 2 := hj
  match j, hj2 with
  | 0, _ => rfl
  | 1, _ => rfl

set_option maxHeartbeats 2000000 in
set_option maxRecDepth 100000 in
theorem law_sorts5 (n m : Int) (w : World) (hp : Pow w) (h0 : 0 ≤ n) (_h1 : n ≤ 4294967295) (g0 : 0 ≤ m) (_g1 : m ≤ 4294967295) :
    Calls Tryd.prog 10 #[.int .u32 n, .int .u32 m] w fun e w' => e = .returned (.bool true) ∧ Below w.heap.size w w' := by
  have HP := Lib.hid hp
  clear hp
  obtain ⟨i, hi, i1, i2⟩ := kay n
  obtain ⟨j, hj, j1, j2⟩ := kay m
  have ht : n.tmod 9999999 = n % 9999999 := Int.tmod_eq_emod_of_nonneg h0
  have W1 : Hid (IntKind.u32.wrap (n % 9999999) = n % 9999999) := IntWalk.u32_in _ (by omega)
  have W2 : Hid (IntKind.i64.wrap (n % 9999999) = n % 9999999) := IntWalk.i64_in _ (by omega)
  have W3 : Hid (IntKind.i64.wrap (i : Int) = (i : Int)) := IntWalk.i64_in _ (by omega)
  have ht' : m.tmod 9999999 = m % 9999999 := Int.tmod_eq_emod_of_nonneg g0
  have W4 : Hid (IntKind.u32.wrap (m % 9999999) = m % 9999999) := IntWalk.u32_in _ (by omega)
  have W5 : Hid (IntKind.i64.wrap (m % 9999999) = m % 9999999) := IntWalk.i64_in _ (by omega)
  have W6 : Hid (IntKind.i64.wrap (j : Int) = (j : Int)) := IntWalk.i64_in _ (by omega)
  obtain ⟨s, hs⟩ : ∃ s, str (named i) = s := ⟨_, rfl⟩
  obtain ⟨t, htt⟩ : ∃ t, str (named j) = t := ⟨_, rfl⟩
  have hsd : s.data.toList = named i := by rw [← hs, str_data]
  have hsz : s.size ≤ 8 := by rw [← hs, str_len]; exact named_len i i2
  have htd : t.data.toList = named j := by rw [← htt, str_data]
  have htz : t.size ≤ 8 := by rw [← htt, str_len]; exact named_len j j2
  have C1 : Hid (∀ W, Pow W → Calls Tryd.prog 16 #[.int .i64 (i : Int)] W fun e w' => e = .returned (.tuple #[.string s, .int .i64 0]) ∧ Below W.heap.size W w') := fun W h => by rw [← hs]; exact of5_good i W i1 i2 h
  have C2 : Hid (∀ W, Pow W → Calls Tryd.prog 16 #[.int .i64 (j : Int)] W fun e w' => e = .returned (.tuple #[.string t, .int .i64 0]) ∧ Below W.heap.size W w') := fun W h => by rw [← htt]; exact of5_good j W j1 j2 h
  have C3 := Lib.hid (fun W => cmp5_is (ord5 i j) 0 s t W (by omega) (by omega) (show cmp5 s.data.toList t.data.toList = (ord5 i j, 0) by rw [hsd, htd, cmp_ab (chk_named i i1 i2) (chk_named j j1 j2), val_named, val_named]))
  have ha := asc_two i j i1 i2 j1 j2
  rw [hs, htt] at ha
  have C4 : Hid (∀ W : World, Calls Tryd.prog 26 #[.slice (some ⟨W.heap.size, 0, none⟩) 2 2] (W.alloc (.cells #[.string s, .string t] 9)) fun e w' => e = .returned (.int .i64 (if i < j then 0 else 9)) ∧ Below (W.alloc (.cells #[.string s, .string t] 9)).heap.size (W.alloc (.cells #[.string s, .string t] 9)) w') := fun W => by
    have := asc5_any _ [s, t] _ (strs_new W s t) (fun x hx => by
      rcases List.mem_cons.1 hx with rfl | hx
      · omega
      · rw [List.mem_singleton] at hx
        subst hx
        omega)
    rwa [ha] at this
  clear hs htt hsd hsz htd htz h0 _h1 g0 _g1 i1 i2 j1 j2 ha
  have HO : Hid ((i < j ↔ (i : Int) < (j : Int)) ∧ ord5 i j = ord5 i j) := ⟨by omega, rfl⟩
  rcases Nat.lt_trichotomy i j with h | h | h
  · rw [if_pos h] at C4
    have ho : ord5 (i : Int) (j : Int) = -1 := by rw [ord5, if_pos (by omega)]
    rw [ho] at C3
    have hlt : (i : Int) < (j : Int) := by omega
    obtain ⟨x, hx⟩ : ∃ x : Int, (i : Int) = x := ⟨_, rfl⟩
    obtain ⟨y, hy⟩ : ∃ y : Int, (j : Int) = y := ⟨_, rfl⟩
    rw [hx] at C1 hi W3 hlt
    rw [hy] at C2 hj W6 hlt
    have hnle : ¬ y ≤ x := by omega
    have hnlt : ¬ y < x := by omega
    clear HO ho h hx hy
    have wr1 := W1.out
    have wr2 := W2.out
    have wr3 := W3.out
    have wr4 := W4.out
    have wr5 := W5.out
    have wr6 := W6.out
    go_enter Tryd.func10, Tryd.ntmps10
    go_wp2_with fail
    refine (C1.out _ HP.out).mono ?_
    rintro e w1 ⟨rfl, hb1⟩
    go_wp2_with fail
    refine (C2.out _ (HP.out.run hb1)).mono ?_
    rintro e w2 ⟨rfl, hb2⟩
    go_wp2_with fail
    refine (C3.out _).mono ?_
    rintro e w3 ⟨rfl, hb3⟩
    have B3 := below_run (below_run hb1 hb2) hb3
    have hz3 := B3.size
    clear hb1 hb2 hb3
    go_wp2_with fail
    refine (C4.out _).mono ?_
    rintro e w4 ⟨rfl, hb4⟩
    have B4 : Below w.heap.size w w4 := by (repeat' (first | (with_reducible exact Below.refl _ _) | (with_reducible assumption) | (with_reducible refine below_run ?_ (by assumption)) | (with_reducible refine below_of_upd ?_ (by assumption) ?_) | (with_reducible refine below_drewN ?_ _) | (with_reducible refine Below.drew ?_) | (with_reducible refine Below.setCell ?_ ?_ _) | (with_reducible refine Below.alloc ?_ ?_ _) | (with_reducible refine below_after ?_ ?_ (by assumption)) | (show _ ≤ _; first | omega | (simp; done) | (simp; omega))))
    go_wp2_with fail
    refine (awake5_any _ (HP.out.run B4)).mono ?_
    rintro e w5 ⟨rfl, hb5⟩
    go_wp2
    go_ret
    exact ⟨rfl, below_run B4 hb5⟩
  · subst h
    rw [if_neg (Nat.lt_irrefl i)] at C4
    have ho : ord5 (i : Int) (i : Int) = 0 := by rw [ord5, if_neg (by omega), if_neg (by omega)]
    rw [ho] at C3
    obtain ⟨x, hx⟩ : ∃ x : Int, (i : Int) = x := ⟨_, rfl⟩
    rw [hx] at C1 C2 hi hj W3
    have hnlt : ¬ x < x := by omega
    clear HO ho hx W6
    have wr1 := W1.out
    have wr2 := W2.out
    have wr3 := W3.out
    have wr4 := W4.out
    have wr5 := W5.out
    go_enter Tryd.func10, Tryd.ntmps10
    go_wp2_with fail
    refine (C1.out _ HP.out).mono ?_
    rintro e w1 ⟨rfl, hb1⟩
    go_wp2_with fail
    refine (C2.out _ (HP.out.run hb1)).mono ?_
    rintro e w2 ⟨rfl, hb2⟩
    go_wp2_with fail
    refine (C3.out _).mono ?_
    rintro e w3 ⟨rfl, hb3⟩
    have B3 := below_run (below_run hb1 hb2) hb3
    have hz3 := B3.size
    clear hb1 hb2 hb3
    go_wp2_with fail
    refine (C4.out _).mono ?_
    rintro e w4 ⟨rfl, hb4⟩
    have B4 : Below w.heap.size w w4 := by (repeat' (first | (with_reducible exact Below.refl _ _) | (with_reducible assumption) | (with_reducible refine below_run ?_ (by assumption)) | (with_reducible refine below_of_upd ?_ (by assumption) ?_) | (with_reducible refine below_drewN ?_ _) | (with_reducible refine Below.drew ?_) | (with_reducible refine Below.setCell ?_ ?_ _) | (with_reducible refine Below.alloc ?_ ?_ _) | (with_reducible refine below_after ?_ ?_ (by assumption)) | (show _ ≤ _; first | omega | (simp; done) | (simp; omega))))
    go_wp2_with fail
    refine (awake5_any _ (HP.out.run B4)).mono ?_
    rintro e w5 ⟨rfl, hb5⟩
    go_wp2
    go_ret
    exact ⟨rfl, below_run B4 hb5⟩
  · rw [if_neg (by omega)] at C4
    have ho : ord5 (i : Int) (j : Int) = 1 := by rw [ord5, if_neg (by omega), if_pos (by omega)]
    rw [ho] at C3
    have hlt : (j : Int) < (i : Int) := by omega
    obtain ⟨x, hx⟩ : ∃ x : Int, (i : Int) = x := ⟨_, rfl⟩
    obtain ⟨y, hy⟩ : ∃ y : Int, (j : Int) = y := ⟨_, rfl⟩
    rw [hx] at C1 hi W3 hlt
    rw [hy] at C2 hj W6 hlt
    have hnlt : ¬ x < y := by omega
    clear HO ho h hx hy
    have wr1 := W1.out
    have wr2 := W2.out
    have wr3 := W3.out
    have wr4 := W4.out
    have wr5 := W5.out
    have wr6 := W6.out
    go_enter Tryd.func10, Tryd.ntmps10
    go_wp2_with fail
    refine (C1.out _ HP.out).mono ?_
    rintro e w1 ⟨rfl, hb1⟩
    go_wp2_with fail
    refine (C2.out _ (HP.out.run hb1)).mono ?_
    rintro e w2 ⟨rfl, hb2⟩
    go_wp2_with fail
    refine (C3.out _).mono ?_
    rintro e w3 ⟨rfl, hb3⟩
    have B3 := below_run (below_run hb1 hb2) hb3
    have hz3 := B3.size
    clear hb1 hb2 hb3
    go_wp2_with fail
    refine (C4.out _).mono ?_
    rintro e w4 ⟨rfl, hb4⟩
    have B4 : Below w.heap.size w w4 := by (repeat' (first | (with_reducible exact Below.refl _ _) | (with_reducible assumption) | (with_reducible refine below_run ?_ (by assumption)) | (with_reducible refine below_of_upd ?_ (by assumption) ?_) | (with_reducible refine below_drewN ?_ _) | (with_reducible refine Below.drew ?_) | (with_reducible refine Below.setCell ?_ ?_ _) | (with_reducible refine Below.alloc ?_ ?_ _) | (with_reducible refine below_after ?_ ?_ (by assumption)) | (show _ ≤ _; first | omega | (simp; done) | (simp; omega))))
    go_wp2_with fail
    refine (awake5_any _ (HP.out.run B4)).mono ?_
    rintro e w5 ⟨rfl, hb5⟩
    go_wp2
    go_ret
    exact ⟨ret_bool (by rw [decide_eq_false (show ¬ x < y by omega)]; rfl), below_run B4 hb5⟩
end Go.Proofs.YtnkgpfcoidilnaaDoor
