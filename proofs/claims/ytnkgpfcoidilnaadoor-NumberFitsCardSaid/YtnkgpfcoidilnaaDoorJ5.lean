/-
  The reference's number with some thousandths; Of of both sides.
-/
import Derived.Test.YtnkgpfcoidilnaaDoorI5
namespace Go.Proofs.YtnkgpfcoidilnaaDoor
open Go.RowKit

theorem three_len (m : Nat) : (three m).length = 3 := rfl

theorem take_last (l : List UInt8) (j : Nat) (h : j < l.length) (hs : j < (str (l.take (j + 1))).size) : (str (l.take (j + 1)))[j]'hs = l[j] := by
  show (str (l.take (j + 1))).data[j]'hs = l[j]
  simp [str]

theorem zeros_more {l : List UInt8} {i : Nat} (hi : i < l.length) (h48 : l[i] = 48) (hz : ∀ (j : Nat) b, i + 1 ≤ j → l[j]? = some b → b = 48) : ∀ (j : Nat) b, i ≤ j → l[j]? = some b → b = 48 := fun j b hj hb => by
  rcases Nat.lt_or_eq_of_le hj with h | h
  · exact hz j b h hb
  · subst h
    rw [List.getElem?_eq_getElem hi] at hb
    injection hb with hb
    rw [← hb]; exact h48

theorem str_empty (l : List UInt8) : (str l).toList.isEmpty = l.isEmpty := by rw [Lib.toList_data, str_data]

set_option maxHeartbeats 2000000 in
set_option maxRecDepth 100000 in
theorem rnamed_any (n : Nat) (w : World) (hn : n ≤ 9999999) :
    Calls Tryd.prog 40 #[.int .i64 n] w fun e w' => e = .returned (.string (str (named n))) ∧ w = w' := by
  have hm : n % 1000 < 1000 := Nat.mod_lt _ (by decide)
  have D1 : Hid (∀ W, Calls Tryd.prog 55 #[.int .i64 ((n : Int) % 1000), .int .i64 3] W fun e w' => e = .returned (.string (str (three (n % 1000)))) ∧ W = w') := fun W => rthree_any (n % 1000) W hm
  have D2 : Hid (∀ W, Calls Tryd.prog 55 #[.int .i64 ((n : Int) / 1000), .int .i64 1] W fun e w' => e = .returned (.string (str (Lib.decDigits (n / 1000)))) ∧ W = w') := fun W => rone_any (n / 1000) W (by omega)
  have ht1 : (n : Int).tmod 1000 = (n : Int) % 1000 := Int.tmod_eq_emod_of_nonneg (by omega)
  have ht2 : (n : Int).tdiv 1000 = (n : Int) / 1000 := Int.tdiv_eq_ediv_of_nonneg (by omega)
  have hq : IntKind.i64.wrap ((n : Int) / 1000) = (n : Int) / 1000 := IntWalk.i64_in _ (by omega)
  have hl1 : (Lib.decDigits (n / 1000)).length ≤ 4 := decDigits_len _ (by omega)
  have hl3 : (Lib.trimRightB (three (n % 1000)) 48).length ≤ 3 := by
    rw [trim_len _ hm]
    unfold decs
    repeat' split
    all_goals omega
  have HE : Hid ((Lib.trimRightB (three (n % 1000)) 48).isEmpty = true → str (Lib.decDigits (n / 1000)) = str (named n)) := fun h => by
    have h0 : n % 1000 = 0 := Decidable.byContradiction fun hne => trim_ne _ hm hne (List.isEmpty_iff.1 h)
    rw [named, if_pos h0, List.append_nil]
  have HF : Hid ((Lib.trimRightB (three (n % 1000)) 48).isEmpty = false → str (Lib.decDigits (n / 1000)) ++ ⟨#[46]⟩ ++ str (Lib.trimRightB (three (n % 1000)) 48) = str (named n)) := fun h => by
    have h0 : n % 1000 ≠ 0 := fun he => by
      rw [he, trim_zero] at h
      simp at h
    rw [named, if_neg h0, show (⟨#[46]⟩ : ByteArray) = str [46] from rfl, str_add, str_add]
    simp
  obtain ⟨l, hl⟩ : ∃ l, three (n % 1000) = l := ⟨_, rfl⟩
  have hlen : l.length = 3 := by rw [← hl]; rfl
  rw [hl] at D1 hl3 HE HF
  obtain ⟨a, ha⟩ : ∃ a, str (Lib.decDigits (n / 1000)) = a := ⟨_, rfl⟩
  have za : (a.size : Int) ≤ 4 := by rw [← ha, str_len]; omega
  rw [ha] at D2 HE HF
  have HL := Lib.hid hl3
  clear hl hm hn hl1 ha hl3
  go_enter Tryd.func40, Tryd.ntmps40
  go_wp2_with fail
  refine (D1.out _).mono ?_
  rintro e w1 ⟨rfl, rfl⟩
  go_wp2
  go_loop [3] (fun o => ∃ k : Nat, k ≤ 3 ∧ o = .string (str (l.take k)) ∧ Hid (∀ (j : Nat) b, k ≤ j → l[j]? = some b → b = 48)) (fun o => strLen o)
  case atStart =>
    refine ⟨3, Nat.le_refl _, by rw [List.take_of_length_le (by omega)], fun j b hj hb => ?_⟩
    rw [List.getElem?_eq_none (by omega)] at hb
    cases hb
  case round =>
    obtain ⟨k, hk, rfl, hz⟩ := hrel
    have hsz : (str (l.take k)).size = k := by rw [str_len, List.length_take]; omega
    obtain ⟨j, hj⟩ : ∃ j : Int, (k : Int) = j := ⟨_, rfl⟩
    by_cases hk0 : k = 0
    · have he : Lib.trimRightB l 48 = l.take k := Lib.trimRightB_take l 48 k (by omega) hz.out (fun b h => absurd h (by omega))
      have h1 : (str (l.take k)).toList.isEmpty = true := by rw [str_empty, hk0]; rfl
      have h2 := HE.out (by rw [he, hk0]; rfl)
      have H2 := Lib.hid h2
      have hkz : ¬ (0 : Int) < ((str (l.take k)).size : Int) := by rw [hsz]; omega
      obtain ⟨t, ht⟩ : ∃ t, str (l.take k) = t := ⟨_, rfl⟩
      rw [ht] at h1 hkz ⊢
      clear he hsz ht hk0 hz h2 hj
      go_wp2_with fail
      refine (D2.out _).mono ?_
      rintro e w1 ⟨rfl, rfl⟩
      go_wp2
      go_ret
      exact ⟨by rw [← H2.out]; rfl, rfl⟩
    · obtain ⟨i, rfl⟩ : ∃ i, k = i + 1 := ⟨k - 1, by omega⟩
      have hil : i < l.length := by omega
      obtain ⟨t, ht, hts, his, hlq, HX⟩ : ∃ t, str (l.take (i + 1)) = t ∧ t.size = i + 1 ∧ ∃ his : i < t.size, ((t[i]'his).toNat : Int) = (l[i].toNat : Int) ∧ Hid (t.extract 0 i = str (l.take i)) :=
        ⟨_, rfl, hsz, by rw [hsz]; exact Nat.lt_succ_self i, by rw [take_last l i hil], str_of_list (by rw [take_extract, str_data, List.take_take, Nat.min_eq_left (by omega)])⟩
      have h1 : t.toList.isEmpty = (l.take (i + 1)).isEmpty := by rw [← ht, str_empty]
      rw [ht]
      clear hsz
      obtain ⟨q, hq0⟩ : ∃ q, ((l[i].toNat : Int) == 48) = q := ⟨_, rfl⟩
      have hb2 : l[i]? = some l[i] := List.getElem?_eq_getElem hil
      have hidx : (t.size : Int) - 1 = (i : Int) := by omega
      have hpos : (0 : Int) < (t.size : Int) := by omega
      have hlt : (i : Int) ≤ (t.size : Int) := by omega
      have hst : strLen (.string (str (l.take i))) < strLen (.string t) := by
        show (str (l.take i)).size < t.size
        rw [str_len, List.length_take]
        omega
      have HW : Hid (IntKind.i64.wrap ((i : Int)) = (i : Int)) := IntWalk.i64_in _ (by omega)
      have HQ0 := Lib.hid hq0
      have hqt : (((t[i]'his).toNat : Int) == 48) = q := by rw [hlq]; exact hq0
      have HIL := Lib.hid hil
      clear hq0 hlq
      have HI1 := Lib.hid h1
      have HTS := Lib.hid hts
      have HTT := Lib.hid ht
      have HST := Lib.hid hst
      have HLL := Lib.hid hlen
      have hi3 : (i : Int) ≤ 2 := by omega
      have HHK := Lib.hid hk
      clear h1 hts ht hst hj
      cases q with
      | true =>
        have h48 : l[i] = 48 := UInt8.toNat_inj.1 (by have := eq_of_beq HQ0.out; have e : (48 : UInt8).toNat = 48 := rfl; omega)
        have hz2 : Hid (∀ (j : Nat) b, i ≤ j → l[j]? = some b → b = 48) := zeros_more hil h48 hz.out
        have HZ2 := Lib.hid hz2
        clear hb2 h48 hz hz2 hk0 hlen hk HQ0
        have hwr2 : wrap64 (i : Int) = (i : Int) := by rw [← IntWalk.i64_left]; exact HW.out
        go_wp2
        go_round
        case rel => exact ⟨i, by have := HHK.out; omega, by rw [← HX.out], HZ2.out⟩
        case measure => rw [HX.out]; exact HST.out
      | false =>
        have hne : l[i] ≠ 48 := fun e => beq_eq_false_iff_ne.1 HQ0.out (congrArg (fun b : UInt8 => (b.toNat : Int)) e)
        have he : Lib.trimRightB l 48 = l.take (i + 1) := Lib.trimRightB_take l 48 (i + 1) (by omega) hz.out (fun b _ hb => by
          simp only [Nat.add_sub_cancel] at hb
          rw [hb2] at hb
          injection hb with hb
          rw [← hb]; exact hne)
        have hem : (l.take (i + 1)).isEmpty = false := by
          have : (l.take (i + 1)).length ≠ 0 := by rw [List.length_take]; omega
          cases hh : l.take (i + 1) with
          | nil => rw [hh] at this; simp at this
          | cons _ _ => rfl
        have h1 := HI1.out
        rw [hem] at h1
        have ht := HTT.out
        have h2 := HF.out (by rw [he]; exact hem)
        rw [he] at h2
        rw [ht] at h2
        have H2 := Lib.hid h2
        have zt : (t.size : Int) ≤ 3 := by omega
        clear hb2 hne hz ht hk0 he hem h2 hlen
        have hwr2 : wrap64 (i : Int) = (i : Int) := by rw [← IntWalk.i64_left]; exact HW.out
        go_wp2_with fail
        refine (D2.out _).mono ?_
        rintro e w1 ⟨rfl, rfl⟩
        go_wp2
        go_ret
        exact ⟨by rw [← H2.out]; rfl, rfl⟩
end Go.Proofs.YtnkgpfcoidilnaaDoor
