/-
  Identities by their names: what both sides read.
-/
import Derived.Test.YtdklpmaeajpacaaDoorHex
import Derived.Test.YtdklpmaeajpacaaDoorPlD
import Derived.Test.YtdklpmaeajpacaaDoorShf
namespace Go.Proofs.YtdklpmaeajpacaaDoor
open Go.RowKit

/-- The digits of a name. -/
def idD (s : ByteArray) : List UInt8 := s.data.toList.take 4 ++ s.data.toList.drop 5
/-- The identity of some digits, or the number of the error. -/
def idRes (l : List UInt8) : Int × Int := if l.all isHex = false then (0, 3) else if isId ((hexN l : Nat) : Int) then (((hexN l : Nat) : Int), 0) else (0, 2)
/-- The identity with a name, or the number of the error. -/
def idM (s : ByteArray) : Int × Int := if s.size ≠ 13 then (0, 3) else if s.data.toList.getD 4 0 ≠ 58 then (0, 3) else idRes (idD s)

/-- The value of a digit, -1 for other bytes. -/
def digM (b : UInt8) : Int := if isHex b then (hexV b : Nat) else -1

theorem dig_fin : ∀ d : Fin 16, isHex (hexs[d.val]'(Nat.lt_of_lt_of_le d.isLt (by decide))) = true ∧ hexV (hexs[d.val]'(Nat.lt_of_lt_of_le d.isLt (by decide))) = d.val := by decide +kernel
theorem dig_is (d : Nat) (h : d < 16) (h2 : d < hexs.size) : isHex (hexs[d]'h2) = true ∧ hexV (hexs[d]'h2) = d := dig_fin ⟨d, h⟩
theorem hexs_set : ∀ d : Fin 16, hexs[d.val]'(Nat.lt_of_lt_of_le d.isLt (by decide)) = hexSet[d.val] := by decide +kernel

theorem notHex (b : UInt8) (h : ∀ (d : Nat) (_ : d < 16) (h2 : d < hexs.size), hexs[d]'h2 ≠ b) : isHex b = false := by
  rw [← hexSet_is]
  cases hq : hexSet.contains b with
  | false => rfl
  | true =>
    exfalso
    have hm : b ∈ hexSet := by simpa using hq
    obtain ⟨i, hi, he⟩ := List.getElem_of_mem hm
    have h16 : i < 16 := hi
    exact h i h16 (Nat.lt_of_lt_of_le h16 (by decide)) ((hexs_set ⟨i, h16⟩).trans he)

set_option maxHeartbeats 1000000 in
set_option maxRecDepth 100000 in
theorem digit_any (b : UInt8) (w : World) : Calls Tryd.prog 67 #[.int .u8 (b.toNat : Int)] w fun e w' => e = .returned (.int .i64 (digM b)) ∧ w = w' := by
  go_enter Tryd.func67, Tryd.ntmps67
  go_wp2
  go_loop [3] (fun i => ∃ k : Nat, k ≤ 16 ∧ i = .int .i64 k ∧ Hid (∀ (d : Nat) (_ : d < k) (h2 : d < hexs.size), hexs[d]'h2 ≠ b)) (fun i => 16 - (intOf i).toNat)
  case atStart => exact ⟨0, by omega, rfl, fun d h => by omega⟩
  case round =>
    obtain ⟨k, hk, rfl, hall⟩ := hrel
    by_cases hlt : k < 16
    · have hki : (k : Int) < 16 := by omega
      have hks : k < hexs.size := Nat.lt_of_lt_of_le hlt (by decide)
      obtain ⟨q, hq⟩ : ∃ q, (((hexs[k]'hks).toNat : Int) == (b.toNat : Int)) = q := ⟨_, rfl⟩
      have HQ := Lib.hid hq
      have HK := Lib.hid hlt
      simp only [hexs] at hq
      cases q
      · go_wp2
        go_round
        case rel =>
          refine ⟨k + 1, HK.out, by go_num, fun d hd h2 => ?_⟩
          by_cases hdk : d = k
          · subst hdk
            intro e
            have := HQ.out
            rw [e] at this
            simp at this
          · exact hall.out d (by omega) h2
        case measure => have := HK.out; simp [intOf]; omega
      · go_wp2
        go_ret
        have h1 : hexs[k]'(Nat.lt_of_lt_of_le HK.out (by decide)) = b := UInt8.toNat_inj.1 (by have := HQ.out; simp at this; omega)
        have h2 := dig_is k HK.out (Nat.lt_of_lt_of_le HK.out (by decide))
        rw [h1] at h2
        exact ⟨ret_int (by rw [digM, if_pos h2.1, h2.2]), rfl⟩
    · obtain rfl : k = 16 := by omega
      have hn := notHex b (fun d h h2 => hall.out d h h2)
      have HN := Lib.hid hn
      clear hn
      go_wp2
      go_ret
      exact ⟨ret_int (by rw [digM, HN.out]; rfl), rfl⟩

/-- The digits ahead of a place. -/
def preD (s : ByteArray) (k : Nat) : List UInt8 := if k ≤ 4 then s.data.toList.take k else s.data.toList.take 4 ++ (s.data.toList.drop 5).take (k - 5)

theorem preD_skip (s : ByteArray) : preD s 5 = preD s 4 := by simp [preD]
theorem preD_all (s : ByteArray) (h : s.size = 13) : preD s 13 = idD s := by
  rw [preD, if_neg (by omega), idD]
  congr 1
  apply List.take_of_length_le
  rw [List.length_drop, list_sizeH, h]
  exact Nat.le_refl _
theorem preD_succ (s : ByteArray) (k : Nat) (h : k < s.size) (h4 : k ≠ 4) : preD s (k + 1) = preD s k ++ [s[k]] := by
  by_cases hk : k < 4
  · rw [preD, preD, if_pos (by omega), if_pos (by omega), take_snoc s k h]
  · rw [preD, preD, if_neg (by omega), if_neg (by omega), List.append_assoc, show k + 1 - 5 = (k - 5) + 1 from by omega, List.take_add_one (l := List.drop 5 _), List.getElem?_drop, show 5 + (k - 5) = k from by omega]
    have hl : k < s.data.toList.length := by simpa using h
    rw [List.getElem?_eq_getElem hl]
    rfl
theorem preD_mem (s : ByteArray) (k : Nat) (h : k < s.size) (h4 : k ≠ 4) : s[k] ∈ idD s := by
  have hl : k < s.data.toList.length := by simpa using h
  rw [idD, List.mem_append]
  by_cases hk : k < 4
  · refine .inl (List.mem_iff_getElem?.2 ⟨k, ?_⟩)
    rw [List.getElem?_take, if_pos hk, List.getElem?_eq_getElem hl]
    rfl
  · refine .inr (List.mem_iff_getElem?.2 ⟨k - 5, ?_⟩)
    rw [List.getElem?_drop, show 5 + (k - 5) = k from by omega, List.getElem?_eq_getElem hl]
    rfl
theorem preD_length (s : ByteArray) (k : Nat) (_h : k ≤ s.size) : (preD s k).length ≤ k := by
  rw [preD]
  split
  · exact List.length_take_le _ _
  · rw [List.length_append]
    have h1 := List.length_take_le 4 s.data.toList
    have h2 := List.length_take_le (k - 5) (s.data.toList.drop 5)
    omega
theorem hexN_small {l : List UInt8} (h : l.all isHex = true) (hl : l.length ≤ 13) : hexN l < 4503599627370496 := by
  have h1 := hexN_lt l h
  have h2 : 16 ^ l.length ≤ 16 ^ 13 := Nat.pow_le_pow_right (by decide) hl
  have h3 : (16 : Nat) ^ 13 = 4503599627370496 := by decide
  omega

set_option maxHeartbeats 4000000 in
set_option maxRecDepth 100000 in
theorem refidentity_any (s : ByteArray) (w : World) :
    Calls Tryd.prog 23 #[.string s] w fun e w' => e = .returned (.tuple #[.int .u64 (idM s).1, .int .i64 (idM s).2]) ∧ w = w' := by
  by_cases h13 : s.size = 13
  · have h4 : 4 < s.size := by omega
    have hg : s.data.toList.getD 4 0 = s[4] := by
      rw [List.getD_eq_getElem?_getD, List.getElem?_eq_getElem (by simpa using h4)]
      rfl
    obtain ⟨q, hq⟩ : ∃ q, ((s[4].toNat : Int) != 58) = q := ⟨_, rfl⟩
    have i13 : (s.size : Int) = 13 := by omega
    have i4 : (4 : Int) < (s.size : Int) := by omega
    have n13 : ((s.size : Int) != 13) = false := by simp [h13]
    have H13 := Lib.hid h13
    clear i13
    cases q
    · have hb : s[4] = 58 := UInt8.toNat_inj.1 (by have : (s[4].toNat : Int) = 58 := by simpa using hq
                                                   show s[4].toNat = 58; omega)
      have hid : idM s = idRes (idD s) := by
        rw [idM, if_neg (not_not_intro h13), hg, hb, if_neg (not_not_intro rfl)]
      have HI := Lib.hid hid
      clear hid hb hg h13
      go_enter Tryd.func23, Tryd.ntmps23
      go_wp2
      go_loop [4, 5, 6] (fun x i _ => ∃ k : Nat, k ≤ 13 ∧ i = .int .i64 k ∧ x = .int .u64 (hexN (preD s k) : Nat) ∧ Hid ((preD s k).all isHex = true)) (fun _ i _ => 13 - (intOf i).toNat)
      case atStart => exact ⟨0, by omega, rfl, rfl, rfl⟩
      case round =>
        obtain ⟨k, hk, rfl, rfl, hall⟩ := hrel
        by_cases hlt : k < 13
        · have hki : (k : Int) < 13 := by omega
          have hks : k < s.size := by have := H13.out; omega
          have hksi : (k : Int) < (s.size : Int) := by omega
          have HK := Lib.hid hlt
          by_cases hk4 : k = 4
          · subst hk4
            go_wp2
            go_round
            case rel => exact ⟨5, by omega, rfl, by rw [preD_skip], by rw [preD_skip]; exact hall⟩
            case measure => simp [intOf]
          · have hsn := preD_succ s k hks hk4
            have hme := preD_mem s k hks hk4
            have hn4 : ((k : Int) == 4) = false := beq_eq_false_iff_ne.2 (by omega)
            have hle := preD_length s k (by omega)
            have hsm := hexN_small hall.out (by omega)
            have hN := hexN_snoc (preD s k) s[k]
            rw [← hsn] at hN
            have hv : isHex s[k] = true → hexV s[k] < 16 := fun h => hexV_lt h
            have HV := Lib.hid hv
            have HN := Lib.hid hN
            have HS := Lib.hid hsn
            have HM := Lib.hid hme
            obtain ⟨b, hb⟩ : ∃ b, s[k] = b := ⟨_, rfl⟩
            have hdg := digit_any b
            have HB := Lib.hid hb
            obtain ⟨r, hr⟩ : ∃ r, isHex b = r := ⟨_, rfl⟩
            have HR := Lib.hid hr
            obtain ⟨N, hNN⟩ : ∃ N, hexN (preD s k) = N := ⟨_, rfl⟩
            rw [hNN] at hsm ⊢
            have HNN := Lib.hid hNN
            cases r
            · rw [digM, hr] at hdg
              clear hv hN hsn hme hle hNN hr hk4 hlt hk hsm
              go_wp2_with (first | (go_at_call 67; refine (hdg _).mono ?_; rintro e w' ⟨rfl, rfl⟩))
              go_ret2
              have h1 : isHex s[k] = false := by rw [HB.out]; exact HR.out
              have h2 : (idD s).all isHex = false := by
                cases h3 : (idD s).all isHex with
                | false => rfl
                | true => rw [List.all_eq_true.1 h3 _ HM.out] at h1; exact h1
              exact ⟨by rw [HI.out, idRes, if_pos h2]; rfl, rfl⟩
            · rw [digM, hr, if_pos rfl] at hdg
              have hvl := hexV_lt hr
              obtain ⟨V, hVV⟩ : ∃ V, hexV b = V := ⟨_, rfl⟩
              rw [hVV] at hdg hvl
              have HVV := Lib.hid hVV
              obtain ⟨D, hD⟩ : ∃ D : Int, (V : Int) = D := ⟨_, rfl⟩
              rw [hD] at hdg
              obtain ⟨M, hM⟩ : ∃ M : Int, 16 * (N : Int) = M := ⟨_, rfl⟩
              obtain ⟨R, hRR⟩ : ∃ R : Int, M + D = R := ⟨_, rfl⟩
              have W1 : IntKind.u64.wrap (16 * (N : Int)) = M := by rw [IntWalk.u64_in _ (by omega)]; exact hM
              have W0 : IntKind.u64.wrap D = D := IntWalk.u64_in D (by omega)
              have W3 : IntKind.u64.wrap (M + D) = R := by rw [IntWalk.u64_in _ (by omega)]; exact hRR
              have Y1 : (D < 0) = False := eq_false (by omega)
              have HR2 : Hid (R = ((N * 16 + V : Nat) : Int)) := Lib.hid (by omega)
              clear hD hM hRR
              clear hv hN hsn hme hle hNN hr hk4 hlt hk hsm hvl hVV
              go_wp2_with (first | (go_at_call 67; refine (hdg _).mono ?_; rintro e w' ⟨rfl, rfl⟩))
              go_round
              case rel =>
                have e : hexN (preD s (k + 1)) = N * 16 + V := by rw [HN.out, HNN.out, HB.out, HVV.out]
                refine ⟨k + 1, HK.out, by go_num, by rw [e, HR2.out], ?_⟩
                rw [HS.out, List.all_append, hall.out, HB.out]
                simp [Hid, HR.out]
              case measure => have := HK.out; simp [intOf]; omega
        · obtain rfl : k = 13 := by omega
          have hall' := hall.out
          rw [preD_all s H13.out] at hall' ⊢
          obtain ⟨r, hr⟩ : ∃ r, isId ((hexN (idD s) : Nat) : Int) = r := ⟨_, rfl⟩
          have his := Is_any ((hexN (idD s) : Nat) : Int)
          rw [hr] at his
          have HA := Lib.hid hall'
          have HR := Lib.hid hr
          obtain ⟨N, hN⟩ : ∃ N, hexN (idD s) = N := ⟨_, rfl⟩
          rw [hN] at his ⊢
          have HN := Lib.hid hN
          have i13' : (s.size : Int) = 13 := by have := H13.out; omega
          clear hall hall' hr hN
          cases r
          · go_wp2_with (first | (go_at_call 58; refine (his _).mono ?_; rintro e w' ⟨rfl, rfl⟩))
            go_ret2
            exact ⟨by rw [HI.out, idRes, HA.out, HR.out]; rfl, rfl⟩
          · go_wp2_with (first | (go_at_call 58; refine (his _).mono ?_; rintro e w' ⟨rfl, rfl⟩))
            go_ret2
            exact ⟨by rw [HI.out, idRes, HA.out, HR.out, HN.out]; rfl, rfl⟩
    · have hb : s[4] ≠ 58 := fun e => by rw [e] at hq; simp at hq
      have hid : idM s = (0, 3) := by
        rw [idM, if_neg (not_not_intro h13), hg, if_pos hb]
      have HI := Lib.hid hid
      clear hid hb hg h13
      go_enter Tryd.func23, Tryd.ntmps23
      go_wp2
      go_ret2
      exact ⟨by rw [HI.out]; rfl, rfl⟩
  · have n13 : ((s.size : Int) != 13) = true := bne_iff_ne.2 (by omega)
    have HI : Hid (idM s = (0, 3)) := Lib.hid (by rw [idM, if_pos h13])
    clear h13
    go_enter Tryd.func23, Tryd.ntmps23
    go_wp2
    go_ret2
    exact ⟨by rw [HI.out]; rfl, rfl⟩

/-- The text of the digits. -/
def idH (s : ByteArray) : ByteArray := s.extract 0 4 ++ s.extract 5 13
theorem idH_list (s : ByteArray) (h : s.size = 13) : (idH s).data.toList = idD s := by
  rw [idH, ByteArray.data_append, Array.toList_append, extract_list, extract_list, seg, seg, idD, List.drop_zero]
  congr 1
  apply List.take_of_length_le
  rw [List.length_drop, list_sizeH, h]
  exact Nat.le_refl _

theorem hexSet_ascii : ∀ (j : Nat) (b : UInt8), (⟨#[48, 49, 50, 51, 52, 53, 54, 55, 56, 57, 97, 98, 99, 100, 101, 102]⟩ : ByteArray).data.toList[j]? = some b → b.toNat < 128 := by
  intro j b h
  have hm : b ∈ hexSet := List.mem_of_getElem? h
  simp [hexSet] at hm
  rcases hm with rfl | rfl | rfl | rfl | rfl | rfl | rfl | rfl | rfl | rfl | rfl | rfl | rfl | rfl | rfl | rfl <;> decide

set_option maxHeartbeats 4000000 in
set_option maxRecDepth 100000 in
theorem identity_any (s : ByteArray) (w : World) :
    Calls Tryd.prog 22 #[.string s] w fun e w' => e = .returned (.tuple #[.int .u64 (idM s).1, .int .i64 (idM s).2]) ∧ Below w.heap.size w w' := by
  by_cases h13 : s.size = 13
  · have h4 : 4 < s.size := by omega
    have hg : s.data.toList.getD 4 0 = s[4] := by
      rw [List.getD_eq_getElem?_getD, List.getElem?_eq_getElem (by simpa using h4)]
      rfl
    obtain ⟨q, hq⟩ : ∃ q, ((s[4].toNat : Int) != 58) = q := ⟨_, rfl⟩
    have i13 : (13 : Int) ≤ (s.size : Int) := by omega
    have i4 : (4 : Int) < (s.size : Int) := by omega
    have n13 : ((s.size : Int) != 13) = false := by simp [h13]
    have H13 := Lib.hid h13
    cases q
    · have hb : s[4] = 58 := UInt8.toNat_inj.1 (by have : (s[4].toNat : Int) = 58 := by simpa using hq
                                                   show s[4].toNat = 58; omega)
      have hid : idM s = idRes (idD s) := by
        rw [idM, if_neg (not_not_intro h13), hg, hb, if_neg (not_not_intro rfl)]
      have HI := Lib.hid hid
      have hH := idH_list s h13
      have zH : (idH s).size = 12 := by
        rw [idH]
        simp [ByteArray.size_extract, h13]
      have hT := Tryd.strings_Trim_ascii (idH s) ⟨#[48, 49, 50, 51, 52, 53, 54, 55, 56, 57, 97, 98, 99, 100, 101, 102]⟩ (hs := by omega) (hcs := by decide) (hascii := hexSet_ascii)
      have hP := parse16_in (idH s) (h0 := by omega) (h15 := by omega)
      have hdef : idH s = s.extract 0 4 ++ s.extract 5 13 := rfl
      have z4 : (s.extract 0 4).size = 4 := by simp [ByteArray.size_extract, h13]
      have z5 : (s.extract 5 13).size = 8 := by simp [ByteArray.size_extract, h13]
      have HT := Lib.hid hT
      have HP := Lib.hid hP
      have HH := Lib.hid hH
      have ext : s.extract 5 s.size = s.extract 5 13 := by rw [h13]
      have HDF := Lib.hid hdef
      clear hid hb hg hT hP hH hdef h13 zH
      go_enter Tryd.func22, Tryd.ntmps22
      go_wp2
      go_region
      have hdef := HDF.out
      rw [← hdef]
      have hH := HH.out
      have hT := HT.out
      have hP := HP.out
      rw [hH] at hT hP
      clear HT HP HH HDF hdef hH z4 z5 ext
      generalize idH s = H at hT hP ⊢
      obtain ⟨L, hL⟩ : ∃ L, idD s = L := ⟨_, rfl⟩
      rw [hL] at hT hP
      have HIL : Hid (idM s = idRes L) := Lib.hid (by rw [HI.out, hL])
      clear hL HI
      obtain ⟨T, hTT⟩ : ∃ T : ByteArray, (⟨(Lib.trimS L [48, 49, 50, 51, 52, 53, 54, 55, 56, 57, 97, 98, 99, 100, 101, 102]).toArray⟩ : ByteArray) = T := ⟨_, rfl⟩
      obtain ⟨r, hr⟩ : ∃ r, L.all isHex = r := ⟨_, rfl⟩
      have he : T.toList.isEmpty = r := by
        rw [← hTT, ByteArray.toList_eq]
        show (Lib.trimS L hexSet).isEmpty = r
        rw [← hr, Bool.eq_iff_iff, List.isEmpty_iff, trim_nil]
      have hT2 : ∀ W, Calls Tryd.prog 65 #[.string H, .string ⟨#[48, 49, 50, 51, 52, 53, 54, 55, 56, 57, 97, 98, 99, 100, 101, 102]⟩] W fun e w' => e = .returned (.string T) ∧ Below W.heap.size W w' := by
        rw [← hTT]
        exact hT
      have HR := Lib.hid hr
      have HT := Lib.hid hT2
      have HP := Lib.hid hP
      clear hT hT2 hTT hr hP
      cases r
      · go_wp2_with (first | (go_at_call 65; refine (HT.out _).mono ?_; rintro e w1 ⟨rfl, hb1⟩))
        go_ret2
        exact ⟨by rw [HIL.out, idRes, HR.out]; rfl, by (repeat' (first | (with_reducible exact Below.refl _ _) | (with_reducible assumption) | (with_reducible refine below_drewN ?_ _) | (with_reducible refine Below.drew ?_) | (with_reducible refine Below.setCell ?_ ?_ _) | (with_reducible refine Below.alloc ?_ ?_ _) | (with_reducible refine below_after ?_ ?_ (by assumption)) | (show _ ≤ _; first | omega | (simp; done) | (simp; omega))))⟩
      · obtain ⟨q2, hq2⟩ : ∃ r, isId ((hexN L : Nat) : Int) = r := ⟨_, rfl⟩
        have his := is_any ((hexN L : Nat) : Int)
        rw [hq2] at his
        have HQ := Lib.hid hq2
        have hP := fun W => HP.out W HR.out
        obtain ⟨N, hN⟩ : ∃ N, hexN L = N := ⟨_, rfl⟩
        rw [hN] at his hP
        have HN := Lib.hid hN
        have HPP := Lib.hid hP
        clear hN hq2 hP HP
        cases q2
        · go_wp2_with (first | (go_at_call 65; refine (HT.out _).mono ?_; rintro e w1 ⟨rfl, hb1⟩) | (go_at_call 66; go_in) | (go_at_call 87; refine (HPP.out _).mono ?_; rintro e w2 ⟨rfl, hb2⟩) | (go_at_call 55; refine (his _).mono ?_; rintro e w3 ⟨rfl, rfl⟩))
          go_ret2
          exact ⟨by rw [HIL.out, idRes, HR.out, HQ.out]; rfl, by (repeat' (first | (with_reducible exact Below.refl _ _) | (with_reducible assumption) | (with_reducible refine below_run ?_ (by assumption)) | (with_reducible refine below_of_upd ?_ (by assumption) ?_) | (with_reducible refine below_drewN ?_ _) | (with_reducible refine Below.drew ?_) | (with_reducible refine Below.setCell ?_ ?_ _) | (with_reducible refine Below.alloc ?_ ?_ _) | (with_reducible refine below_after ?_ ?_ (by assumption)) | (show _ ≤ _; first | omega | (simp; done) | (simp; omega))))⟩
        · go_wp2_with (first | (go_at_call 65; refine (HT.out _).mono ?_; rintro e w1 ⟨rfl, hb1⟩) | (go_at_call 66; go_in) | (go_at_call 87; refine (HPP.out _).mono ?_; rintro e w2 ⟨rfl, hb2⟩) | (go_at_call 55; refine (his _).mono ?_; rintro e w3 ⟨rfl, rfl⟩))
          go_ret2
          exact ⟨by rw [HIL.out, idRes, HR.out, HQ.out, HN.out]; rfl, by (repeat' (first | (with_reducible exact Below.refl _ _) | (with_reducible assumption) | (with_reducible refine below_run ?_ (by assumption)) | (with_reducible refine below_of_upd ?_ (by assumption) ?_) | (with_reducible refine below_drewN ?_ _) | (with_reducible refine Below.drew ?_) | (with_reducible refine Below.setCell ?_ ?_ _) | (with_reducible refine Below.alloc ?_ ?_ _) | (with_reducible refine below_after ?_ ?_ (by assumption)) | (show _ ≤ _; first | omega | (simp; done) | (simp; omega))))⟩
    · have hb : s[4] ≠ 58 := fun e => by rw [e] at hq; simp at hq
      have hid : idM s = (0, 3) := by
        rw [idM, if_neg (not_not_intro h13), hg, if_pos hb]
      have HI := Lib.hid hid
      clear hid hb hg h13
      go_enter Tryd.func22, Tryd.ntmps22
      go_wp2
      go_ret2
      exact ⟨by rw [HI.out]; rfl, Below.refl _ _⟩
  · have n13 : ((s.size : Int) != 13) = true := bne_iff_ne.2 (by omega)
    have HI : Hid (idM s = (0, 3)) := Lib.hid (by rw [idM, if_pos h13])
    clear h13
    go_enter Tryd.func22, Tryd.ntmps22
    go_wp2
    go_ret2
    exact ⟨by rw [HI.out]; rfl, Below.refl _ _⟩

end Go.Proofs.YtdklpmaeajpacaaDoor
