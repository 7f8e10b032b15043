/-
  What the reference encodes.
  What the reference encodes and decodes.
-/
import Derived.Test.YtpkhcehddfmhpaaGreatMade
import Derived.Test.YtpkhcehddfmhpaaGreatBas
import Derived.Test.YtpkhcehddfmhpaaGreatPl46
namespace Go.Proofs.YtpkhcehddfmhpaaGreat
open Go.RowKit

set_option maxHeartbeats 1000000 in
set_option maxRecDepth 100000 in
theorem refenc_any (dst src seq kind par : Int) (dat : ByteArray) (w : World) :
    Calls Tryz.prog 97 #[.agg #[.int .u64 dst, .int .u64 src, .int .i64 seq, .int .i64 kind, .int .i64 par, .string dat]] w fun e w' => ∃ s n, e = .returned (.tuple #[.string s, .int .i64 n]) ∧ Hid (encM ⟨dst, src, seq, kind, par, dat⟩ = (s, n)) ∧ Below w.heap.size w w' := by
  go_enter Tryz.func97, Tryz.ntmps97
  go_wp2_with (first | (go_at_call 95; refine (refchk_any _ _ _ _ _ _ _).mono ?_; rintro e w1 ⟨rfl, hb⟩; obtain ⟨hc, hf, hT1, hT2, hT3, hT4, hz⟩ := bfacts (n := w.heap.size + 1) hb (by first | (simp; done) | (simp; omega) | omega)) | (go_at_call 134; refine (refmade_any _ _ _ _ _ _ _ (eq_of_bne (by assumption))).mono ?_; rintro e w2 ⟨rfl, hb⟩; obtain ⟨hc, hf, hT1, hT2, hT3, hT4, hz⟩ := bfacts (n := w.heap.size + 1) hb (by first | (simp; done) | (simp; omega) | omega)))
  · have h : chk ⟨dst, src, seq, kind, par, dat⟩ ≠ 0 := ne_of_bne (by assumption)
    refine bodyPost_ret (v := .tuple #[.string ⟨#[]⟩, .int .i64 (chk ⟨dst, src, seq, kind, par, dat⟩)]) ?_ rfl ⟨_, _, rfl, ?_, ?_⟩
    · simp [results, Tryz.results97, go_sem]
    · simp [Hid, encM, h]
    · (repeat' (first | (with_reducible exact Below.refl _ _) | (with_reducible assumption) | (with_reducible refine below_drewN ?_ _) | (with_reducible refine Below.drew ?_) | (with_reducible refine Below.setCell ?_ ?_ _) | (with_reducible refine Below.alloc ?_ ?_ _) | (with_reducible refine below_after ?_ ?_ (by assumption)) | (show _ ≤ _; first | omega | (simp; done) | (simp; omega))))
  · have h : chk ⟨dst, src, seq, kind, par, dat⟩ = 0 := eq_of_bne (by assumption)
    refine bodyPost_ret (v := .tuple #[.string (str (madeL ⟨dst, src, seq, kind, par, dat⟩)), .int .i64 0]) ?_ rfl ⟨_, _, rfl, ?_, ?_⟩
    · simp [results, Tryz.results97, go_sem]
    · simp [Hid, encM, h]
    · (repeat' (first | (with_reducible exact Below.refl _ _) | (with_reducible assumption) | (with_reducible refine below_drewN ?_ _) | (with_reducible refine Below.drew ?_) | (with_reducible refine Below.setCell ?_ ?_ _) | (with_reducible refine Below.alloc ?_ ?_ _) | (with_reducible refine below_after ?_ ?_ (by assumption)) | (show _ ≤ _; first | omega | (simp; done) | (simp; omega))))

end Go.Proofs.YtpkhcehddfmhpaaGreat

namespace Go.Proofs.YtpkhcehddfmhpaaGreat
open Go.RowKit

set_option maxHeartbeats 8000000 in
set_option maxRecDepth 100000 in
theorem refdec_any (s : ByteArray) (w : World) (hs : s.size ≤ 100000) :
    Calls Tryz.prog 99 #[.string s] w fun e w' => ∃ m n, e = .returned (.tuple #[msgV m, .int .i64 n]) ∧ Hid (decM s.data.toList = (m, n)) ∧ Below w.heap.size w w' := by
  by_cases h21 : s.size < 21
  · go_enter Tryz.func99, Tryz.ntmps99
    go_wp2
    refine bodyPost_ret (v := .tuple #[msgV zeroM, .int .i64 20]) ?_ rfl ⟨_, _, rfl, ?_, ?_⟩
    · simp [results, Tryz.results99, go_sem, zeroM]
    · simp [Hid, decM, h21]
    · (repeat' (first | (with_reducible exact Below.refl _ _) | (with_reducible assumption) | (with_reducible refine below_drewN ?_ _) | (with_reducible refine Below.drew ?_) | (with_reducible refine Below.setCell ?_ ?_ _) | (with_reducible refine Below.alloc ?_ ?_ _) | (with_reducible refine below_after ?_ ?_ (by assumption)) | (show _ ≤ _; first | omega | (simp; done) | (simp; omega))))
  have hdec := fun n => decM_eq s n (by omega)
  have x0 := s[0].toNat_lt
  have x1 := s[1].toNat_lt
  have x18 := s[18].toNat_lt
  obtain ⟨k0, hk0⟩ : ∃ k, s[0].toNat = k := ⟨_, rfl⟩
  obtain ⟨k1, hk1⟩ : ∃ k, s[1].toNat = k := ⟨_, rfl⟩
  obtain ⟨n, hn⟩ : ∃ k, s[18].toNat = k := ⟨_, rfl⟩
  have hmsg := msgL_eq s n (by omega) hn
  have b3 := numOf_lt (s.extract 16 18).data.toList
  rw [show (s.extract 16 18).data.toList.length = 2 from by simp; omega] at b3
  obtain ⟨q14, hq14⟩ : ∃ k, s[14].toNat = k := ⟨_, rfl⟩
  obtain ⟨q15, hq15⟩ : ∃ k, s[15].toNat = k := ⟨_, rfl⟩
  have x14 := s[14].toNat_lt
  have x15 := s[15].toNat_lt
  rw [hq14] at hmsg x14
  rw [hq15] at hmsg x15
  obtain ⟨q16, hq16⟩ : ∃ k, numOf (s.extract 16 18).data.toList = k := ⟨_, rfl⟩
  have e16 := refnumber_any (s.extract 16 18) (hs := by simp only [ByteArray.size_extract]; omega)
  rw [hq16] at hmsg b3 e16
  obtain ⟨q2, hq2⟩ : ∃ k, numOf (s.extract 2 8).data.toList = k := ⟨_, rfl⟩
  have e2 := refnumber_any (s.extract 2 8) (hs := by simp only [ByteArray.size_extract]; omega)
  rw [hq2] at hmsg e2
  obtain ⟨q8, hq8⟩ : ∃ k, numOf (s.extract 8 14).data.toList = k := ⟨_, rfl⟩
  have e8 := refnumber_any (s.extract 8 14) (hs := by simp only [ByteArray.size_extract]; omega)
  rw [hq8] at hmsg e8
  have HMS := Lib.hid hmsg
  have E2 := Lib.hid e2
  have E8 := Lib.hid e8
  have E16 := Lib.hid e16
  clear hmsg e2 e8 e16 hq2 hq8 hq16
  have HD := Lib.hid (hdec n hn)
  rw [hk0, hk1] at HD
  clear hdec
  rw [hk0] at x0
  rw [hk1] at x1
  rw [hn] at x18
  have wn : IntKind.i64.wrap (n : Int) = n := IntWalk.i64_in _ (by omega)
  have wm : IntKind.i64.wrap (21 + (n : Int)) = ((21 + n : Nat) : Int) := by rw [IntWalk.i64_in _ (by omega)]; omega
  go_enter Tryz.func99, Tryz.ntmps99
  go_wp2_with fail
  · have h : k1 ≠ 1 := by have := ne_of_bne (by assumption : ((k1 : Int) != 1) = true); omega
    refine bodyPost_ret (v := .tuple #[msgV zeroM, .int .i64 3]) ?_ rfl ⟨_, _, rfl, ?_, ?_⟩
    · simp [results, Tryz.results99, go_sem, zeroM]
    · rw [HD.out, if_pos (.inr h)]; rfl
    · (repeat' (first | (with_reducible exact Below.refl _ _) | (with_reducible assumption) | (with_reducible refine below_drewN ?_ _) | (with_reducible refine Below.drew ?_) | (with_reducible refine Below.setCell ?_ ?_ _) | (with_reducible refine Below.alloc ?_ ?_ _) | (with_reducible refine below_after ?_ ?_ (by assumption)) | (show _ ≤ _; first | omega | (simp; done) | (simp; omega))))
  · have g2 : (k1 : Int) = 1 := eq_of_bne (by assumption)
    refine bodyPost_ret (v := .tuple #[msgV zeroM, .int .i64 20]) ?_ rfl ⟨_, _, rfl, ?_, ?_⟩
    · simp [results, Tryz.results99, go_sem, zeroM]
    · have f1 : ¬ (k0 ≠ 204 ∨ k1 ≠ 1) := by omega
      have f2 : s.size < 21 + n := by omega
      rw [HD.out, if_neg f1, if_pos f2]; rfl
    · (repeat' (first | (with_reducible exact Below.refl _ _) | (with_reducible assumption) | (with_reducible refine below_drewN ?_ _) | (with_reducible refine Below.drew ?_) | (with_reducible refine Below.setCell ?_ ?_ _) | (with_reducible refine Below.alloc ?_ ?_ _) | (with_reducible refine below_after ?_ ?_ (by assumption)) | (show _ ≤ _; first | omega | (simp; done) | (simp; omega))))
  · have g2 : (k1 : Int) = 1 := eq_of_bne (by assumption)
    refine bodyPost_ret (v := .tuple #[msgV zeroM, .int .i64 13]) ?_ rfl ⟨_, _, rfl, ?_, ?_⟩
    · simp [results, Tryz.results99, go_sem, zeroM]
    · have f1 : ¬ (k0 ≠ 204 ∨ k1 ≠ 1) := by omega
      have f2 : ¬ s.size < 21 + n := by omega
      have f3 : 21 + n < s.size := by omega
      rw [HD.out, if_neg f1, if_neg f2, if_pos f3]; rfl
    · (repeat' (first | (with_reducible exact Below.refl _ _) | (with_reducible assumption) | (with_reducible refine below_drewN ?_ _) | (with_reducible refine Below.drew ?_) | (with_reducible refine Below.setCell ?_ ?_ _) | (with_reducible refine Below.alloc ?_ ?_ _) | (with_reducible refine below_after ?_ ?_ (by assumption)) | (show _ ≤ _; first | omega | (simp; done) | (simp; omega))))
  · have g2 : (k1 : Int) = 1 := eq_of_bne (by assumption)
    have g3 : s.size = 21 + n := by omega
    have g4 : IntKind.i64.wrap (21 + (n : Int) - 2) = 21 + (n : Int) - 2 := IntWalk.i64_in _ (by omega)
    have g5 : (0 : Int) ≤ 21 + (n : Int) - 2 := by omega
    have g6 : 21 + (n : Int) - 2 ≤ 21 + (n : Int) := by omega
    have g9 : (0 : Int) ≤ 21 + (n : Int) := by omega
    have g7 : (21 + (n : Int) - 2).toNat = 19 + n := by omega
    have g8 : (2 : Int) ≤ 21 + (n : Int) := by omega
    have ga := numOf_lt (List.take (21 + n - (19 + n)) (List.drop (19 + n) s.data.toList))
    have gl : (List.take (21 + n - (19 + n)) (List.drop (19 + n) s.data.toList)).length = 2 := by simp; omega
    rw [gl] at ga
    have GS : Hid (sumBad s n = decide (numOf (List.take (21 + n - (19 + n)) (List.drop (19 + n) s.data.toList)) ≠ sumN (List.take (19 + n) s.data.toList) % 65536)) := by simp [Hid, sumBad]
    obtain ⟨a, ha⟩ : ∃ a, numOf (List.take (21 + n - (19 + n)) (List.drop (19 + n) s.data.toList)) = a := ⟨_, rfl⟩
    obtain ⟨b, hb⟩ : ∃ b, sumN (List.take (19 + n) s.data.toList) = b := ⟨_, rfl⟩
    rw [ha] at ga
    have GS2 : Hid (sumBad s n = decide (a ≠ b % 65536)) := by rw [← ha, ← hb]; exact GS
    clear GS gl
    have gw : IntKind.i64.wrap (a : Int) = a := IntWalk.i64_in _ (by omega)
    obtain ⟨bq, hbq⟩ : ∃ q, ((a : Int) != (b : Int) % 65536) = q := ⟨_, rfl⟩
    have GB : Hid (sumBad s n = bq) := by rw [GS2.out, ← hbq]; simp [Hid]; grind
    clear GS2
    go_region_held3 (fun w' => w'.heap.size = w.heap.size + 1) (go_keep)
      (first | (go_at_call 132; refine (refnumber_any _ _ (by simp [ByteArray.size_extract]; omega)).mono ?_; rintro e w' ⟨rfl, rfl⟩) | (go_at_call 135; refine (refsum_any _ _ (by simp [ByteArray.size_extract]; omega)).mono ?_; rintro e w' ⟨rfl, rfl⟩))
    clear ha hb hbq
    cases bq
    · have t1 : (8 : Int) ≤ 21 + n := by omega
      have t3 : (14 : Int) ≤ 21 + n := by omega
      have t4 : (18 : Int) ≤ 21 + n := by omega
      have t2 : (19 : Int) ≤ 21 + n - 2 := by omega
      have h14 : (14 : Int) < 21 + n := by omega
      have h15 : (15 : Int) < 21 + n := by omega
      have hrest : decM s.data.toList = rightM ⟨q2, q8, q14, q15, q16, s.extract 19 (19 + n)⟩ := by
        have f1 : ¬ (k0 ≠ 204 ∨ k1 ≠ 1) := by omega
        have f2 : ¬ s.size < 21 + n := by omega
        have f3 : ¬ 21 + n < s.size := by omega
        have f4 : ¬ sumBad s n = true := by rw [GB.out]; simp
        rw [HD.out, if_neg f1, if_neg f2, if_neg f3, if_neg f4, HMS.out]
      have HRS := Lib.hid hrest
      have wq14 : IntKind.i64.wrap (q14 : Int) = q14 := IntWalk.i64_in _ (by omega)
      have wq15 : IntKind.i64.wrap (q15 : Int) = q15 := IntWalk.i64_in _ (by omega)
      have wq16 : IntKind.i64.wrap (q16 : Int) = q16 := IntWalk.i64_in _ (by omega)
      have WQ14 := Lib.hid wq14
      have WQ15 := Lib.hid wq15
      have WQ16 := Lib.hid wq16
      clear HD GB HMS hrest wq14 wq15 wq16
      go_wp2_with fail
      clear ga gw g5 g9 x0 x1 x18 g2 hk0 hk1 hn
      go_cut [5] (fun s5 wx => ∃ k : Nat, s5 = .pointer (some ⟨k, 0, none⟩) ∧ w.heap.size < k ∧ RowAt wx w.heap.size 52 #[.int .u64 0, .int .u64 0, .int .i64 0, .int .i64 0, .int .i64 0, .string ⟨#[]⟩] ∧ RowAt wx k 52 #[.int .u64 (q2 : Int), .int .u64 (q8 : Int), .int .i64 (IntKind.i64.wrap (q14 : Int)), .int .i64 (IntKind.i64.wrap (q15 : Int)), .int .i64 (IntKind.i64.wrap (q16 : Int)), .string (s.extract 19 (19 + n))] ∧ Below w.heap.size w wx)
      case first =>
        (try clear hs); (try clear h21)
        -- TREE
        refine wp_region_noPanic ?_
        refine wp_region_held_drew (S := (fun _ => True)) (by kernel_rfl) trivial (fun hHeld => ?_)
        refine wpAnyH_take (i := 0) (oi := _) (v := ?_) rfl (by kernel_rfl) (by kernel_rfl) (by kernel_rfl) (fun _ _ _ h => h) (Or.inl ⟨by rfl, ?_⟩) (by assumption) ?_
        rotate_left
        · intro w' hSw
          go_simp
          (try with_reducible rfl)
        (try simp only [Act.put, List.setIfInBounds_toArray, List.set_cons_zero, List.set_cons_succ, List.getElem_toArray, List.getElem_cons_zero])
        refine wpAnyH_take (i := 1) (oi := _) (v := ?_) rfl (by kernel_rfl) (by kernel_rfl) (by kernel_rfl) (fun _ _ _ h => h) (Or.inl ⟨by rfl, ?_⟩) (by assumption) ?_
        rotate_left
        · intro w' hSw
          go_simp
          (try with_reducible rfl)
        (try simp only [Act.put, List.setIfInBounds_toArray, List.set_cons_zero, List.set_cons_succ, List.getElem_toArray, List.getElem_cons_succ, List.getElem_cons_zero])
        refine wpAnyH_take (i := 3) (oi := _) (v := ?_) rfl (by kernel_rfl) (by kernel_rfl) (by kernel_rfl) (fun _ _ _ h => h) (Or.inl ⟨by rfl, ?_⟩) (by assumption) ?_
        rotate_left
        · intro w' hSw
          go_simp
          (try with_reducible rfl)
        (try simp only [Act.put, List.setIfInBounds_toArray, List.set_cons_zero, List.set_cons_succ, List.getElem_toArray, List.getElem_cons_succ, List.getElem_cons_zero])
        refine wpAnyH_take (i := 4) (oi := _) (v := ?_) rfl (by kernel_rfl) (by kernel_rfl) (by kernel_rfl) (fun _ _ _ h => h) (Or.inl ⟨by rfl, ?_⟩) (by assumption) ?_
        rotate_left
        · intro w' hSw
          go_simp
          (try with_reducible rfl)
        (try simp only [Act.put, List.setIfInBounds_toArray, List.set_cons_zero, List.set_cons_succ, List.getElem_toArray, List.getElem_cons_succ, List.getElem_cons_zero])
        refine wpAnyH_take (i := 6) (oi := _) (v := ?_) rfl (by kernel_rfl) (by kernel_rfl) (by kernel_rfl) (fun _ _ _ h => h) (Or.inl ⟨by rfl, ?_⟩) (by assumption) ?_
        rotate_left
        · intro w' hSw
          go_simp
          (try with_reducible rfl)
        (try simp only [Act.put, List.setIfInBounds_toArray, List.set_cons_zero, List.set_cons_succ, List.getElem_toArray, List.getElem_cons_succ, List.getElem_cons_zero])
        refine wpAnyH_take (i := 7) (oi := _) (v := ?_) rfl (by kernel_rfl) (by kernel_rfl) (by kernel_rfl) (fun _ _ _ h => h) (Or.inl ⟨by rfl, ?_⟩) (by assumption) ?_
        rotate_left
        · intro w' hSw
          go_simp
          (try with_reducible rfl)
        (try simp only [Act.put, List.setIfInBounds_toArray, List.set_cons_zero, List.set_cons_succ, List.getElem_toArray, List.getElem_cons_succ, List.getElem_cons_zero])
        refine wpAnyH_take (i := 8) (oi := _) (v := ?_) rfl (by kernel_rfl) (by kernel_rfl) (by kernel_rfl) (fun _ _ _ h => h) (Or.inl ⟨by rfl, ?_⟩) (by assumption) ?_
        rotate_left
        · intro w' hSw
          go_simp
          (try with_reducible rfl)
        (try simp only [Act.put, List.setIfInBounds_toArray, List.set_cons_zero, List.set_cons_succ, List.getElem_toArray, List.getElem_cons_succ, List.getElem_cons_zero])
        refine wpAnyH_take (i := 9) (oi := _) (v := ?_) rfl (by kernel_rfl) (by kernel_rfl) (by kernel_rfl) (fun _ _ _ h => h) (Or.inl ⟨by rfl, ?_⟩) (by assumption) ?_
        rotate_left
        · intro w' hSw
          go_simp
          (try with_reducible rfl)
        (try simp only [Act.put, List.setIfInBounds_toArray, List.set_cons_zero, List.set_cons_succ, List.getElem_toArray, List.getElem_cons_succ, List.getElem_cons_zero])
        refine wpAnyH_take (i := 10) (oi := _) (v := ?_) rfl (by kernel_rfl) (by kernel_rfl) (by kernel_rfl) (fun _ _ _ h => h) (Or.inl ⟨by rfl, ?_⟩) (by assumption) ?_
        rotate_left
        · intro w' hSw
          go_simp
          (try with_reducible rfl)
        (try simp only [Act.put, List.setIfInBounds_toArray, List.set_cons_zero, List.set_cons_succ, List.getElem_toArray, List.getElem_cons_succ, List.getElem_cons_zero])
        refine wpAnyH_take (i := 11) (oi := _) (v := ?_) rfl (by kernel_rfl) (by kernel_rfl) (by kernel_rfl) (fun _ _ _ h => h) (Or.inl ⟨by rfl, ?_⟩) (by assumption) ?_
        rotate_left
        · intro w' hSw
          go_simp
          (try with_reducible rfl)
        (try simp only [Act.put, List.setIfInBounds_toArray, List.set_cons_zero, List.set_cons_succ, List.getElem_toArray, List.getElem_cons_succ, List.getElem_cons_zero])
        refine wpAnyH_take (i := 12) (oi := _) (v := ?_) rfl (by kernel_rfl) (by kernel_rfl) (by kernel_rfl) (fun _ _ _ h => h) (Or.inl ⟨by rfl, ?_⟩) (by assumption) ?_
        rotate_left
        · intro w' hSw
          go_simp
          (try with_reducible rfl)
        (try simp only [Act.put, List.setIfInBounds_toArray, List.set_cons_zero, List.set_cons_succ, List.getElem_toArray, List.getElem_cons_succ, List.getElem_cons_zero])
        refine wpAnyH_take (i := 13) (oi := _) (v := ?_) rfl (by kernel_rfl) (by kernel_rfl) (by kernel_rfl) (fun _ _ _ h => h) (Or.inl ⟨by rfl, ?_⟩) (by assumption) ?_
        rotate_left
        · intro w' hSw
          go_simp
          (try with_reducible rfl)
        (try simp only [Act.put, List.setIfInBounds_toArray, List.set_cons_zero, List.set_cons_succ, List.getElem_toArray, List.getElem_cons_succ, List.getElem_cons_zero])
        refine wpAnyH_take (i := 16) (oi := _) (v := ?_) rfl (by kernel_rfl) (by kernel_rfl) (by kernel_rfl) (fun _ _ _ h => h) (Or.inl ⟨by rfl, ?_⟩) (by assumption) ?_
        rotate_left
        · intro w' hSw
          go_simp
          (try with_reducible rfl)
        (try simp only [Act.put, List.setIfInBounds_toArray, List.set_cons_zero, List.set_cons_succ, List.getElem_toArray, List.getElem_cons_succ, List.getElem_cons_zero])
        refine wpAnyH_take (i := 17) (oi := _) (v := ?_) rfl (by kernel_rfl) (by kernel_rfl) (by kernel_rfl) (fun _ _ _ h => h) (Or.inl ⟨by rfl, ?_⟩) (by assumption) ?_
        rotate_left
        · intro w' hSw
          go_simp
          (try with_reducible rfl)
        (try simp only [Act.put, List.setIfInBounds_toArray, List.set_cons_zero, List.set_cons_succ, List.getElem_toArray, List.getElem_cons_succ, List.getElem_cons_zero])
        refine wpAnyH_take (i := 18) (oi := _) (v := ?_) rfl (by kernel_rfl) (by kernel_rfl) (by kernel_rfl) (fun _ _ _ h => h) (Or.inl ⟨by rfl, ?_⟩) (by assumption) ?_
        rotate_left
        · intro w' hSw
          go_simp
          (try with_reducible rfl)
        (try simp only [Act.put, List.setIfInBounds_toArray, List.set_cons_zero, List.set_cons_succ, List.getElem_toArray, List.getElem_cons_succ, List.getElem_cons_zero])
        refine wpAnyH_take (i := 19) (oi := _) (v := ?_) rfl (by kernel_rfl) (by kernel_rfl) (by kernel_rfl) (fun _ _ _ h => h) (Or.inl ⟨by rfl, ?_⟩) (by assumption) ?_
        rotate_left
        · intro w' hSw
          go_simp
          (try with_reducible rfl)
        (try simp only [Act.put, List.setIfInBounds_toArray, List.set_cons_zero, List.set_cons_succ, List.getElem_toArray, List.getElem_cons_succ, List.getElem_cons_zero])
        refine wpAnyH_ready (rs := [2, 21]) (by kernel_rfl) (by simp) ?_
        refine AllReadyH.cons (o := _) rfl (fun K hK => ?_) (AllReadyH.cons (o := _) rfl (fun K hK => ?_) (AllReadyH.nil))
        · go_simp
          (go_at_call 132; with_reducible refine (E2.out _).mono ?_; rintro e w' ⟨rfl, rfl⟩)
          refine hK.out _ _ trivial (fun hHeld => ?_)
          (try simp only [Act.put, List.setIfInBounds_toArray, List.set_cons_zero, List.set_cons_succ, List.getElem_toArray, List.getElem_cons_succ, List.getElem_cons_zero])
          refine wpAnyH_ready (rs := [5, 21]) (by kernel_rfl) (by simp) ?_
          refine AllReadyH.cons (o := _) rfl (fun K hK => ?_) (AllReadyH.cons (o := _) rfl (fun K hK => ?_) (AllReadyH.nil))
          · go_simp
            (go_at_call 132; with_reducible refine (E8.out _).mono ?_; rintro e w' ⟨rfl, rfl⟩)
            refine hK.out _ _ trivial (fun hHeld => ?_)
            (try simp only [Act.put, List.setIfInBounds_toArray, List.set_cons_zero, List.set_cons_succ, List.getElem_toArray, List.getElem_cons_succ, List.getElem_cons_zero])
            refine wpAnyH_ready (rs := [14, 21]) (by kernel_rfl) (by simp) ?_
            refine AllReadyH.cons (o := _) rfl (fun K hK => ?_) (AllReadyH.cons (o := _) rfl (fun K hK => ?_) (AllReadyH.nil))
            · go_simp
              (go_at_call 132; with_reducible refine (E16.out _).mono ?_; rintro e w' ⟨rfl, rfl⟩)
              refine hK.out _ _ trivial (fun hHeld => ?_)
              (try simp only [Act.put, List.setIfInBounds_toArray, List.set_cons_zero, List.set_cons_succ, List.getElem_toArray, List.getElem_cons_succ, List.getElem_cons_zero])
              refine wpAnyH_take (i := 15) (oi := _) (v := ?_) rfl (by kernel_rfl) (by kernel_rfl) (by kernel_rfl) (fun _ _ _ h => h) (Or.inl ⟨by rfl, ?_⟩) (by assumption) ?_
              rotate_left
              · intro w' hSw
                go_simp
                (try with_reducible rfl)
              (try simp only [Act.put, List.setIfInBounds_toArray, List.set_cons_zero, List.set_cons_succ, List.getElem_toArray, List.getElem_cons_succ, List.getElem_cons_zero])
              refine wpAnyH_take (i := 20) (oi := _) (v := ?_) rfl (by kernel_rfl) (by kernel_rfl) (by kernel_rfl) (fun _ _ _ h => h) (Or.inl ⟨by rfl, ?_⟩) (by assumption) ?_
              rotate_left
              · intro w' hSw
                go_simp
                (try with_reducible rfl)
              (try simp only [Act.put, List.setIfInBounds_toArray, List.set_cons_zero, List.set_cons_succ, List.getElem_toArray, List.getElem_cons_succ, List.getElem_cons_zero])
              refine wpAnyH_ready (rs := [21]) (by kernel_rfl) (by simp) ?_
              refine AllReadyH.cons (o := _) rfl (fun K hK => ?_) (AllReadyH.nil)
              · go_simp
                refine hK.out _ _ trivial (fun hHeld => ?_)
                (try simp only [Act.put, List.setIfInBounds_toArray, List.set_cons_zero, List.set_cons_succ, List.getElem_toArray, List.getElem_cons_succ, List.getElem_cons_zero])
                refine wpAnyH_ready (rs := [22]) (by kernel_rfl) (by simp) ?_
                refine AllReadyH.cons (o := _) rfl (fun K hK => ?_) (AllReadyH.nil)
                · go_simp
                  refine hK.out _ _ trivial (fun hHeld => ?_)
                  (try simp only [Act.put, List.setIfInBounds_toArray, List.set_cons_zero, List.set_cons_succ, List.getElem_toArray, List.getElem_cons_succ, List.getElem_cons_zero])
                  refine wpAnyH_done (by kernel_rfl) ?_ _
                  refine NoPanic.normal ?_
                  go_wp2_with fail
                  go_meet
                  refine ⟨_, rfl, ?_, ?_, ?_, ?_⟩
                  · first | (simp; done) | (simp; omega) | omega
                  · ((repeat' (first | (with_reducible assumption) | (with_reducible refine RowAt.drewN ?_ _) | (with_reducible refine RowAt.drew ?_) | (with_reducible apply RowAt.seven) | (with_reducible apply RowAt.six) | (with_reducible refine RowAt.far7 ?_ ?_) | (with_reducible refine RowAt.far6 ?_ ?_) | (with_reducible refine RowAt.far1 ?_ ?_) | ((with_reducible refine RowAt.mk ?_ ?_); (focus (first | (with_reducible rfl) | (simp; done))); rfl) | (with_reducible refine RowAt.alloc ?_ _) | (with_reducible refine RowAt.run ?_ (by assumption)) | (with_reducible refine RowAt.below ?_ (by assumption) ?_) | (with_reducible refine RowAt.upd ?_ (by assumption) ?_) | (with_reducible show _ < _; first | omega | (simp; done) | (simp; omega)) | (with_reducible show ¬ _ = _; first | omega | (simp; done) | (simp; omega)) | (with_reducible exact rfl))); done)
                  · first | (refine RowAt.drew ?_; refine RowAt.mk (by simp) ?_; first | rfl | (simp; done) | (simp; omega)) | (refine RowAt.mk (by simp) ?_; first | rfl | (simp; done) | (simp; omega)) | ((repeat' (first | (with_reducible assumption) | (with_reducible refine RowAt.drewN ?_ _) | (with_reducible refine RowAt.drew ?_) | (with_reducible apply RowAt.seven) | (with_reducible apply RowAt.six) | (with_reducible refine RowAt.far7 ?_ ?_) | (with_reducible refine RowAt.far6 ?_ ?_) | (with_reducible refine RowAt.far1 ?_ ?_) | ((with_reducible refine RowAt.mk ?_ ?_); (focus (first | (with_reducible rfl) | (simp; done))); rfl) | (with_reducible refine RowAt.alloc ?_ _) | (with_reducible refine RowAt.run ?_ (by assumption)) | (with_reducible refine RowAt.below ?_ (by assumption) ?_) | (with_reducible refine RowAt.upd ?_ (by assumption) ?_) | (with_reducible show _ < _; first | omega | (simp; done) | (simp; omega)) | (with_reducible show ¬ _ = _; first | omega | (simp; done) | (simp; omega)) | (with_reducible exact rfl))); done)
                  · ((repeat' (first | (with_reducible exact Below.refl _ _) | (with_reducible assumption) | (with_reducible refine below_run ?_ (by assumption)) | (with_reducible refine below_of_upd ?_ (by assumption) ?_) | (with_reducible refine below_drewN ?_ _) | (with_reducible refine Below.drew ?_) | (with_reducible refine below_seven ?_ ?_) | (with_reducible refine below_six ?_ ?_) | (with_reducible refine below_one ?_ ?_) | (with_reducible refine Below.alloc ?_ ?_ _) | (with_reducible refine below_after ?_ ?_ (by assumption)) | (show _ ≤ _; first | omega | (simp; done) | (simp; omega)))); done)
            · go_simp
              refine hK.out _ _ trivial (fun hHeld => ?_)
              (try simp only [Act.put, List.setIfInBounds_toArray, List.set_cons_zero, List.set_cons_succ, List.getElem_toArray, List.getElem_cons_succ, List.getElem_cons_zero])
              refine wpAnyH_ready (rs := [14]) (by kernel_rfl) (by simp) ?_
              refine AllReadyH.cons (o := _) rfl (fun K hK => ?_) (AllReadyH.nil)
              · go_simp
                (go_at_call 132; with_reducible refine (E16.out _).mono ?_; rintro e w' ⟨rfl, rfl⟩)
                refine hK.out _ _ trivial (fun hHeld => ?_)
                (try simp only [Act.put, List.setIfInBounds_toArray, List.set_cons_zero, List.set_cons_succ, List.getElem_toArray, List.getElem_cons_succ, List.getElem_cons_zero])
                refine wpAnyH_take (i := 15) (oi := _) (v := ?_) rfl (by kernel_rfl) (by kernel_rfl) (by kernel_rfl) (fun _ _ _ h => h) (Or.inl ⟨by rfl, ?_⟩) (by assumption) ?_
                rotate_left
                · intro w' hSw
                  go_simp
                  (try with_reducible rfl)
                (try simp only [Act.put, List.setIfInBounds_toArray, List.set_cons_zero, List.set_cons_succ, List.getElem_toArray, List.getElem_cons_succ, List.getElem_cons_zero])
                refine wpAnyH_take (i := 20) (oi := _) (v := ?_) rfl (by kernel_rfl) (by kernel_rfl) (by kernel_rfl) (fun _ _ _ h => h) (Or.inl ⟨by rfl, ?_⟩) (by assumption) ?_
                rotate_left
                · intro w' hSw
                  go_simp
                  (try with_reducible rfl)
                (try simp only [Act.put, List.setIfInBounds_toArray, List.set_cons_zero, List.set_cons_succ, List.getElem_toArray, List.getElem_cons_succ, List.getElem_cons_zero])
                refine wpAnyH_ready (rs := [22]) (by kernel_rfl) (by simp) ?_
                refine AllReadyH.cons (o := _) rfl (fun K hK => ?_) (AllReadyH.nil)
                · go_simp
                  refine hK.out _ _ trivial (fun hHeld => ?_)
                  (try simp only [Act.put, List.setIfInBounds_toArray, List.set_cons_zero, List.set_cons_succ, List.getElem_toArray, List.getElem_cons_succ, List.getElem_cons_zero])
                  refine wpAnyH_done (by kernel_rfl) ?_ _
                  refine NoPanic.normal ?_
                  go_wp2_with fail
                  go_meet
                  refine ⟨_, rfl, ?_, ?_, ?_, ?_⟩
                  · first | (simp; done) | (simp; omega) | omega
                  · ((repeat' (first | (with_reducible assumption) | (with_reducible refine RowAt.drewN ?_ _) | (with_reducible refine RowAt.drew ?_) | (with_reducible apply RowAt.seven) | (with_reducible apply RowAt.six) | (with_reducible refine RowAt.far7 ?_ ?_) | (with_reducible refine RowAt.far6 ?_ ?_) | (with_reducible refine RowAt.far1 ?_ ?_) | ((with_reducible refine RowAt.mk ?_ ?_); (focus (first | (with_reducible rfl) | (simp; done))); rfl) | (with_reducible refine RowAt.alloc ?_ _) | (with_reducible refine RowAt.run ?_ (by assumption)) | (with_reducible refine RowAt.below ?_ (by assumption) ?_) | (with_reducible refine RowAt.upd ?_ (by assumption) ?_) | (with_reducible show _ < _; first | omega | (simp; done) | (simp; omega)) | (with_reducible show ¬ _ = _; first | omega | (simp; done) | (simp; omega)) | (with_reducible exact rfl))); done)
                  · first | (refine RowAt.drew ?_; refine RowAt.mk (by simp) ?_; first | rfl | (simp; done) | (simp; omega)) | (refine RowAt.mk (by simp) ?_; first | rfl | (simp; done) | (simp; omega)) | ((repeat' (first | (with_reducible assumption) | (with_reducible refine RowAt.drewN ?_ _) | (with_reducible refine RowAt.drew ?_) | (with_reducible apply RowAt.seven) | (with_reducible apply RowAt.six) | (with_reducible refine RowAt.far7 ?_ ?_) | (with_reducible refine RowAt.far6 ?_ ?_) | (with_reducible refine RowAt.far1 ?_ ?_) | ((with_reducible refine RowAt.mk ?_ ?_); (focus (first | (with_reducible rfl) | (simp; done))); rfl) | (with_reducible refine RowAt.alloc ?_ _) | (with_reducible refine RowAt.run ?_ (by assumption)) | (with_reducible refine RowAt.below ?_ (by assumption) ?_) | (with_reducible refine RowAt.upd ?_ (by assumption) ?_) | (with_reducible show _ < _; first | omega | (simp; done) | (simp; omega)) | (with_reducible show ¬ _ = _; first | omega | (simp; done) | (simp; omega)) | (with_reducible exact rfl))); done)
                  · ((repeat' (first | (with_reducible exact Below.refl _ _) | (with_reducible assumption) | (with_reducible refine below_run ?_ (by assumption)) | (with_reducible refine below_of_upd ?_ (by assumption) ?_) | (with_reducible refine below_drewN ?_ _) | (with_reducible refine Below.drew ?_) | (with_reducible refine below_seven ?_ ?_) | (with_reducible refine below_six ?_ ?_) | (with_reducible refine below_one ?_ ?_) | (with_reducible refine Below.alloc ?_ ?_ _) | (with_reducible refine below_after ?_ ?_ (by assumption)) | (show _ ≤ _; first | omega | (simp; done) | (simp; omega)))); done)
          · go_simp
            refine hK.out _ _ trivial (fun hHeld => ?_)
            (try simp only [Act.put, List.setIfInBounds_toArray, List.set_cons_zero, List.set_cons_succ, List.getElem_toArray, List.getElem_cons_succ, List.getElem_cons_zero])
            refine wpAnyH_ready (rs := [5]) (by kernel_rfl) (by simp) ?_
            refine AllReadyH.cons (o := _) rfl (fun K hK => ?_) (AllReadyH.nil)
            · go_simp
              (go_at_call 132; with_reducible refine (E8.out _).mono ?_; rintro e w' ⟨rfl, rfl⟩)
              refine hK.out _ _ trivial (fun hHeld => ?_)
              (try simp only [Act.put, List.setIfInBounds_toArray, List.set_cons_zero, List.set_cons_succ, List.getElem_toArray, List.getElem_cons_succ, List.getElem_cons_zero])
              refine wpAnyH_ready (rs := [14]) (by kernel_rfl) (by simp) ?_
              refine AllReadyH.cons (o := _) rfl (fun K hK => ?_) (AllReadyH.nil)
              · go_simp
                (go_at_call 132; with_reducible refine (E16.out _).mono ?_; rintro e w' ⟨rfl, rfl⟩)
                refine hK.out _ _ trivial (fun hHeld => ?_)
                (try simp only [Act.put, List.setIfInBounds_toArray, List.set_cons_zero, List.set_cons_succ, List.getElem_toArray, List.getElem_cons_succ, List.getElem_cons_zero])
                refine wpAnyH_take (i := 15) (oi := _) (v := ?_) rfl (by kernel_rfl) (by kernel_rfl) (by kernel_rfl) (fun _ _ _ h => h) (Or.inl ⟨by rfl, ?_⟩) (by assumption) ?_
                rotate_left
                · intro w' hSw
                  go_simp
                  (try with_reducible rfl)
                (try simp only [Act.put, List.setIfInBounds_toArray, List.set_cons_zero, List.set_cons_succ, List.getElem_toArray, List.getElem_cons_succ, List.getElem_cons_zero])
                refine wpAnyH_take (i := 20) (oi := _) (v := ?_) rfl (by kernel_rfl) (by kernel_rfl) (by kernel_rfl) (fun _ _ _ h => h) (Or.inl ⟨by rfl, ?_⟩) (by assumption) ?_
                rotate_left
                · intro w' hSw
                  go_simp
                  (try with_reducible rfl)
                (try simp only [Act.put, List.setIfInBounds_toArray, List.set_cons_zero, List.set_cons_succ, List.getElem_toArray, List.getElem_cons_succ, List.getElem_cons_zero])
                refine wpAnyH_ready (rs := [22]) (by kernel_rfl) (by simp) ?_
                refine AllReadyH.cons (o := _) rfl (fun K hK => ?_) (AllReadyH.nil)
                · go_simp
                  refine hK.out _ _ trivial (fun hHeld => ?_)
                  (try simp only [Act.put, List.setIfInBounds_toArray, List.set_cons_zero, List.set_cons_succ, List.getElem_toArray, List.getElem_cons_succ, List.getElem_cons_zero])
                  refine wpAnyH_done (by kernel_rfl) ?_ _
                  refine NoPanic.normal ?_
                  go_wp2_with fail
                  go_meet
                  refine ⟨_, rfl, ?_, ?_, ?_, ?_⟩
                  · first | (simp; done) | (simp; omega) | omega
                  · ((repeat' (first | (with_reducible assumption) | (with_reducible refine RowAt.drewN ?_ _) | (with_reducible refine RowAt.drew ?_) | (with_reducible apply RowAt.seven) | (with_reducible apply RowAt.six) | (with_reducible refine RowAt.far7 ?_ ?_) | (with_reducible refine RowAt.far6 ?_ ?_) | (with_reducible refine RowAt.far1 ?_ ?_) | ((with_reducible refine RowAt.mk ?_ ?_); (focus (first | (with_reducible rfl) | (simp; done))); rfl) | (with_reducible refine RowAt.alloc ?_ _) | (with_reducible refine RowAt.run ?_ (by assumption)) | (with_reducible refine RowAt.below ?_ (by assumption) ?_) | (with_reducible refine RowAt.upd ?_ (by assumption) ?_) | (with_reducible show _ < _; first | omega | (simp; done) | (simp; omega)) | (with_reducible show ¬ _ = _; first | omega | (simp; done) | (simp; omega)) | (with_reducible exact rfl))); done)
                  · first | (refine RowAt.drew ?_; refine RowAt.mk (by simp) ?_; first | rfl | (simp; done) | (simp; omega)) | (refine RowAt.mk (by simp) ?_; first | rfl | (simp; done) | (simp; omega)) | ((repeat' (first | (with_reducible assumption) | (with_reducible refine RowAt.drewN ?_ _) | (with_reducible refine RowAt.drew ?_) | (with_reducible apply RowAt.seven) | (with_reducible apply RowAt.six) | (with_reducible refine RowAt.far7 ?_ ?_) | (with_reducible refine RowAt.far6 ?_ ?_) | (with_reducible refine RowAt.far1 ?_ ?_) | ((with_reducible refine RowAt.mk ?_ ?_); (focus (first | (with_reducible rfl) | (simp; done))); rfl) | (with_reducible refine RowAt.alloc ?_ _) | (with_reducible refine RowAt.run ?_ (by assumption)) | (with_reducible refine RowAt.below ?_ (by assumption) ?_) | (with_reducible refine RowAt.upd ?_ (by assumption) ?_) | (with_reducible show _ < _; first | omega | (simp; done) | (simp; omega)) | (with_reducible show ¬ _ = _; first | omega | (simp; done) | (simp; omega)) | (with_reducible exact rfl))); done)
                  · ((repeat' (first | (with_reducible exact Below.refl _ _) | (with_reducible assumption) | (with_reducible refine below_run ?_ (by assumption)) | (with_reducible refine below_of_upd ?_ (by assumption) ?_) | (with_reducible refine below_drewN ?_ _) | (with_reducible refine Below.drew ?_) | (with_reducible refine below_seven ?_ ?_) | (with_reducible refine below_six ?_ ?_) | (with_reducible refine below_one ?_ ?_) | (with_reducible refine Below.alloc ?_ ?_ _) | (with_reducible refine below_after ?_ ?_ (by assumption)) | (show _ ≤ _; first | omega | (simp; done) | (simp; omega)))); done)
        · go_simp
          refine hK.out _ _ trivial (fun hHeld => ?_)
          (try simp only [Act.put, List.setIfInBounds_toArray, List.set_cons_zero, List.set_cons_succ, List.getElem_toArray, List.getElem_cons_succ, List.getElem_cons_zero])
          refine wpAnyH_ready (rs := [2]) (by kernel_rfl) (by simp) ?_
          refine AllReadyH.cons (o := _) rfl (fun K hK => ?_) (AllReadyH.nil)
          · go_simp
            (go_at_call 132; with_reducible refine (E2.out _).mono ?_; rintro e w' ⟨rfl, rfl⟩)
            refine hK.out _ _ trivial (fun hHeld => ?_)
            (try simp only [Act.put, List.setIfInBounds_toArray, List.set_cons_zero, List.set_cons_succ, List.getElem_toArray, List.getElem_cons_succ, List.getElem_cons_zero])
            refine wpAnyH_ready (rs := [5]) (by kernel_rfl) (by simp) ?_
            refine AllReadyH.cons (o := _) rfl (fun K hK => ?_) (AllReadyH.nil)
            · go_simp
              (go_at_call 132; with_reducible refine (E8.out _).mono ?_; rintro e w' ⟨rfl, rfl⟩)
              refine hK.out _ _ trivial (fun hHeld => ?_)
              (try simp only [Act.put, List.setIfInBounds_toArray, List.set_cons_zero, List.set_cons_succ, List.getElem_toArray, List.getElem_cons_succ, List.getElem_cons_zero])
              refine wpAnyH_ready (rs := [14]) (by kernel_rfl) (by simp) ?_
              refine AllReadyH.cons (o := _) rfl (fun K hK => ?_) (AllReadyH.nil)
              · go_simp
                (go_at_call 132; with_reducible refine (E16.out _).mono ?_; rintro e w' ⟨rfl, rfl⟩)
                refine hK.out _ _ trivial (fun hHeld => ?_)
                (try simp only [Act.put, List.setIfInBounds_toArray, List.set_cons_zero, List.set_cons_succ, List.getElem_toArray, List.getElem_cons_succ, List.getElem_cons_zero])
                refine wpAnyH_take (i := 15) (oi := _) (v := ?_) rfl (by kernel_rfl) (by kernel_rfl) (by kernel_rfl) (fun _ _ _ h => h) (Or.inl ⟨by rfl, ?_⟩) (by assumption) ?_
                rotate_left
                · intro w' hSw
                  go_simp
                  (try with_reducible rfl)
                (try simp only [Act.put, List.setIfInBounds_toArray, List.set_cons_zero, List.set_cons_succ, List.getElem_toArray, List.getElem_cons_succ, List.getElem_cons_zero])
                refine wpAnyH_take (i := 20) (oi := _) (v := ?_) rfl (by kernel_rfl) (by kernel_rfl) (by kernel_rfl) (fun _ _ _ h => h) (Or.inl ⟨by rfl, ?_⟩) (by assumption) ?_
                rotate_left
                · intro w' hSw
                  go_simp
                  (try with_reducible rfl)
                (try simp only [Act.put, List.setIfInBounds_toArray, List.set_cons_zero, List.set_cons_succ, List.getElem_toArray, List.getElem_cons_succ, List.getElem_cons_zero])
                refine wpAnyH_ready (rs := [22]) (by kernel_rfl) (by simp) ?_
                refine AllReadyH.cons (o := _) rfl (fun K hK => ?_) (AllReadyH.nil)
                · go_simp
                  refine hK.out _ _ trivial (fun hHeld => ?_)
                  (try simp only [Act.put, List.setIfInBounds_toArray, List.set_cons_zero, List.set_cons_succ, List.getElem_toArray, List.getElem_cons_succ, List.getElem_cons_zero])
                  refine wpAnyH_done (by kernel_rfl) ?_ _
                  refine NoPanic.normal ?_
                  go_wp2_with fail
                  go_meet
                  refine ⟨_, rfl, ?_, ?_, ?_, ?_⟩
                  · first | (simp; done) | (simp; omega) | omega
                  · ((repeat' (first | (with_reducible assumption) | (with_reducible refine RowAt.drewN ?_ _) | (with_reducible refine RowAt.drew ?_) | (with_reducible apply RowAt.seven) | (with_reducible apply RowAt.six) | (with_reducible refine RowAt.far7 ?_ ?_) | (with_reducible refine RowAt.far6 ?_ ?_) | (with_reducible refine RowAt.far1 ?_ ?_) | ((with_reducible refine RowAt.mk ?_ ?_); (focus (first | (with_reducible rfl) | (simp; done))); rfl) | (with_reducible refine RowAt.alloc ?_ _) | (with_reducible refine RowAt.run ?_ (by assumption)) | (with_reducible refine RowAt.below ?_ (by assumption) ?_) | (with_reducible refine RowAt.upd ?_ (by assumption) ?_) | (with_reducible show _ < _; first | omega | (simp; done) | (simp; omega)) | (with_reducible show ¬ _ = _; first | omega | (simp; done) | (simp; omega)) | (with_reducible exact rfl))); done)
                  · first | (refine RowAt.drew ?_; refine RowAt.mk (by simp) ?_; first | rfl | (simp; done) | (simp; omega)) | (refine RowAt.mk (by simp) ?_; first | rfl | (simp; done) | (simp; omega)) | ((repeat' (first | (with_reducible assumption) | (with_reducible refine RowAt.drewN ?_ _) | (with_reducible refine RowAt.drew ?_) | (with_reducible apply RowAt.seven) | (with_reducible apply RowAt.six) | (with_reducible refine RowAt.far7 ?_ ?_) | (with_reducible refine RowAt.far6 ?_ ?_) | (with_reducible refine RowAt.far1 ?_ ?_) | ((with_reducible refine RowAt.mk ?_ ?_); (focus (first | (with_reducible rfl) | (simp; done))); rfl) | (with_reducible refine RowAt.alloc ?_ _) | (with_reducible refine RowAt.run ?_ (by assumption)) | (with_reducible refine RowAt.below ?_ (by assumption) ?_) | (with_reducible refine RowAt.upd ?_ (by assumption) ?_) | (with_reducible show _ < _; first | omega | (simp; done) | (simp; omega)) | (with_reducible show ¬ _ = _; first | omega | (simp; done) | (simp; omega)) | (with_reducible exact rfl))); done)
                  · ((repeat' (first | (with_reducible exact Below.refl _ _) | (with_reducible assumption) | (with_reducible refine below_run ?_ (by assumption)) | (with_reducible refine below_of_upd ?_ (by assumption) ?_) | (with_reducible refine below_drewN ?_ _) | (with_reducible refine Below.drew ?_) | (with_reducible refine below_seven ?_ ?_) | (with_reducible refine below_six ?_ ?_) | (with_reducible refine below_one ?_ ?_) | (with_reducible refine Below.alloc ?_ ?_ _) | (with_reducible refine below_after ?_ ?_ (by assumption)) | (show _ ≤ _; first | omega | (simp; done) | (simp; omega)))); done)
        -- END
      case rest =>
        obtain ⟨k, rfl, hk, kz, km, kb⟩ := hcut
        rw [WQ14.out, WQ15.out, WQ16.out] at km
        obtain ⟨x1, x2, x3, x4, x5, x6⟩ := row_facts kz
        obtain ⟨y1, y2, y3, y4, y5, y6⟩ := row_facts km
        go_wp2_with (first | (go_at_call 95; refine (refchk_any _ _ _ _ _ _ _).mono ?_; rintro e w5 ⟨rfl, hb5⟩; have rz5 : RowAt w5 w.heap.size 52 #[.int .u64 0, .int .u64 0, .int .i64 0, .int .i64 0, .int .i64 0, .string ⟨#[]⟩] := (by (repeat' (first | (with_reducible assumption) | (with_reducible refine RowAt.drewN ?_ _) | (with_reducible refine RowAt.drew ?_) | (with_reducible apply RowAt.six) | (with_reducible apply RowAt.seven) | ((with_reducible refine RowAt.mk ?_ ?_); (focus (first | rfl | (simp; done))); rfl) | (with_reducible refine RowAt.alloc ?_ _) | (with_reducible refine RowAt.far ?_ ?_) | (with_reducible refine RowAt.run ?_ (by assumption)) | (with_reducible refine RowAt.below ?_ (by assumption) ?_) | (with_reducible refine RowAt.upd ?_ (by assumption) ?_) | (show _ < _; first | omega | (simp; done) | (simp; omega)) | (show ¬ _ = _; first | omega | (simp; done) | (simp; omega)) | exact rfl))); obtain ⟨rz5a, rz5b, rz5c, rz5d, rz5e, rz5f⟩ := row_facts rz5; have rm5 : RowAt w5 k 52 #[.int .u64 (q2 : Int), .int .u64 (q8 : Int), .int .i64 (q14 : Int), .int .i64 (q15 : Int), .int .i64 (q16 : Int), .string (s.extract 19 (19 + n))] := (by (repeat' (first | (with_reducible assumption) | (with_reducible refine RowAt.drewN ?_ _) | (with_reducible refine RowAt.drew ?_) | (with_reducible apply RowAt.six) | (with_reducible apply RowAt.seven) | ((with_reducible refine RowAt.mk ?_ ?_); (focus (first | rfl | (simp; done))); rfl) | (with_reducible refine RowAt.alloc ?_ _) | (with_reducible refine RowAt.far ?_ ?_) | (with_reducible refine RowAt.run ?_ (by assumption)) | (with_reducible refine RowAt.below ?_ (by assumption) ?_) | (with_reducible refine RowAt.upd ?_ (by assumption) ?_) | (show _ < _; first | omega | (simp; done) | (simp; omega)) | (show ¬ _ = _; first | omega | (simp; done) | (simp; omega)) | exact rfl))); obtain ⟨rm5a, rm5b, rm5c, rm5d, rm5e, rm5f⟩ := row_facts rm5))
        · rename (chk _ != 0) = true => hq
          have h : chk ⟨q2, q8, q14, q15, q16, s.extract 19 (19 + n)⟩ ≠ 0 := ne_of_bne hq
          refine bodyPost_ret (v := .tuple #[msgV zeroM, .int .i64 (chk ⟨q2, q8, q14, q15, q16, s.extract 19 (19 + n)⟩)]) ?_ rfl ⟨_, _, rfl, ?_, ?_⟩
          · simp [results, Tryz.results99, go_sem, zeroM, rz5a]
          · rw [HRS.out, rightM, if_neg h]; rfl
          · (repeat' (first | (with_reducible exact Below.refl _ _) | (with_reducible assumption) | (with_reducible refine below_run ?_ (by assumption)) | (with_reducible refine below_of_upd ?_ (by assumption) ?_) | (with_reducible refine below_drewN ?_ _) | (with_reducible refine Below.drew ?_) | (with_reducible refine below_seven ?_ ?_) | (with_reducible refine below_six ?_ ?_) | (with_reducible refine below_one ?_ ?_) | (with_reducible refine Below.alloc ?_ ?_ _) | (with_reducible refine below_after ?_ ?_ (by assumption)) | (show _ ≤ _; first | omega | (simp; done) | (simp; omega))))
        · rename (chk _ != 0) = false => hq
          have h : chk ⟨q2, q8, q14, q15, q16, s.extract 19 (19 + n)⟩ = 0 := eq_of_bne hq
          refine bodyPost_ret (v := .tuple #[msgV ⟨q2, q8, q14, q15, q16, s.extract 19 (19 + n)⟩, .int .i64 0]) ?_ rfl ⟨_, _, rfl, ?_, ?_⟩
          · simp [results, Tryz.results99, go_sem, rz5a]
          · rw [HRS.out, rightM, if_pos h]; rfl
          · (repeat' (first | (with_reducible exact Below.refl _ _) | (with_reducible assumption) | (with_reducible refine below_run ?_ (by assumption)) | (with_reducible refine below_of_upd ?_ (by assumption) ?_) | (with_reducible refine below_drewN ?_ _) | (with_reducible refine Below.drew ?_) | (with_reducible refine below_seven ?_ ?_) | (with_reducible refine below_six ?_ ?_) | (with_reducible refine below_one ?_ ?_) | (with_reducible refine Below.alloc ?_ ?_ _) | (with_reducible refine below_after ?_ ?_ (by assumption)) | (show _ ≤ _; first | omega | (simp; done) | (simp; omega))))
    · go_wp2
      refine bodyPost_ret (v := .tuple #[msgV zeroM, .int .i64 17]) ?_ rfl ⟨_, _, rfl, ?_, ?_⟩
      · simp [results, Tryz.results99, go_sem, zeroM]
      · have f1 : ¬ (k0 ≠ 204 ∨ k1 ≠ 1) := by omega
        have f2 : ¬ s.size < 21 + n := by omega
        have f3 : ¬ 21 + n < s.size := by omega
        rw [HD.out, if_neg f1, if_neg f2, if_neg f3, if_pos GB.out]; rfl
      · (repeat' (first | (with_reducible exact Below.refl _ _) | (with_reducible assumption) | (with_reducible refine below_drewN ?_ _) | (with_reducible refine Below.drew ?_) | (with_reducible refine Below.setCell ?_ ?_ _) | (with_reducible refine Below.alloc ?_ ?_ _) | (with_reducible refine below_after ?_ ?_ (by assumption)) | (show _ ≤ _; first | omega | (simp; done) | (simp; omega))))
  · have h : k0 ≠ 204 := by omega
    refine bodyPost_ret (v := .tuple #[msgV zeroM, .int .i64 3]) ?_ rfl ⟨_, _, rfl, ?_, ?_⟩
    · simp [results, Tryz.results99, go_sem, zeroM]
    · rw [HD.out, if_pos (.inl h)]; rfl
    · (repeat' (first | (with_reducible exact Below.refl _ _) | (with_reducible assumption) | (with_reducible refine below_drewN ?_ _) | (with_reducible refine Below.drew ?_) | (with_reducible refine Below.setCell ?_ ?_ _) | (with_reducible refine Below.alloc ?_ ?_ _) | (with_reducible refine below_after ?_ ?_ (by assumption)) | (show _ ≤ _; first | omega | (simp; done) | (simp; omega))))

end Go.Proofs.YtpkhcehddfmhpaaGreat
