/-
  What the program decodes: a closure takes the bytes.
-/
import Derived.Test.YtpkhcehddfmhpaaGreatPl46
import Derived.Test.YtpkhcehddfmhpaaGreatBas
import Derived.Outline
import Derived.Laws.EntriesVeiled
namespace Go.Proofs.YtpkhcehddfmhpaaGreat
open Go.RowKit

set_option maxHeartbeats 8000000 in
set_option maxRecDepth 100000 in
theorem dec_any (s : ByteArray) (w : World) (hs : s.size ≤ 100000) :
    Calls Tryz.prog 18 #[.string s] w fun e w' => ∃ m n, e = .returned (.tuple #[msgV m, .int .i64 n]) ∧ Hid (decM s.data.toList = (m, n)) ∧ Below w.heap.size w w' := by
  by_cases h21 : s.size < 21
  · have hi : (s.size : Int) < 21 := by omega
    go_enter Tryz.func18, Tryz.ntmps18
    go_wp2
    refine bodyPost_ret (v := .tuple #[msgV zeroM, .int .i64 20]) ?_ rfl ⟨_, _, rfl, ?_, ?_⟩
    · simp [results, Tryz.results18, go_sem, zeroM]
    · simp [Hid, decM, h21]
    · (repeat' (first | (with_reducible exact Below.refl _ _) | (with_reducible assumption) | (with_reducible refine below_drewN ?_ _) | (with_reducible refine Below.drew ?_) | (with_reducible refine Below.setCell ?_ ?_ _) | (with_reducible refine Below.alloc ?_ ?_ _) | (with_reducible refine below_after ?_ ?_ (by assumption)) | (show _ ≤ _; first | omega | (simp; done) | (simp; omega))))
  have hi : ¬ (s.size : Int) < 21 := by omega
  have h2 : (2 : Int) ≤ s.size := by omega
  have h8 : (8 : Int) ≤ s.size := by omega
  have h14 : (14 : Int) ≤ s.size := by omega
  have h15 : (15 : Int) ≤ s.size := by omega
  have h16 : (16 : Int) ≤ s.size := by omega
  have h18 : (18 : Int) ≤ s.size := by omega
  have h19 : (19 : Int) ≤ s.size := by omega
  have e1 := number_any (s.extract 2 8) (hs := by simp only [ByteArray.size_extract]; omega)
  have e2 := number_any (s.extract 8 14) (hs := by simp only [ByteArray.size_extract]; omega)
  have e3 := number_any (s.extract 14 15) (hs := by simp only [ByteArray.size_extract]; omega)
  have e4 := number_any (s.extract 15 16) (hs := by simp only [ByteArray.size_extract]; omega)
  have e5 := number_any (s.extract 16 18) (hs := by simp only [ByteArray.size_extract]; omega)
  have e6 := number_any (s.extract 18 19) (hs := by simp only [ByteArray.size_extract]; omega)
  have b3 : numOf (s.extract 14 15).data.toList < 256 := by rw [one_byte s 14 (by omega)]; exact s[14].toNat_lt
  have b4 : numOf (s.extract 15 16).data.toList < 256 := by rw [one_byte s 15 (by omega)]; exact s[15].toNat_lt
  have b5 := numOf_lt (s.extract 16 18).data.toList
  rw [show (s.extract 16 18).data.toList.length = 2 from by simp; omega] at b5
  have b6 : numOf (s.extract 18 19).data.toList < 256 := by rw [one_byte s 18 (by omega)]; exact s[18].toNat_lt
  obtain ⟨n, hn⟩ : ∃ n, numOf (s.extract 18 19).data.toList = n := ⟨_, rfl⟩
  obtain ⟨q, hq⟩ : ∃ q, ((s.extract 0 2).toList == [204, 1]) = q := ⟨_, rfl⟩
  have hD := decM_run s n q (by omega) hn hq
  rw [hn] at e6 b6
  obtain ⟨A, hA⟩ : ∃ n, numOf (s.extract 2 8).data.toList = n := ⟨_, rfl⟩
  obtain ⟨B, hB⟩ : ∃ n, numOf (s.extract 8 14).data.toList = n := ⟨_, rfl⟩
  obtain ⟨C, hC⟩ : ∃ n, numOf (s.extract 14 15).data.toList = n := ⟨_, rfl⟩
  obtain ⟨D, hDD⟩ : ∃ n, numOf (s.extract 15 16).data.toList = n := ⟨_, rfl⟩
  obtain ⟨E, hE⟩ : ∃ n, numOf (s.extract 16 18).data.toList = n := ⟨_, rfl⟩
  rw [hA] at e1 hD
  rw [hB] at e2 hD
  rw [hC] at e3 hD b3
  rw [hDD] at e4 hD b4
  rw [hE] at e5 hD b5
  have HD := Lib.hid hD
  clear hD hn hA hB hC hDD hE
  have E1 := Lib.hid e1
  have E2 := Lib.hid e2
  have E3 := Lib.hid e3
  have E4 := Lib.hid e4
  have E5 := Lib.hid e5
  have E6 := Lib.hid e6
  clear e1 e2 e3 e4 e5 e6
  cases q
  · go_enter Tryz.func18, Tryz.ntmps18
    go_wp2_with (first | (go_at_call 58; go_in))
    refine bodyPost_ret (v := .tuple #[msgV zeroM, .int .i64 3]) ?_ rfl ⟨_, _, rfl, ?_, ?_⟩
    · simp [results, Tryz.results18, go_sem, zeroM]
    · have := HD.out; simpa [Hid] using this
    · (repeat' (first | (with_reducible exact Below.refl _ _) | (with_reducible assumption) | (with_reducible refine below_drewN ?_ _) | (with_reducible refine Below.drew ?_) | (with_reducible refine Below.setCell ?_ ?_ _) | (with_reducible refine Below.alloc ?_ ?_ _) | (with_reducible refine below_after ?_ ?_ (by assumption)) | (show _ ≤ _; first | omega | (simp; done) | (simp; omega))))
  go_enter Tryz.func18, Tryz.ntmps18
  go_wp2_with (first | (go_at_call 58; go_in) | (go_at_call 59; with_reducible refine (E1.out _).mono ?_; rintro e w' ⟨rfl, rfl⟩) | (go_at_call 59; with_reducible refine (E2.out _).mono ?_; rintro e w' ⟨rfl, rfl⟩) | (go_at_call 59; with_reducible refine (E3.out _).mono ?_; rintro e w' ⟨rfl, rfl⟩) | (go_at_call 59; with_reducible refine (E4.out _).mono ?_; rintro e w' ⟨rfl, rfl⟩) | (go_at_call 59; with_reducible refine (E5.out _).mono ?_; rintro e w' ⟨rfl, rfl⟩) | (go_at_call 59; with_reducible refine (E6.out _).mono ?_; rintro e w' ⟨rfl, rfl⟩))
  · have h1 : s.size < 21 + n := by omega
    refine bodyPost_ret (v := .tuple #[msgV zeroM, .int .i64 20]) ?_ rfl ⟨_, _, rfl, ?_, ?_⟩
    · simp [results, Tryz.results18, go_sem, zeroM]
    · have := HD.out; simpa [Hid, h1] using this
    · (repeat' (first | (with_reducible exact Below.refl _ _) | (with_reducible assumption) | (with_reducible refine below_drewN ?_ _) | (with_reducible refine Below.drew ?_) | (with_reducible refine Below.setCell ?_ ?_ _) | (with_reducible refine Below.alloc ?_ ?_ _) | (with_reducible refine below_after ?_ ?_ (by assumption)) | (show _ ≤ _; first | omega | (simp; done) | (simp; omega))))
  · have h1 : ¬ s.size < 21 + n := by omega
    have h3 : 21 + n < s.size := by omega
    refine bodyPost_ret (v := .tuple #[msgV zeroM, .int .i64 13]) ?_ rfl ⟨_, _, rfl, ?_, ?_⟩
    · simp [results, Tryz.results18, go_sem, zeroM]
    · have := HD.out; simpa [Hid, h1, h3] using this
    · (repeat' (first | (with_reducible exact Below.refl _ _) | (with_reducible assumption) | (with_reducible refine below_drewN ?_ _) | (with_reducible refine Below.drew ?_) | (with_reducible refine Below.setCell ?_ ?_ _) | (with_reducible refine Below.alloc ?_ ?_ _) | (with_reducible refine below_after ?_ ?_ (by assumption)) | (show _ ≤ _; first | omega | (simp; done) | (simp; omega))))
  · have g3 : s.size = 21 + n := by omega
    have G3 := Lib.hid g3
    have i0 : (0 : Int) ≤ 19 + (n : Int) := by omega
    have i1 : 19 + (n : Int) ≤ (s.size : Int) := by omega
    have i2 : (19 + (n : Int)).toNat = 19 + n := by omega
    have z1 : (s.extract 0 (19 + n)).size ≤ 100000 := by simp only [ByteArray.size_extract]; omega
    have HS := Lib.hid (fun W => sum_any (s.extract 0 (19 + n)) W z1)
    clear g3 z1 E1 E2 E3 E4 E5 E6
    have ks : RowAt ((((w.alloc (.cells #[.string s] 9)).alloc (.cells #[.int .u64 0, .int .u64 0, .int .i64 0, .int .i64 0, .int .i64 0, .string ⟨#[]⟩] 52)).alloc (.cells #[.int .i64 (19 + (n : Int))] 3)).alloc (.cells #[.int .u64 (A : Int), .int .u64 (B : Int), .int .i64 (C : Int), .int .i64 (D : Int), .int .i64 (E : Int), .string (s.extract 19 (19 + n))] 52)) w.heap.size 9 #[.string s] := (((RowAt.mk rfl rfl).alloc _).alloc _).alloc _
    have kz : RowAt ((((w.alloc (.cells #[.string s] 9)).alloc (.cells #[.int .u64 0, .int .u64 0, .int .i64 0, .int .i64 0, .int .i64 0, .string ⟨#[]⟩] 52)).alloc (.cells #[.int .i64 (19 + (n : Int))] 3)).alloc (.cells #[.int .u64 (A : Int), .int .u64 (B : Int), .int .i64 (C : Int), .int .i64 (D : Int), .int .i64 (E : Int), .string (s.extract 19 (19 + n))] 52)) (w.heap.size + 1) 52 #[.int .u64 0, .int .u64 0, .int .i64 0, .int .i64 0, .int .i64 0, .string ⟨#[]⟩] := ((RowAt.mk (by simp) rfl).alloc _).alloc _
    have ka : RowAt ((((w.alloc (.cells #[.string s] 9)).alloc (.cells #[.int .u64 0, .int .u64 0, .int .i64 0, .int .i64 0, .int .i64 0, .string ⟨#[]⟩] 52)).alloc (.cells #[.int .i64 (19 + (n : Int))] 3)).alloc (.cells #[.int .u64 (A : Int), .int .u64 (B : Int), .int .i64 (C : Int), .int .i64 (D : Int), .int .i64 (E : Int), .string (s.extract 19 (19 + n))] 52)) (w.heap.size + 1 + 1) 3 #[.int .i64 (19 + (n : Int))] := (RowAt.mk (by simp) rfl).alloc _
    have km : RowAt ((((w.alloc (.cells #[.string s] 9)).alloc (.cells #[.int .u64 0, .int .u64 0, .int .i64 0, .int .i64 0, .int .i64 0, .string ⟨#[]⟩] 52)).alloc (.cells #[.int .i64 (19 + (n : Int))] 3)).alloc (.cells #[.int .u64 (A : Int), .int .u64 (B : Int), .int .i64 (C : Int), .int .i64 (D : Int), .int .i64 (E : Int), .string (s.extract 19 (19 + n))] 52)) (w.heap.size + 1 + 1 + 1) 52 #[.int .u64 (A : Int), .int .u64 (B : Int), .int .i64 (C : Int), .int .i64 (D : Int), .int .i64 (E : Int), .string (s.extract 19 (19 + n))] := RowAt.mk (by simp) rfl
    have kb : Below w.heap.size w ((((w.alloc (.cells #[.string s] 9)).alloc (.cells #[.int .u64 0, .int .u64 0, .int .i64 0, .int .i64 0, .int .i64 0, .string ⟨#[]⟩] 52)).alloc (.cells #[.int .i64 (19 + (n : Int))] 3)).alloc (.cells #[.int .u64 (A : Int), .int .u64 (B : Int), .int .i64 (C : Int), .int .i64 (D : Int), .int .i64 (E : Int), .string (s.extract 19 (19 + n))] 52)) := by (repeat' (first | (with_reducible exact Below.refl _ _) | (with_reducible assumption) | (with_reducible refine below_drewN ?_ _) | (with_reducible refine Below.drew ?_) | (with_reducible refine Below.setCell ?_ ?_ _) | (with_reducible refine Below.alloc ?_ ?_ _) | (with_reducible refine below_after ?_ ?_ (by assumption)) | (show _ ≤ _; first | omega | (simp; done) | (simp; omega))))
    generalize ((((w.alloc (.cells #[.string s] 9)).alloc (.cells #[.int .u64 0, .int .u64 0, .int .i64 0, .int .i64 0, .int .i64 0, .string ⟨#[]⟩] 52)).alloc (.cells #[.int .i64 (19 + (n : Int))] 3)).alloc (.cells #[.int .u64 (A : Int), .int .u64 (B : Int), .int .i64 (C : Int), .int .i64 (D : Int), .int .i64 (E : Int), .string (s.extract 19 (19 + n))] 52)) = wz at ks kz ka km kb ⊢
    obtain ⟨s1, s2, s3, s4, s5, s6⟩ := row_facts ks
    obtain ⟨a1, a2, a3, a4, a5, a6⟩ := row_facts ka
    obtain ⟨x1, x2, x3, x4, x5, x6⟩ := row_facts kz
    obtain ⟨y1, y2, y3, y4, y5, y6⟩ := row_facts km
    go_region_held3 (fun w' => w'.cell? ⟨w.heap.size, 0, none⟩ = some (.string s) ∧ w'.cell? ⟨w.heap.size + 1 + 1, 0, none⟩ = some (.int .i64 (19 + (n : Int)))) (go_keep)
      (first | (go_at_call 48; refine (HS.out _).mono ?_; rintro e w4 ⟨rfl, hb⟩; have rs : RowAt w4 w.heap.size 9 #[.string s] := (by (repeat' (first | (with_reducible assumption) | (with_reducible refine RowAt.drewN ?_ _) | (with_reducible refine RowAt.drew ?_) | (with_reducible apply RowAt.six) | (with_reducible apply RowAt.seven) | ((with_reducible refine RowAt.mk ?_ ?_); (focus (first | rfl | (simp; done))); rfl) | (with_reducible refine RowAt.alloc ?_ _) | (with_reducible refine RowAt.far ?_ ?_) | (with_reducible refine RowAt.run ?_ (by assumption)) | (with_reducible refine RowAt.below ?_ (by assumption) ?_) | (with_reducible refine RowAt.upd ?_ (by assumption) ?_) | (show _ < _; first | omega | (simp; done) | (simp; omega)) | (show ¬ _ = _; first | omega | (simp; done) | (simp; omega)) | exact rfl))); obtain ⟨rsa, rsb, rsc, rsd, rse, rsf⟩ := row_facts rs; have ra : RowAt w4 (w.heap.size + 1 + 1) 3 #[.int .i64 (19 + (n : Int))] := (by (repeat' (first | (with_reducible assumption) | (with_reducible refine RowAt.drewN ?_ _) | (with_reducible refine RowAt.drew ?_) | (with_reducible apply RowAt.six) | (with_reducible apply RowAt.seven) | ((with_reducible refine RowAt.mk ?_ ?_); (focus (first | rfl | (simp; done))); rfl) | (with_reducible refine RowAt.alloc ?_ _) | (with_reducible refine RowAt.far ?_ ?_) | (with_reducible refine RowAt.run ?_ (by assumption)) | (with_reducible refine RowAt.below ?_ (by assumption) ?_) | (with_reducible refine RowAt.upd ?_ (by assumption) ?_) | (show _ < _; first | omega | (simp; done) | (simp; omega)) | (show ¬ _ = _; first | omega | (simp; done) | (simp; omega)) | exact rfl))); obtain ⟨raa, rab, rac, rad, rae, raf⟩ := row_facts ra; have rz : RowAt w4 (w.heap.size + 1) 52 #[.int .u64 0, .int .u64 0, .int .i64 0, .int .i64 0, .int .i64 0, .string ⟨#[]⟩] := (by (repeat' (first | (with_reducible assumption) | (with_reducible refine RowAt.drewN ?_ _) | (with_reducible refine RowAt.drew ?_) | (with_reducible apply RowAt.six) | (with_reducible apply RowAt.seven) | ((with_reducible refine RowAt.mk ?_ ?_); (focus (first | rfl | (simp; done))); rfl) | (with_reducible refine RowAt.alloc ?_ _) | (with_reducible refine RowAt.far ?_ ?_) | (with_reducible refine RowAt.run ?_ (by assumption)) | (with_reducible refine RowAt.below ?_ (by assumption) ?_) | (with_reducible refine RowAt.upd ?_ (by assumption) ?_) | (show _ < _; first | omega | (simp; done) | (simp; omega)) | (show ¬ _ = _; first | omega | (simp; done) | (simp; omega)) | exact rfl))); obtain ⟨rza, rzb, rzc, rzd, rze, rzf⟩ := row_facts rz; have rm : RowAt w4 (w.heap.size + 1 + 1 + 1) 52 #[.int .u64 (A : Int), .int .u64 (B : Int), .int .i64 (C : Int), .int .i64 (D : Int), .int .i64 (E : Int), .string (s.extract 19 (19 + n))] := (by (repeat' (first | (with_reducible assumption) | (with_reducible refine RowAt.drewN ?_ _) | (with_reducible refine RowAt.drew ?_) | (with_reducible apply RowAt.six) | (with_reducible apply RowAt.seven) | ((with_reducible refine RowAt.mk ?_ ?_); (focus (first | rfl | (simp; done))); rfl) | (with_reducible refine RowAt.alloc ?_ _) | (with_reducible refine RowAt.far ?_ ?_) | (with_reducible refine RowAt.run ?_ (by assumption)) | (with_reducible refine RowAt.below ?_ (by assumption) ?_) | (with_reducible refine RowAt.upd ?_ (by assumption) ?_) | (show _ < _; first | omega | (simp; done) | (simp; omega)) | (show ¬ _ = _; first | omega | (simp; done) | (simp; omega)) | exact rfl))); obtain ⟨rma, rmb, rmc, rmd, rme, rmf⟩ := row_facts rm))
    clear HS
    go_wp2_with (first | (go_at_call 60; refine (right_any _ _ _ _ _ _ _).mono ?_; rintro e w5 ⟨m, n', rfl, hm, hb5⟩; have rz5 : RowAt w5 (w.heap.size + 1) 52 #[.int .u64 0, .int .u64 0, .int .i64 0, .int .i64 0, .int .i64 0, .string ⟨#[]⟩] := (by (repeat' (first | (with_reducible assumption) | (with_reducible refine RowAt.drewN ?_ _) | (with_reducible refine RowAt.drew ?_) | (with_reducible apply RowAt.six) | (with_reducible apply RowAt.seven) | ((with_reducible refine RowAt.mk ?_ ?_); (focus (first | rfl | (simp; done))); rfl) | (with_reducible refine RowAt.alloc ?_ _) | (with_reducible refine RowAt.far ?_ ?_) | (with_reducible refine RowAt.run ?_ (by assumption)) | (with_reducible refine RowAt.below ?_ (by assumption) ?_) | (with_reducible refine RowAt.upd ?_ (by assumption) ?_) | (show _ < _; first | omega | (simp; done) | (simp; omega)) | (show ¬ _ = _; first | omega | (simp; done) | (simp; omega)) | exact rfl))); obtain ⟨rz5a, rz5b, rz5c, rz5d, rz5e, rz5f⟩ := row_facts rz5))
    · rename (!_ == _) = true => ht
      rw [ByteArray.toList_eq, ByteArray.toList_eq, take_seg] at ht
      have hne : (s.extract (19 + n) s.size).data.toList ≠ (bytesB (sumN (s.extract 0 (19 + n)).data.toList : Nat) 2).data.toList := by simpa using ht
      have g3 := G3.out
      have HDo := HD.out
      rw [if_neg (show ¬ (true = false) by simp), if_neg (show ¬ s.size < 21 + n by omega), if_neg (show ¬ 21 + n < s.size by omega), if_pos hne] at HDo
      refine bodyPost_ret (v := .tuple #[msgV zeroM, .int .i64 17]) ?_ rfl ⟨_, _, rfl, HDo, ?_⟩
      · simp [results, Tryz.results18, go_sem, zeroM, rza]
      · (repeat' (first | (with_reducible exact Below.refl _ _) | (with_reducible assumption) | (with_reducible refine below_run ?_ (by assumption)) | (with_reducible refine below_of_upd ?_ (by assumption) ?_) | (with_reducible refine below_drewN ?_ _) | (with_reducible refine Below.drew ?_) | (with_reducible refine below_seven ?_ ?_) | (with_reducible refine below_six ?_ ?_) | (with_reducible refine below_one ?_ ?_) | (with_reducible refine Below.alloc ?_ ?_ _) | (with_reducible refine below_after ?_ ?_ (by assumption)) | (show _ ≤ _; first | omega | (simp; done) | (simp; omega))))
    · rename (!_ == _) = false => ht
      rw [ByteArray.toList_eq, ByteArray.toList_eq, take_seg] at ht
      have hne : ¬ (s.extract (19 + n) s.size).data.toList ≠ (bytesB (sumN (s.extract 0 (19 + n)).data.toList : Nat) 2).data.toList := by simpa using ht
      have g3 := G3.out
      have HDo := HD.out
      rw [if_neg (show ¬ (true = false) by simp), if_neg (show ¬ s.size < 21 + n by omega), if_neg (show ¬ 21 + n < s.size by omega), if_neg hne, hm.out] at HDo
      refine bodyPost_ret (v := .tuple #[msgV m, .int .i64 n']) ?_ rfl ⟨_, _, rfl, HDo, ?_⟩
      · simp [results, Tryz.results18, go_sem, rz5a]
      · (repeat' (first | (with_reducible exact Below.refl _ _) | (with_reducible assumption) | (with_reducible refine below_run ?_ (by assumption)) | (with_reducible refine below_of_upd ?_ (by assumption) ?_) | (with_reducible refine below_drewN ?_ _) | (with_reducible refine Below.drew ?_) | (with_reducible refine below_seven ?_ ?_) | (with_reducible refine below_six ?_ ?_) | (with_reducible refine below_one ?_ ?_) | (with_reducible refine Below.alloc ?_ ?_ _) | (with_reducible refine below_after ?_ ?_ (by assumption)) | (show _ ≤ _; first | omega | (simp; done) | (simp; omega))))

end Go.Proofs.YtpkhcehddfmhpaaGreat
