/-
  Records: sums and words.
  Records: packed.
-/
import Derived.Test.YtjeigphhepngmaaGreatDoorZj
import Derived.BigRegion
import Derived.Deep.RegionHeld3
namespace Go.Proofs.YtjeigphhepngmaaGreatDoor
open Go.RowKit

/-- One byte more in the two sums. -/
def sumStep (x : Nat × Nat) (c : UInt8) : Nat × Nat := ((x.1 + c.toNat) % 255, (x.2 + (x.1 + c.toNat) % 255) % 255)
def sum2 (l : List UInt8) : Nat × Nat := l.foldl sumStep (0, 0)
def sumN (l : List UInt8) : Nat := (sum2 l).2 * 256 + (sum2 l).1
def wordB (n : Nat) : List UInt8 := [UInt8.ofNat (n / 256), UInt8.ofNat n]
theorem sum2_snoc (l : List UInt8) (c : UInt8) : sum2 (l ++ [c]) = sumStep (sum2 l) c := by simp [sum2]
theorem sum2_lt (l : List UInt8) : (sum2 l).1 < 255 ∧ (sum2 l).2 < 255 := by
  suffices h : ∀ (l : List UInt8) (x : Nat × Nat), x.1 < 255 ∧ x.2 < 255 → (l.foldl sumStep x).1 < 255 ∧ (l.foldl sumStep x).2 < 255 from h l (0, 0) (by simp)
  intro l
  induction l with
  | nil => intro x h; exact h
  | cons c l ih =>
    intro x h
    exact ih _ ⟨Nat.mod_lt _ (by decide), Nat.mod_lt _ (by decide)⟩
theorem sumN_lt (l : List UInt8) : sumN l < 65536 := by have := sum2_lt l; unfold sumN; omega

theorem wrap64_in (n : Nat) (h : n < 100000000) : wrap64 (n : Int) = (n : Int) := by
  unfold wrap64
  omega
theorem u64_rem (a c : Nat) (h : a + c < 1000) : (IntKind.u64.wrap ((a : Int) + (c : Int))).tmod 255 = (((a + c) % 255 : Nat) : Int) := by
  rw [IntWalk.u64_in _ (by omega), Int.tmod_eq_emod_of_nonneg (by omega)]
  omega
theorem sum_or (b : Nat) (a : Nat) (h : b < 72057594037927936) (ha : a < 256) : bits BinOp.or .u64 ((b : Int) * 256) (a : Int) = ((b * 256 + a : Nat) : Int) := by
  have h1 : ((b : Int) * 256) = ((b * 256 : Nat) : Int) := by omega
  rw [h1, bits_or_u64_nat _ _ (by omega) (by omega)]
  have h2 := Nat.two_pow_add_eq_or_of_lt (i := 8) (b := a) (by omega) b
  rw [show b * 256 = 2 ^ 8 * b from by omega, ← h2]

set_option maxHeartbeats 1000000 in
set_option maxRecDepth 100000 in
theorem sum_any (s : ByteArray) (w : World) (hs : s.size ≤ 1000000000) :
    Calls Tryz.prog 238 #[.string s] w fun e w' => e = .returned (.int .i64 (sumN s.data.toList : Nat)) ∧ w' = w := by
  have hs3 : (s.size : Int) ≤ 1000000000 := by omega
  go_enter Tryz.func238, Tryz.ntmps238
  go_wp2
  go_loopw [3, 4, 5, 8] (fun a b _ i wr => ∃ k : Nat, k ≤ s.size ∧ i = .int .i64 k ∧ a = .int .u64 ((sum2 (s.data.toList.take k)).1 : Nat) ∧ b = .int .u64 ((sum2 (s.data.toList.take k)).2 : Nat) ∧ wr = w) (fun _ _ _ i _ => s.size - (intOf i).toNat)
  case atStart => exact ⟨0, Nat.zero_le _, rfl, by simp [sum2], by simp [sum2], rfl⟩
  case round =>
    obtain ⟨k, hk, rfl, rfl, rfl, rfl⟩ := hrel
    have hlt := sum2_lt (s.data.toList.take k)
    by_cases hlt2 : k < s.size
    · have hlt3 : (k : Int) < (s.size : Int) := by omega
      have hk0 : (0 : Int) ≤ (k : Int) := by omega
      have hts : s.data.toList.take (k + 1) = s.data.toList.take k ++ [s[k]] := by
        rw [List.take_succ_eq_append_getElem (by simpa using hlt2)]
        simp [ByteArray.getElem_eq_getElem_data]
      have hst : sum2 (s.data.toList.take (k + 1)) = sumStep (sum2 (s.data.toList.take k)) s[k] := by rw [hts, sum2_snoc]
      have hc := s[k].toNat_lt
      generalize sum2 (s.data.toList.take k) = ab at hlt hst ⊢
      obtain ⟨x, y⟩ := ab
      simp only at hlt ⊢
      have e1 : (IntKind.u64.wrap ((x : Int) + IntKind.u64.wrap (s[k].toNat : Int))).tmod 255 = (((x + s[k].toNat) % 255 : Nat) : Int) := by
        rw [IntWalk.u64_in (s[k].toNat : Int) (by omega)]
        exact u64_rem _ _ (by omega)
      have e2 : (IntKind.u64.wrap ((y : Int) + (((x + s[k].toNat) % 255 : Nat) : Int))).tmod 255 = (((y + (x + s[k].toNat) % 255) % 255 : Nat) : Int) := u64_rem _ _ (by omega)
      have HE := Lib.hid (And.intro e1 (And.intro e2 hst))
      clear e1 e2 hst hts hc
      go_wp2
      go_roundw
      case rel => exact ⟨k + 1, by omega, by go_num, by rw [HE.out.1, HE.out.2.2]; rfl, by rw [HE.out.1, HE.out.2.1, HE.out.2.2]; rfl, trivial⟩
      case measure => simp [intOf]; omega
    · obtain rfl : k = s.size := by omega
      have hall : s.data.toList.take s.size = s.data.toList := by
        rw [show s.size = s.data.toList.length from (Array.length_toList (xs := s.data)).symm]
        exact List.take_length
      rw [hall] at hlt ⊢
      have ho := sum_or (sum2 s.data.toList).2 (sum2 s.data.toList).1 (by omega) (by omega)
      have hw := wrap64_in ((sum2 s.data.toList).2 * 256 + (sum2 s.data.toList).1) (by omega)
      have HO := Lib.hid (show wrap64 (bits BinOp.or .u64 (IntKind.u64.wrap (((sum2 s.data.toList).2 : Int) * 256)) ((sum2 s.data.toList).1 : Int)) = ((sumN s.data.toList : Nat) : Int) from by rw [IntWalk.u64_in _ (by omega), ho]; exact hw)
      clear ho hw hlt hall
      go_wp2
      go_ret
      exact ⟨by rw [HO.out]; rfl, rfl⟩

theorem conv_two (a b : UInt8) (W : World) : (convert 59 9 (.slice (some ⟨W.heap.size, 0, none⟩) 2 2)).run Tryz.prog (W.alloc (.cells #[.int .u8 (a.toNat : Int), .int .u8 (b.toNat : Int)] 5)) = .ok (.string (str [a, b])) (W.alloc (.cells #[.int .u8 (a.toNat : Int), .int .u8 (b.toNat : Int)] 5)) := by
  rw [← strOfNums_L]
  refine run_convert_bytes_arg _ 59 5 Tryz.underlying59 Tryz.underlying5 W.heap.size 0 2 2 _ (by simp) (fun i hi => ?_) 9 Tryz.underlying9
  have : i = 0 ∨ i = 1 := by omega
  rcases this with rfl | rfl <;> simp

set_option maxHeartbeats 1000000 in
set_option maxRecDepth 100000 in
theorem word_any (n : Nat) (w : World) (hn : n < 65536) :
    Calls Tryz.prog 237 #[.int .i64 (n : Int)] w fun e w' => e = .returned (.string (str (wordB n))) ∧ Below w.heap.size w w' := by
  have hcv := conv_two (UInt8.ofNat (n / 256)) (UInt8.ofNat n)
  have e1 : (((UInt8.ofNat (n / 256)).toNat : Nat) : Int) = (n : Int) / 256 := by simp; omega
  have e2 : (((UInt8.ofNat n).toNat : Nat) : Int) = (n : Int) % 256 := by simp
  rw [e1, e2] at hcv
  have hcv' : ∀ W : World, (convert 59 9 (.slice (some ⟨W.heap.size, 0, none⟩) 2 2)).run Tryz.prog (W.alloc (.cells #[.int .u8 ((n : Int) / 256), .int .u8 ((n : Int) % 256)] 5)) = .ok (.string (str (wordB n))) (W.alloc (.cells #[.int .u8 ((n : Int) / 256), .int .u8 ((n : Int) % 256)] 5)) := hcv
  clear hcv
  go_enter Tryz.func237, Tryz.ntmps237
  go_wp2
  go_ret
  exact ⟨rfl, by (repeat' (first | (with_reducible exact Below.refl _ _) | (with_reducible assumption) | (with_reducible refine below_run ?_ (by assumption)) | (with_reducible refine below_of_upd ?_ (by assumption) ?_) | (with_reducible refine below_drewN ?_ _) | (with_reducible refine Below.drew ?_) | (with_reducible refine below_seven ?_ ?_) | (with_reducible refine below_six ?_ ?_) | (with_reducible refine below_one ?_ ?_) | (with_reducible refine Below.alloc ?_ ?_ _) | (with_reducible refine below_after ?_ ?_ (by assumption)) | (show _ ≤ _; first | omega | (simp; done) | (simp; omega))))⟩

end Go.Proofs.YtjeigphhepngmaaGreatDoor

namespace Go.Proofs.YtjeigphhepngmaaGreatDoor
open Go.RowKit

/-- A record as bytes: kind, length, data, sum. -/
def headB (c : UInt8) (d : ByteArray) : List UInt8 := [c] ++ wordB d.size ++ d.data.toList
def packB (c : UInt8) (d : ByteArray) : List UInt8 := headB c d ++ wordB (sumN (headB c d))
theorem conv_one (c : UInt8) (W : World) (g : Nat) (h : RowAt W g 5 #[.int .u8 (c.toNat : Int)]) : (convert 59 9 (.slice (some ⟨g, 0, none⟩) 1 1)).run Tryz.prog W = .ok (.string (str [c])) W := by
  rw [← strOfNums_L]
  refine run_convert_bytes_arg _ 59 5 Tryz.underlying59 Tryz.underlying5 g 0 1 1 _ (by simp) (fun i hi => ?_) 9 Tryz.underlying9
  have : i = 0 := by omega
  subst this
  have := (row_facts h).1 0
  simpa using this

set_option maxHeartbeats 1000000 in
set_option maxRecDepth 100000 in
theorem pack_ok (c : UInt8) (d : ByteArray) (w : World) (hd : d.size ≤ 65535) :
    Calls Tryz.prog 148 #[.agg #[.int .i64 (c.toNat : Int), .string d]] w fun e w' => e = .returned (.tuple #[.string (str (packB c d)), .int .i64 0]) ∧ Below w.heap.size w w' := by
  have hc := c.toNat_lt
  have h1 : ¬ (c.toNat : Int) < 0 := by omega
  have h2 : ¬ (255 : Int) < (c.toNat : Int) := by omega
  have h3 : ¬ (65535 : Int) < (d.size : Int) := by omega
  have h4 : IntKind.u8.wrap (c.toNat : Int) = (c.toNat : Int) := IntWalk.u8_in _ (by omega)
  have h5 : (c.toNat : Int) % 256 = (c.toNat : Int) := by omega
  have HWd := Lib.hid (fun W => word_any d.size W (by omega))
  obtain ⟨Wb, hWb⟩ : ∃ W, w.alloc (.cells #[.int .i64 (c.toNat : Int), .string d] 77) = W := ⟨_, rfl⟩
  have r0 : RowAt Wb w.heap.size 77 #[.int .i64 (c.toNat : Int), .string d] := by rw [← hWb]; exact RowAt.new _ _ _
  have B0 : Below w.heap.size w Wb := by rw [← hWb]; (repeat' (first | (with_reducible exact Below.refl _ _) | (with_reducible assumption) | (with_reducible refine below_run ?_ (by assumption)) | (with_reducible refine below_of_upd ?_ (by assumption) ?_) | (with_reducible refine below_drewN ?_ _) | (with_reducible refine Below.drew ?_) | (with_reducible refine below_seven ?_ ?_) | (with_reducible refine below_six ?_ ?_) | (with_reducible refine below_one ?_ ?_) | (with_reducible refine Below.alloc ?_ ?_ _) | (with_reducible refine below_after ?_ ?_ (by assumption)) | (show _ ≤ _; first | omega | (simp; done) | (simp; omega))))
  obtain ⟨x1, x2, x3, x4, x5, x6⟩ := row_facts r0
  have hl1 : (str [c]).size = 1 := by rw [str_length]; rfl
  have hl2 : (str (wordB d.size)).size = 2 := by rw [str_length]; rfl
  have hs1 : ¬ 9223372036854775807 < (str [c]).size + (str (wordB d.size)).size := by omega
  have hs2 : ¬ 9223372036854775807 < (str [c] ++ str (wordB d.size)).size + d.size := by rw [ByteArray.size_append]; omega
  have hs1' : ¬ (9223372036854775807 : Int) < ((str [c]).size : Int) + ((str (wordB d.size)).size : Int) := by omega
  have hs2' : ¬ (9223372036854775807 : Int) < ((str [c] ++ str (wordB d.size)).size : Int) + (d.size : Int) := by rw [ByteArray.size_append]; omega
  have hs4 : ¬ 9223372036854775807 < (str [c]).size + (str (wordB d.size)).size + d.size := by omega
  have hH : str [c] ++ str (wordB d.size) ++ d = str (headB c d) := by
    rw [str_add, str_add, str_data]
    rfl
  have HSum := Lib.hid (show ∀ W, Calls Tryz.prog 238 #[.string (str [c] ++ str (wordB d.size) ++ d)] W fun e w' => e = .returned (.int .i64 (sumN (headB c d) : Nat)) ∧ w' = W from fun W => by
    have := sum_any (str (headB c d)) W (by rw [← hH, ByteArray.size_append, ByteArray.size_append]; omega)
    rw [hH]
    exact this)
  have HW2 := Lib.hid (fun W => word_any (sumN (headB c d)) W (sumN_lt _))
  have hl3 : (str (wordB (sumN (headB c d)))).size = 2 := by rw [str_length]; rfl
  have hs5 : ¬ 9223372036854775807 < (str [c]).size + (str (wordB d.size)).size + d.size + (str (wordB (sumN (headB c d)))).size := by omega
  have HP := Lib.hid (show str [c] ++ str (wordB d.size) ++ d ++ str (wordB (sumN (headB c d))) = str (packB c d) from by rw [hH, str_add, str_data]; rfl)
  have HKp := Lib.hid (fun (W : World) (hb : Below Wb.heap.size Wb W) => And.intro ((row_facts (r0.run hb)).1 0) ((row_facts (r0.run hb)).1 1))
  have HB := Lib.hid B0
  have hcv := conv_one c
  clear hd hc hl1 hl2 hl3 hH
  go_enter Tryz.func148, Tryz.ntmps148
  go_wp2
  refine wp_region_noPanic ?_
  refine wp_region_held_drew (S := (fun W => W.cell? ⟨w.heap.size, 0, none⟩ = some (.int .i64 (c.toNat : Int)) ∧ W.cell? ⟨w.heap.size, 1, none⟩ = some (.string d))) (by kernel_rfl) ?_ (fun hHeld => ?_)
  · exact ⟨x1 0, x1 1⟩
  (refine wpAnyH_take (i := 0) (oi := _) (v := ?_) rfl (by kernel_rfl) (by kernel_rfl) (by kernel_rfl) (fun _ _ _ h => h) (Or.inl ⟨by rfl, ?_⟩) (by assumption) ?_; rotate_left; (focus (intro w' hSw; (try dsimp only at hSw); go_simp; (try with_reducible rfl); done)); (try simp only [Act.put, List.setIfInBounds_toArray, List.set_cons_zero, List.set_cons_succ, List.getElem_toArray, List.getElem_cons_zero]))
  (refine wpAnyH_take (i := 1) (oi := _) (v := ?_) rfl (by kernel_rfl) (by kernel_rfl) (by kernel_rfl) (fun _ _ _ h => h) (Or.inl ⟨by rfl, ?_⟩) (by assumption) ?_; rotate_left; (focus (intro w' hSw; (try dsimp only at hSw); go_simp; (try with_reducible rfl); done)); (try simp only [Act.put, List.setIfInBounds_toArray, List.getElem_toArray]))
  (refine wpAnyH_take (i := 2) (oi := _) (v := ?_) rfl (by kernel_rfl) (by kernel_rfl) (by kernel_rfl) (fun _ _ _ h => h) (Or.inl ⟨by rfl, ?_⟩) (by assumption) ?_; rotate_left; (focus (intro w' hSw; (try dsimp only at hSw); go_simp; (try with_reducible rfl); done)); (try simp only [Act.put, List.setIfInBounds_toArray, List.set_cons_zero, List.set_cons_succ, List.getElem_toArray, List.getElem_cons_succ, List.getElem_cons_zero]))
  (refine wpAnyH_take (i := 5) (oi := _) (v := ?_) rfl (by kernel_rfl) (by kernel_rfl) (by kernel_rfl) (fun _ _ _ h => h) (Or.inl ⟨by rfl, ?_⟩) (by assumption) ?_; rotate_left; (focus (intro w' hSw; (try dsimp only at hSw); go_simp; (try with_reducible rfl); done)); (try simp only [Act.put, List.setIfInBounds_toArray, List.set_cons_zero, List.set_cons_succ, List.getElem_toArray, List.getElem_cons_succ, List.getElem_cons_zero]))
  (refine wpAnyH_take (i := 6) (oi := _) (v := ?_) rfl (by kernel_rfl) (by kernel_rfl) (by kernel_rfl) (fun _ _ _ h => h) (Or.inl ⟨by rfl, ?_⟩) (by assumption) ?_; rotate_left; (focus (intro w' hSw; (try dsimp only at hSw); go_simp; (try with_reducible rfl); done)); (try simp only [Act.put, List.setIfInBounds_toArray, List.set_cons_zero, List.set_cons_succ, List.getElem_toArray, List.getElem_cons_succ, List.getElem_cons_zero]))
  (refine wpAnyH_take (i := 7) (oi := _) (v := ?_) rfl (by kernel_rfl) (by kernel_rfl) (by kernel_rfl) (fun _ _ _ h => h) (Or.inl ⟨by rfl, ?_⟩) (by assumption) ?_; rotate_left; (focus (intro w' hSw; (try dsimp only at hSw); go_simp; (try with_reducible rfl); done)); (try simp only [Act.put, List.setIfInBounds_toArray, List.set_cons_zero, List.set_cons_succ, List.getElem_toArray, List.getElem_cons_succ, List.getElem_cons_zero]))
  (refine wpAnyH_take (i := 10) (oi := _) (v := ?_) rfl (by kernel_rfl) (by kernel_rfl) (by kernel_rfl) (fun _ _ _ h => h) (Or.inl ⟨by rfl, ?_⟩) (by assumption) ?_; rotate_left; (focus (intro w' hSw; (try dsimp only at hSw); go_simp; (try with_reducible rfl); done)); (try simp only [Act.put, List.setIfInBounds_toArray, List.set_cons_zero, List.set_cons_succ, List.getElem_toArray, List.getElem_cons_succ, List.getElem_cons_zero]))
  (refine wpAnyH_take (i := 11) (oi := _) (v := ?_) rfl (by kernel_rfl) (by kernel_rfl) (by kernel_rfl) (fun _ _ _ h => h) (Or.inl ⟨by rfl, ?_⟩) (by assumption) ?_; rotate_left; (focus (intro w' hSw; (try dsimp only at hSw); go_simp; (try with_reducible rfl); done)); (try simp only [Act.put, List.setIfInBounds_toArray, List.set_cons_zero, List.set_cons_succ, List.getElem_toArray, List.getElem_cons_succ, List.getElem_cons_zero]))
  refine wpAnyH_ready (rs := [3, 8]) (by kernel_rfl) (by simp) (AllReadyH.cons (o := _) rfl (fun K hK => ?_) (AllReadyH.cons (o := _) rfl (fun K hK => ?_) (AllReadyH.nil)))
  · skip
    go_simp
    refine hK.out _ _ ?_ (fun hHeld => ?_)
    · (first | go_keep | exact HKp.out _ (by (repeat' (first | (with_reducible exact Below.refl _ _) | (with_reducible assumption) | (with_reducible refine below_run ?_ (by assumption)) | (with_reducible refine below_of_upd ?_ (by assumption) ?_) | (with_reducible refine below_drewN ?_ _) | (with_reducible refine Below.drew ?_) | (with_reducible refine below_seven ?_ ?_) | (with_reducible refine below_six ?_ ?_) | (with_reducible refine below_one ?_ ?_) | (with_reducible refine Below.alloc ?_ ?_ _) | (with_reducible refine below_after ?_ ?_ (by assumption)) | (show _ ≤ _; first | omega | (simp; done) | (simp; omega))))))
    clear hK K
    (try simp only [Act.put, List.setIfInBounds_toArray, List.set_cons_zero, List.set_cons_succ, List.getElem_toArray, List.getElem_cons_succ, List.getElem_cons_zero])
    refine wpAnyH_ready (rs := [4, 8]) (by kernel_rfl) (by simp) (AllReadyH.cons (o := _) rfl (fun K hK => ?_) (AllReadyH.cons (o := _) rfl (fun K hK => ?_) (AllReadyH.nil)))
    · skip
      go_simp
      (rw [hcv]; rotate_left; (focus (first | exact RowAt.mk rfl rfl | exact RowAt.drew (RowAt.mk rfl rfl) | exact RowAt.run (RowAt.mk rfl rfl) (by assumption) | exact RowAt.run (RowAt.drew (RowAt.mk rfl rfl)) (by assumption) | (trace_state; fail))); go_simp)
      refine hK.out _ _ ?_ (fun hHeld => ?_)
      · (first | go_keep | exact HKp.out _ (by (repeat' (first | (with_reducible exact Below.refl _ _) | (with_reducible assumption) | (with_reducible refine below_run ?_ (by assumption)) | (with_reducible refine below_of_upd ?_ (by assumption) ?_) | (with_reducible refine below_drewN ?_ _) | (with_reducible refine Below.drew ?_) | (with_reducible refine below_seven ?_ ?_) | (with_reducible refine below_six ?_ ?_) | (with_reducible refine below_one ?_ ?_) | (with_reducible refine Below.alloc ?_ ?_ _) | (with_reducible refine below_after ?_ ?_ (by assumption)) | (show _ ≤ _; first | omega | (simp; done) | (simp; omega))))))
      clear hK K
      (try simp only [Act.put, List.setIfInBounds_toArray, List.set_cons_zero, List.set_cons_succ, List.getElem_toArray, List.getElem_cons_succ, List.getElem_cons_zero])
      refine wpAnyH_ready (rs := [8]) (by kernel_rfl) (by simp) (AllReadyH.cons (o := _) rfl (fun K hK => ?_) (AllReadyH.nil))
      go_simp
      (refine (HWd.out _).mono ?_; rintro e wd ⟨rfl, hbd⟩; (have hsz : w.heap.size ≤ wd.heap.size := (by have q1 := hbd.size; have q2 := HB.out.size; simp at q1; omega)); go_simp)
      refine hK.out _ _ ?_ (fun hHeld => ?_)
      · (first | go_keep | exact HKp.out _ (by (repeat' (first | (with_reducible exact Below.refl _ _) | (with_reducible assumption) | (with_reducible refine below_run ?_ (by assumption)) | (with_reducible refine below_of_upd ?_ (by assumption) ?_) | (with_reducible refine below_drewN ?_ _) | (with_reducible refine Below.drew ?_) | (with_reducible refine below_seven ?_ ?_) | (with_reducible refine below_six ?_ ?_) | (with_reducible refine below_one ?_ ?_) | (with_reducible refine Below.alloc ?_ ?_ _) | (with_reducible refine below_after ?_ ?_ (by assumption)) | (show _ ≤ _; first | omega | (simp; done) | (simp; omega))))))
      clear hK K
      (try simp only [Act.put, List.setIfInBounds_toArray, List.set_cons_zero, List.set_cons_succ, List.getElem_toArray, List.getElem_cons_succ, List.getElem_cons_zero])
      (refine wpAnyH_take (i := 9) (oi := _) (v := ?_) rfl (by kernel_rfl) (by kernel_rfl) (by kernel_rfl) (fun _ _ _ h => h) (Or.inl ⟨by rfl, ?_⟩) (by assumption) ?_; rotate_left; (focus (intro w' hSw; (try dsimp only at hSw); go_simp; (try with_reducible rfl); done)); (try simp only [Act.put, List.setIfInBounds_toArray, List.set_cons_zero, List.set_cons_succ, List.getElem_toArray, List.getElem_cons_succ, List.getElem_cons_zero]))
      (refine wpAnyH_take (i := 12) (oi := _) (v := ?_) rfl (by kernel_rfl) (by kernel_rfl) (by kernel_rfl) (fun _ _ _ h => h) (Or.inl ⟨by rfl, ?_⟩) (by assumption) ?_; rotate_left; (focus (intro w' hSw; (try dsimp only at hSw); go_simp; (try with_reducible rfl); done)); (try simp only [Act.put, List.setIfInBounds_toArray, List.set_cons_zero, List.set_cons_succ, List.getElem_toArray, List.getElem_cons_succ, List.getElem_cons_zero]))
      (refine wpAnyH_take (i := 13) (oi := _) (v := ?_) rfl (by kernel_rfl) (by kernel_rfl) (by kernel_rfl) (fun _ _ _ h => h) (Or.inl ⟨by rfl, ?_⟩) (by assumption) ?_; rotate_left; (focus (intro w' hSw; (try dsimp only at hSw); go_simp; (try with_reducible rfl); done)); (try simp only [Act.put, List.setIfInBounds_toArray, List.set_cons_zero, List.set_cons_succ, List.getElem_toArray, List.getElem_cons_succ, List.getElem_cons_zero]))
      refine wpAnyH_done (by kernel_rfl) ?_ _
      refine NoPanic.normal ?_
      go_wp2_with fail
      refine (HSum.out _).mono ?_
      rintro e w5 ⟨rfl, rfl⟩
      go_wp2_with fail
      refine (HW2.out _).mono ?_
      rintro e w6 ⟨rfl, hb6⟩
      go_wp2
      go_ret2
      exact ⟨by rw [HP.out]; rfl, by (repeat' (first | (with_reducible exact Below.refl _ _) | (with_reducible assumption) | (with_reducible refine below_run ?_ (by assumption)) | (with_reducible refine below_of_upd ?_ (by assumption) ?_) | (with_reducible refine below_drewN ?_ _) | (with_reducible refine Below.drew ?_) | (with_reducible refine below_seven ?_ ?_) | (with_reducible refine below_six ?_ ?_) | (with_reducible refine below_one ?_ ?_) | (with_reducible refine Below.alloc ?_ ?_ _) | (with_reducible refine below_after ?_ ?_ (by assumption)) | (show _ ≤ _; first | omega | (simp; done) | (simp; omega))))⟩
    · skip
      go_simp
      (refine (HWd.out _).mono ?_; rintro e wd ⟨rfl, hbd⟩; (have hsz : w.heap.size ≤ wd.heap.size := (by have q1 := hbd.size; have q2 := HB.out.size; simp at q1; omega)); go_simp)
      refine hK.out _ _ ?_ (fun hHeld => ?_)
      · (first | go_keep | exact HKp.out _ (by (repeat' (first | (with_reducible exact Below.refl _ _) | (with_reducible assumption) | (with_reducible refine below_run ?_ (by assumption)) | (with_reducible refine below_of_upd ?_ (by assumption) ?_) | (with_reducible refine below_drewN ?_ _) | (with_reducible refine Below.drew ?_) | (with_reducible refine below_seven ?_ ?_) | (with_reducible refine below_six ?_ ?_) | (with_reducible refine below_one ?_ ?_) | (with_reducible refine Below.alloc ?_ ?_ _) | (with_reducible refine below_after ?_ ?_ (by assumption)) | (show _ ≤ _; first | omega | (simp; done) | (simp; omega))))))
      clear hK K
      (try simp only [Act.put, List.setIfInBounds_toArray, List.set_cons_zero, List.set_cons_succ, List.getElem_toArray, List.getElem_cons_succ, List.getElem_cons_zero])
      refine wpAnyH_ready (rs := [4]) (by kernel_rfl) (by simp) (AllReadyH.cons (o := _) rfl (fun K hK => ?_) (AllReadyH.nil))
      go_simp
      (rw [hcv]; rotate_left; (focus (first | exact RowAt.mk rfl rfl | exact RowAt.drew (RowAt.mk rfl rfl) | exact RowAt.run (RowAt.mk rfl rfl) (by assumption) | exact RowAt.run (RowAt.drew (RowAt.mk rfl rfl)) (by assumption) | (trace_state; fail))); go_simp)
      refine hK.out _ _ ?_ (fun hHeld => ?_)
      · (first | go_keep | exact HKp.out _ (by (repeat' (first | (with_reducible exact Below.refl _ _) | (with_reducible assumption) | (with_reducible refine below_run ?_ (by assumption)) | (with_reducible refine below_of_upd ?_ (by assumption) ?_) | (with_reducible refine below_drewN ?_ _) | (with_reducible refine Below.drew ?_) | (with_reducible refine below_seven ?_ ?_) | (with_reducible refine below_six ?_ ?_) | (with_reducible refine below_one ?_ ?_) | (with_reducible refine Below.alloc ?_ ?_ _) | (with_reducible refine below_after ?_ ?_ (by assumption)) | (show _ ≤ _; first | omega | (simp; done) | (simp; omega))))))
      clear hK K
      (try simp only [Act.put, List.setIfInBounds_toArray, List.set_cons_zero, List.set_cons_succ, List.getElem_toArray, List.getElem_cons_succ, List.getElem_cons_zero])
      (refine wpAnyH_take (i := 9) (oi := _) (v := ?_) rfl (by kernel_rfl) (by kernel_rfl) (by kernel_rfl) (fun _ _ _ h => h) (Or.inl ⟨by rfl, ?_⟩) (by assumption) ?_; rotate_left; (focus (intro w' hSw; (try dsimp only at hSw); go_simp; (try with_reducible rfl); done)); (try simp only [Act.put, List.setIfInBounds_toArray, List.set_cons_zero, List.set_cons_succ, List.getElem_toArray, List.getElem_cons_succ, List.getElem_cons_zero]))
      (refine wpAnyH_take (i := 12) (oi := _) (v := ?_) rfl (by kernel_rfl) (by kernel_rfl) (by kernel_rfl) (fun _ _ _ h => h) (Or.inl ⟨by rfl, ?_⟩) (by assumption) ?_; rotate_left; (focus (intro w' hSw; (try dsimp only at hSw); go_simp; (try with_reducible rfl); done)); (try simp only [Act.put, List.setIfInBounds_toArray, List.set_cons_zero, List.set_cons_succ, List.getElem_toArray, List.getElem_cons_succ, List.getElem_cons_zero]))
      (refine wpAnyH_take (i := 13) (oi := _) (v := ?_) rfl (by kernel_rfl) (by kernel_rfl) (by kernel_rfl) (fun _ _ _ h => h) (Or.inl ⟨by rfl, ?_⟩) (by assumption) ?_; rotate_left; (focus (intro w' hSw; (try dsimp only at hSw); go_simp; (try with_reducible rfl); done)); (try simp only [Act.put, List.setIfInBounds_toArray, List.set_cons_zero, List.set_cons_succ, List.getElem_toArray, List.getElem_cons_succ, List.getElem_cons_zero]))
      refine wpAnyH_done (by kernel_rfl) ?_ _
      refine NoPanic.normal ?_
      go_wp2_with fail
      refine (HSum.out _).mono ?_
      rintro e w5 ⟨rfl, rfl⟩
      go_wp2_with fail
      refine (HW2.out _).mono ?_
      rintro e w6 ⟨rfl, hb6⟩
      go_wp2
      go_ret2
      exact ⟨by rw [HP.out]; rfl, by (repeat' (first | (with_reducible exact Below.refl _ _) | (with_reducible assumption) | (with_reducible refine below_run ?_ (by assumption)) | (with_reducible refine below_of_upd ?_ (by assumption) ?_) | (with_reducible refine below_drewN ?_ _) | (with_reducible refine Below.drew ?_) | (with_reducible refine below_seven ?_ ?_) | (with_reducible refine below_six ?_ ?_) | (with_reducible refine below_one ?_ ?_) | (with_reducible refine Below.alloc ?_ ?_ _) | (with_reducible refine below_after ?_ ?_ (by assumption)) | (show _ ≤ _; first | omega | (simp; done) | (simp; omega))))⟩
  · skip
    go_simp
    (refine (HWd.out _).mono ?_; rintro e wd ⟨rfl, hbd⟩; (have hsz : w.heap.size ≤ wd.heap.size := (by have q1 := hbd.size; have q2 := HB.out.size; simp at q1; omega)); go_simp)
    refine hK.out _ _ ?_ (fun hHeld => ?_)
    · (first | go_keep | exact HKp.out _ (by (repeat' (first | (with_reducible exact Below.refl _ _) | (with_reducible assumption) | (with_reducible refine below_run ?_ (by assumption)) | (with_reducible refine below_of_upd ?_ (by assumption) ?_) | (with_reducible refine below_drewN ?_ _) | (with_reducible refine Below.drew ?_) | (with_reducible refine below_seven ?_ ?_) | (with_reducible refine below_six ?_ ?_) | (with_reducible refine below_one ?_ ?_) | (with_reducible refine Below.alloc ?_ ?_ _) | (with_reducible refine below_after ?_ ?_ (by assumption)) | (show _ ≤ _; first | omega | (simp; done) | (simp; omega))))))
    clear hK K
    (try simp only [Act.put, List.setIfInBounds_toArray, List.set_cons_zero, List.set_cons_succ, List.getElem_toArray, List.getElem_cons_succ, List.getElem_cons_zero])
    refine wpAnyH_ready (rs := [3]) (by kernel_rfl) (by simp) (AllReadyH.cons (o := _) rfl (fun K hK => ?_) (AllReadyH.nil))
    go_simp
    refine hK.out _ _ ?_ (fun hHeld => ?_)
    · (first | go_keep | exact HKp.out _ (by (repeat' (first | (with_reducible exact Below.refl _ _) | (with_reducible assumption) | (with_reducible refine below_run ?_ (by assumption)) | (with_reducible refine below_of_upd ?_ (by assumption) ?_) | (with_reducible refine below_drewN ?_ _) | (with_reducible refine Below.drew ?_) | (with_reducible refine below_seven ?_ ?_) | (with_reducible refine below_six ?_ ?_) | (with_reducible refine below_one ?_ ?_) | (with_reducible refine Below.alloc ?_ ?_ _) | (with_reducible refine below_after ?_ ?_ (by assumption)) | (show _ ≤ _; first | omega | (simp; done) | (simp; omega))))))
    clear hK K
    (try simp only [Act.put, List.setIfInBounds_toArray, List.set_cons_zero, List.set_cons_succ, List.getElem_toArray, List.getElem_cons_succ, List.getElem_cons_zero])
    refine wpAnyH_ready (rs := [4]) (by kernel_rfl) (by simp) (AllReadyH.cons (o := _) rfl (fun K hK => ?_) (AllReadyH.nil))
    go_simp
    (rw [hcv]; rotate_left; (focus (first | exact RowAt.mk rfl rfl | exact RowAt.drew (RowAt.mk rfl rfl) | exact RowAt.run (RowAt.mk rfl rfl) (by assumption) | exact RowAt.run (RowAt.drew (RowAt.mk rfl rfl)) (by assumption) | (trace_state; fail))); go_simp)
    refine hK.out _ _ ?_ (fun hHeld => ?_)
    · (first | go_keep | exact HKp.out _ (by (repeat' (first | (with_reducible exact Below.refl _ _) | (with_reducible assumption) | (with_reducible refine below_run ?_ (by assumption)) | (with_reducible refine below_of_upd ?_ (by assumption) ?_) | (with_reducible refine below_drewN ?_ _) | (with_reducible refine Below.drew ?_) | (with_reducible refine below_seven ?_ ?_) | (with_reducible refine below_six ?_ ?_) | (with_reducible refine below_one ?_ ?_) | (with_reducible refine Below.alloc ?_ ?_ _) | (with_reducible refine below_after ?_ ?_ (by assumption)) | (show _ ≤ _; first | omega | (simp; done) | (simp; omega))))))
    clear hK K
    (try simp only [Act.put, List.setIfInBounds_toArray, List.set_cons_zero, List.set_cons_succ, List.getElem_toArray, List.getElem_cons_succ, List.getElem_cons_zero])
    (refine wpAnyH_take (i := 9) (oi := _) (v := ?_) rfl (by kernel_rfl) (by kernel_rfl) (by kernel_rfl) (fun _ _ _ h => h) (Or.inl ⟨by rfl, ?_⟩) (by assumption) ?_; rotate_left; (focus (intro w' hSw; (try dsimp only at hSw); go_simp; (try with_reducible rfl); done)); (try simp only [Act.put, List.setIfInBounds_toArray, List.set_cons_zero, List.set_cons_succ, List.getElem_toArray, List.getElem_cons_succ, List.getElem_cons_zero]))
    (refine wpAnyH_take (i := 12) (oi := _) (v := ?_) rfl (by kernel_rfl) (by kernel_rfl) (by kernel_rfl) (fun _ _ _ h => h) (Or.inl ⟨by rfl, ?_⟩) (by assumption) ?_; rotate_left; (focus (intro w' hSw; (try dsimp only at hSw); go_simp; (try with_reducible rfl); done)); (try simp only [Act.put, List.setIfInBounds_toArray, List.set_cons_zero, List.set_cons_succ, List.getElem_toArray, List.getElem_cons_succ, List.getElem_cons_zero]))
    (refine wpAnyH_take (i := 13) (oi := _) (v := ?_) rfl (by kernel_rfl) (by kernel_rfl) (by kernel_rfl) (fun _ _ _ h => h) (Or.inl ⟨by rfl, ?_⟩) (by assumption) ?_; rotate_left; (focus (intro w' hSw; (try dsimp only at hSw); go_simp; (try with_reducible rfl); done)); (try simp only [Act.put, List.setIfInBounds_toArray, List.set_cons_zero, List.set_cons_succ, List.getElem_toArray, List.getElem_cons_succ, List.getElem_cons_zero]))
    refine wpAnyH_done (by kernel_rfl) ?_ _
    refine NoPanic.normal ?_
    go_wp2_with fail
    refine (HSum.out _).mono ?_
    rintro e w5 ⟨rfl, rfl⟩
    go_wp2_with fail
    refine (HW2.out _).mono ?_
    rintro e w6 ⟨rfl, hb6⟩
    go_wp2
    go_ret2
    exact ⟨by rw [HP.out]; rfl, by (repeat' (first | (with_reducible exact Below.refl _ _) | (with_reducible assumption) | (with_reducible refine below_run ?_ (by assumption)) | (with_reducible refine below_of_upd ?_ (by assumption) ?_) | (with_reducible refine below_drewN ?_ _) | (with_reducible refine Below.drew ?_) | (with_reducible refine below_seven ?_ ?_) | (with_reducible refine below_six ?_ ?_) | (with_reducible refine below_one ?_ ?_) | (with_reducible refine Below.alloc ?_ ?_ _) | (with_reducible refine below_after ?_ ?_ (by assumption)) | (show _ ≤ _; first | omega | (simp; done) | (simp; omega))))⟩

end Go.Proofs.YtjeigphhepngmaaGreatDoor
