/-
  The reader that goes on: times of a part.
-/
import Derived.Test.YtjeigphhepngmaaGreatDoorYy
namespace Go.Proofs.YtjeigphhepngmaaGreatDoor
open Go.RowKit

/-- The state before the int `k`, and that int. -/
def qSt (s : ByteArray) (st : RS) : Nat → RS
  | 0 => st
  | k + 1 => (qI s (qSt s st k)).2
def qVal (s : ByteArray) (st : RS) (k : Nat) : Int := (qI s (qSt s st k)).1
theorem qSt_le {s : ByteArray} {st : RS} (ha : st.at_ ≤ s.size) : ∀ k, (qSt s st k).at_ ≤ s.size
  | 0 => ha
  | k + 1 => ((fwdQ_I s).fwd _ (qSt_le ha k)).2
theorem qTim_is (s : ByteArray) (st : RS) : qTim s st = (⟨qVal s st 0, qVal s st 1, qVal s st 2, qVal s st 3, qVal s st 4, qVal s st 5⟩, qSt s st 6) := by
  simp [qTim, qMap, qIs, timOf, qVal, qSt]
/-- Of six ints the first `k` are in place. -/
def rowK (f : Nat → Int) (k : Nat) : Array Value := #[.int .i64 (if 0 < k then f 0 else 0), .int .i64 (if 1 < k then f 1 else 0), .int .i64 (if 2 < k then f 2 else 0), .int .i64 (if 3 < k then f 3 else 0), .int .i64 (if 4 < k then f 4 else 0), .int .i64 (if 5 < k then f 5 else 0)]
theorem rowK_set (f : Nat → Int) (k : Nat) (hk : k < 6) : (rowK f k).setIfInBounds k (.int .i64 (f k)) = rowK f (k + 1) := by
  have : k = 0 ∨ k = 1 ∨ k = 2 ∨ k = 3 ∨ k = 4 ∨ k = 5 := by omega
  rcases this with rfl | rfl | rfl | rfl | rfl | rfl <;> rfl

set_option maxHeartbeats 4000000 in
set_option maxRecDepth 100000 in
theorem qtiming_any (b : Nat) (s : ByteArray) (st : RS) (w : World) (h : RRd w b s st) (ha : st.at_ ≤ s.size) (hs : s.size ≤ 1000000) :
    Calls Tryz.prog 181 #[.pointer (some ⟨b, 0, none⟩)] w fun e w' => QPost b s (.agg (timA (qTim s st).1)) (qTim s st).2 w e w' := by
  have hb : b < w.heap.size := lt_of_block h
  have HA := Lib.hid (qSt_le ha)
  have HS := Lib.hid hs
  have HH := Lib.hid h
  rw [qTim_is]
  obtain ⟨f, hf⟩ : ∃ f, qVal s st = f := ⟨_, rfl⟩
  rw [hf]
  have HF := Lib.hid hf
  clear h ha hs hf
  go_enter Tryz.func181, Tryz.ntmps181
  go_wp2
  go_loopw [4] (fun i wr => ∃ k : Nat, k ≤ 6 ∧ i = .int .i64 k ∧ Hid (RRd wr b s (qSt s st k) ∧ Upd b w wr) ∧ RowAt wr w.heap.size 142 #[.int .i64 0, .int .i64 0, .int .i64 0, .int .i64 0, .int .i64 0, .int .i64 0] ∧ RowAt wr (w.heap.size + 1) 328 (rowK f k)) (fun i _ => 6 - (intOf i).toNat)
  case atStart => exact ⟨0, by omega, rfl, Lib.hid ⟨RowAt.alloc (RowAt.alloc HH.out _) _, upd_alloc (upd_alloc (upd_refl _ _) _) _⟩, RowAt.alloc (RowAt.new _ _ _) _, RowAt.mk (by simp) rfl⟩
  case round =>
    obtain ⟨k, hk, rfl, hh, hz, hr⟩ := hrel
    by_cases hlt : k < 6
    · have hlt3 : (k : Int) < 6 := by omega
      have hk0 : (0 : Int) ≤ (k : Int) := by omega
      have C := Lib.hid (qint_any b s (qSt s st k) wr hh.out.1 (HA.out k) HS.out)
      have Q := Lib.hid (show qI s (qSt s st k) = (f k, qSt s st (k + 1)) from by rw [← HF.out]; rfl)
      obtain ⟨x1, x2, x3, x4, x5, x6⟩ := row_facts hr
      clear x1
      go_wp2_with fail
      refine C.out.mono ?_
      rintro e w1 hp
      unfold QPost at hp
      rw [Q.out] at hp
      obtain ⟨rfl, hr1, hu1⟩ := hp
      have hz1 := hz.upd hu1 (by omega)
      have hr2 := hr.upd hu1 (by omega)
      have U := Lib.hid (upd_trans hh.out.2 hu1)
      obtain ⟨y1, y2, y3, y4, y5, y6⟩ := row_facts hr2
      have R := Lib.hid (And.intro hr1 (And.intro hz1 hr2))
      obtain ⟨v0, hv0⟩ : ∃ v, (rowK f k)[k]? = some v := ⟨_, Array.getElem?_eq_getElem (by simp [rowK]; omega)⟩
      have hck := (y1 k).trans hv0
      clear hz hr hu1 hz1 hr1 hr2 x2 x3 x4 x5 x6 y1 hv0
      go_wp2
      go_roundw
      case rel => exact ⟨k + 1, by omega, by go_num, Lib.hid ⟨RowAt.far1 R.out.1 (by omega), upd_far U.out (by show w.heap.size ≤ w.heap.size + 1; omega) _⟩, R.out.2.1.far1 (by omega), RowAt.set R.out.2.2 (rowK_set f k hlt)⟩
      case measure => simp [intOf]; omega
    · obtain rfl : k = 6 := by omega
      obtain ⟨x1, x2, x3, x4, x5, x6⟩ := row_facts hz
      have hr6 : RowAt wr (w.heap.size + 1) 328 #[.int .i64 (f 0), .int .i64 (f 1), .int .i64 (f 2), .int .i64 (f 3), .int .i64 (f 4), .int .i64 (f 5)] := by simpa [rowK] using hr
      obtain ⟨y1, y2, y3, y4, y5, y6⟩ := row_facts hr6
      have R := Lib.hid hz
      clear hz hr hr6
      go_wp2
      have hF : RowAt ((((((wr.setCell ⟨w.heap.size, 0, none⟩ (.int .i64 (f 0))).setCell ⟨w.heap.size, 1, none⟩ (.int .i64 (f 1))).setCell ⟨w.heap.size, 2, none⟩ (.int .i64 (f 2))).setCell ⟨w.heap.size, 3, none⟩ (.int .i64 (f 3))).setCell ⟨w.heap.size, 4, none⟩ (.int .i64 (f 4))).setCell ⟨w.heap.size, 5, none⟩ (.int .i64 (f 5))) w.heap.size 142 #[.int .i64 (f 0), .int .i64 (f 1), .int .i64 (f 2), .int .i64 (f 3), .int .i64 (f 4), .int .i64 (f 5)] := RowAt.set (RowAt.set (RowAt.set (RowAt.set (RowAt.set (RowAt.set R.out rfl) rfl) rfl) rfl) rfl) rfl
      have f0 := cell_h hF 0
      have f1 := cell_h hF 1
      have f2 := cell_h hF 2
      have f3 := cell_h hF 3
      have f4 := cell_h hF 4
      have f5 := cell_h hF 5
      simp only [List.getElem?_toArray] at f0 f1 f2 f3 f4 f5
      refine bodyPost_ret (v := .agg #[.int .i64 (f 0), .int .i64 (f 1), .int .i64 (f 2), .int .i64 (f 3), .int .i64 (f 4), .int .i64 (f 5)]) ?_ rfl ⟨rfl, ?_, ?_⟩
      · simp [results, Tryz.results181, go_sem, f0, f1, f2, f3, f4, f5]
      · exact RowAt.far6 (v0 := .int .i64 (f 0)) hh.out.1 (by omega)
      · exact upd_far (upd_far (upd_far (upd_far (upd_far (upd_far hh.out.2 (Nat.le_refl _) _) (Nat.le_refl _) _) (Nat.le_refl _) _) (Nat.le_refl _) _) (Nat.le_refl _) _) (Nat.le_refl _) _
end Go.Proofs.YtjeigphhepngmaaGreatDoor
