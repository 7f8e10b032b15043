/-
  The examples of the chapter on messages.
-/
import Derived.Test.YtdklpmaeajpacaaDoorTab
import Derived.Test.YtdklpmaeajpacaaDoorEnc
import Derived.Test.YtdklpmaeajpacaaDoorDec
import Derived.Test.YtdklpmaeajpacaaDoorIdn
import Derived.Test.YtdklpmaeajpacaaDoorOvr
import Derived.Laws.StructEq
namespace Go.Proofs.YtdklpmaeajpacaaDoor
open Go.RowKit

def exM46 : Msg := ⟨2, 1, 3, 4, 5, ⟨#[]⟩⟩
theorem ex_enc : encM exM46 = (⟨#[204, 1, 0, 0, 0, 0, 0, 2, 0, 0, 0, 0, 0, 1, 3, 4, 0, 5, 0, 0, 220]⟩, 0) := by kernel_rfl
theorem ex_dec : decM (⟨#[204, 1, 0, 0, 0, 0, 0, 2, 0, 0, 0, 0, 0, 1, 3, 4, 0, 5, 0, 0, 220]⟩ : ByteArray).data.toList = (exM46, 0) := by kernel_rfl
theorem ex_name : nameM 20014547599361 = (⟨#[49, 50, 51, 52, 58, 48, 48, 48, 48, 48, 48, 48, 49]⟩, 0) := by kernel_rfl
theorem ex_id : idM ⟨#[49, 50, 51, 52, 58, 48, 48, 48, 48, 48, 48, 48, 49]⟩ = (20014547599361, 0) := by kernel_rfl
theorem ex_over : overM [⟨#[5]⟩, ⟨#[3, 1]⟩] = (⟨#[7, 1]⟩, 0) := by kernel_rfl

theorem enc_is (w : World) : Calls Tryd.prog 14 #[.agg #[.int .u64 2, .int .u64 1, .int .i64 3, .int .i64 4, .int .i64 5, .string ⟨#[]⟩]] w fun e w' => e = .returned (.tuple #[.string ⟨#[204, 1, 0, 0, 0, 0, 0, 2, 0, 0, 0, 0, 0, 1, 3, 4, 0, 5, 0, 0, 220]⟩, .int .i64 0]) ∧ Below w.heap.size w w' := by
  refine (enc_any 2 1 3 4 5 ⟨#[]⟩ w).mono ?_
  rintro e w' ⟨s, n, rfl, h, hb⟩
  have h2 : encM exM46 = (s, n) := h.out
  rw [ex_enc] at h2
  cases h2
  exact ⟨rfl, hb⟩
theorem dec_is (w : World) : Calls Tryd.prog 18 #[.string ⟨#[204, 1, 0, 0, 0, 0, 0, 2, 0, 0, 0, 0, 0, 1, 3, 4, 0, 5, 0, 0, 220]⟩] w fun e w' => e = .returned (.tuple #[.agg #[.int .u64 2, .int .u64 1, .int .i64 3, .int .i64 4, .int .i64 5, .string ⟨#[]⟩], .int .i64 0]) ∧ Below w.heap.size w w' := by
  refine (dec_any _ w (by decide)).mono ?_
  rintro e w' ⟨m, n, rfl, h, hb⟩
  have h2 := h.out
  rw [ex_dec] at h2
  cases h2
  exact ⟨rfl, hb⟩
theorem name_is (w : World) (h : Tab w) : Calls Tryd.prog 20 #[.int .u64 20014547599361] w fun e w' => e = .returned (.tuple #[.string ⟨#[49, 50, 51, 52, 58, 48, 48, 48, 48, 48, 48, 48, 49]⟩, .int .i64 0]) ∧ Below w.heap.size w w' := by
  refine (name_any _ w h).mono ?_
  rintro e w' ⟨rfl, hb⟩
  rw [ex_name]
  exact ⟨rfl, hb⟩
theorem id_is (w : World) : Calls Tryd.prog 22 #[.string ⟨#[49, 50, 51, 52, 58, 48, 48, 48, 48, 48, 48, 48, 49]⟩] w fun e w' => e = .returned (.tuple #[.int .u64 20014547599361, .int .i64 0]) ∧ Below w.heap.size w w' := by
  refine (identity_any _ w).mono ?_
  rintro e w' ⟨rfl, hb⟩
  rw [ex_id]
  exact ⟨rfl, hb⟩
theorem over_is (b : Nat) (w : World) (hb : RowAt w b 9 #[.string ⟨#[5]⟩, .string ⟨#[3, 1]⟩]) : Calls Tryd.prog 31 #[.slice (some ⟨b, 0, none⟩) 2 2] w fun e w' => e = .returned (.tuple #[.string ⟨#[7, 1]⟩, .int .i64 0]) ∧ Below w.heap.size w w' := by
  obtain ⟨h1, h2, h3, _⟩ := row_facts hb
  refine (overlay_any _ [⟨#[5]⟩, ⟨#[3, 1]⟩] w (.inr ⟨by decide, by decide, b, 0, 2, rfl, h3, fun j hj => ?_⟩)).mono ?_
  · rw [Nat.zero_add, h1]
    have hj2 : j < 2 := hj
    match j, hj2 with
    | 0, _ => rfl
    | 1, _ => rfl
  rintro e w' ⟨s, n, rfl, h, hb⟩
  have h2 := h.out
  rw [ex_over] at h2
  cases h2
  exact ⟨rfl, hb⟩

set_option maxHeartbeats 2000000 in
set_option maxRecDepth 100000 in
theorem awake46_any (w : World) (h : Tab w) : Calls Tryd.prog 13 #[] w fun e w' => e = .returned (.bool true) ∧ Below w.heap.size w w' := by
  have HT := Lib.hid (h.alloc (.cells #[.int .u64 2, .int .u64 1, .int .i64 3, .int .i64 4, .int .i64 5, .string ⟨#[]⟩] 24))
  clear h
  go_enter Tryd.func13, Tryd.ntmps13
  go_wp2_with fail
  refine (enc_is _).mono ?_
  rintro e w1 ⟨rfl, hb⟩
  have hz := hb.size
  (try simp at hz)
  have ha : RowAt w1 w.heap.size 24 #[.int .u64 2, .int .u64 1, .int .i64 3, .int .i64 4, .int .i64 5, .string ⟨#[]⟩] := (by (repeat' (first | (with_reducible assumption) | (with_reducible refine RowAt.drewN ?_ _) | (with_reducible refine RowAt.drew ?_) | (with_reducible apply RowAt.six) | (with_reducible apply RowAt.seven) | ((with_reducible refine RowAt.mk ?_ ?_); (focus (first | rfl | (simp; done))); rfl) | (with_reducible refine RowAt.alloc ?_ _) | (with_reducible refine RowAt.far ?_ ?_) | (with_reducible refine RowAt.run ?_ (by assumption)) | (with_reducible refine RowAt.below ?_ (by assumption) ?_) | (with_reducible refine RowAt.upd ?_ (by assumption) ?_) | (show _ < _; first | omega | (simp; done) | (simp; omega)) | (show ¬ _ = _; first | omega | (simp; done) | (simp; omega)) | exact rfl))); obtain ⟨haa, hab, hac, had, hae, haf⟩ := row_facts ha
  have HT1 := Lib.hid (HT.out.run hb)
  go_wp2_with fail
  refine (dec_is _).mono ?_
  rintro e w2 ⟨rfl, hb2⟩
  have hz2 := hb2.size
  have ha2 : RowAt w2 w.heap.size 24 #[.int .u64 2, .int .u64 1, .int .i64 3, .int .i64 4, .int .i64 5, .string ⟨#[]⟩] := (by (repeat' (first | (with_reducible assumption) | (with_reducible refine RowAt.drewN ?_ _) | (with_reducible refine RowAt.drew ?_) | (with_reducible apply RowAt.six) | (with_reducible apply RowAt.seven) | ((with_reducible refine RowAt.mk ?_ ?_); (focus (first | rfl | (simp; done))); rfl) | (with_reducible refine RowAt.alloc ?_ _) | (with_reducible refine RowAt.far ?_ ?_) | (with_reducible refine RowAt.run ?_ (by assumption)) | (with_reducible refine RowAt.below ?_ (by assumption) ?_) | (with_reducible refine RowAt.upd ?_ (by assumption) ?_) | (show _ < _; first | omega | (simp; done) | (simp; omega)) | (show ¬ _ = _; first | omega | (simp; done) | (simp; omega)) | exact rfl))); obtain ⟨ha2a, ha2b, ha2c, ha2d, ha2e, ha2f⟩ := row_facts ha2
  have HT2 := Lib.hid (HT1.out.run hb2)
  go_wp2_with fail
  refine (name_is _ (HT2.out.alloc _)).mono ?_
  rintro e w3 ⟨rfl, hb3⟩
  have hz3 := hb3.size
  (try simp at hz3)
  have ha3 : RowAt w3 w.heap.size 24 #[.int .u64 2, .int .u64 1, .int .i64 3, .int .i64 4, .int .i64 5, .string ⟨#[]⟩] := (by (repeat' (first | (with_reducible assumption) | (with_reducible refine RowAt.drewN ?_ _) | (with_reducible refine RowAt.drew ?_) | (with_reducible apply RowAt.six) | (with_reducible apply RowAt.seven) | ((with_reducible refine RowAt.mk ?_ ?_); (focus (first | rfl | (simp; done))); rfl) | (with_reducible refine RowAt.alloc ?_ _) | (with_reducible refine RowAt.far ?_ ?_) | (with_reducible refine RowAt.run ?_ (by assumption)) | (with_reducible refine RowAt.below ?_ (by assumption) ?_) | (with_reducible refine RowAt.upd ?_ (by assumption) ?_) | (show _ < _; first | omega | (simp; done) | (simp; omega)) | (show ¬ _ = _; first | omega | (simp; done) | (simp; omega)) | exact rfl))); obtain ⟨ha3a, ha3b, ha3c, ha3d, ha3e, ha3f⟩ := row_facts ha3
  have hc3 : RowAt w3 w2.heap.size 24 #[.int .u64 2, .int .u64 1, .int .i64 3, .int .i64 4, .int .i64 5, .string ⟨#[]⟩] := (by (repeat' (first | (with_reducible assumption) | (with_reducible refine RowAt.drewN ?_ _) | (with_reducible refine RowAt.drew ?_) | (with_reducible apply RowAt.six) | (with_reducible apply RowAt.seven) | ((with_reducible refine RowAt.mk ?_ ?_); (focus (first | rfl | (simp; done))); rfl) | (with_reducible refine RowAt.alloc ?_ _) | (with_reducible refine RowAt.far ?_ ?_) | (with_reducible refine RowAt.run ?_ (by assumption)) | (with_reducible refine RowAt.below ?_ (by assumption) ?_) | (with_reducible refine RowAt.upd ?_ (by assumption) ?_) | (show _ < _; first | omega | (simp; done) | (simp; omega)) | (show ¬ _ = _; first | omega | (simp; done) | (simp; omega)) | exact rfl))); obtain ⟨hc3a, hc3b, hc3c, hc3d, hc3e, hc3f⟩ := row_facts hc3
  go_wp2_with fail
  refine (id_is _).mono ?_
  rintro e w4 ⟨rfl, hb4⟩
  have hz4 := hb4.size
  (try simp at hz4)
  have ha4 : RowAt w4 w.heap.size 24 #[.int .u64 2, .int .u64 1, .int .i64 3, .int .i64 4, .int .i64 5, .string ⟨#[]⟩] := (by (repeat' (first | (with_reducible assumption) | (with_reducible refine RowAt.drewN ?_ _) | (with_reducible refine RowAt.drew ?_) | (with_reducible apply RowAt.six) | (with_reducible apply RowAt.seven) | ((with_reducible refine RowAt.mk ?_ ?_); (focus (first | rfl | (simp; done))); rfl) | (with_reducible refine RowAt.alloc ?_ _) | (with_reducible refine RowAt.far ?_ ?_) | (with_reducible refine RowAt.run ?_ (by assumption)) | (with_reducible refine RowAt.below ?_ (by assumption) ?_) | (with_reducible refine RowAt.upd ?_ (by assumption) ?_) | (show _ < _; first | omega | (simp; done) | (simp; omega)) | (show ¬ _ = _; first | omega | (simp; done) | (simp; omega)) | exact rfl))); obtain ⟨ha4a, ha4b, ha4c, ha4d, ha4e, ha4f⟩ := row_facts ha4
  have hc4 : RowAt w4 w2.heap.size 24 #[.int .u64 2, .int .u64 1, .int .i64 3, .int .i64 4, .int .i64 5, .string ⟨#[]⟩] := (by (repeat' (first | (with_reducible assumption) | (with_reducible refine RowAt.drewN ?_ _) | (with_reducible refine RowAt.drew ?_) | (with_reducible apply RowAt.six) | (with_reducible apply RowAt.seven) | ((with_reducible refine RowAt.mk ?_ ?_); (focus (first | rfl | (simp; done))); rfl) | (with_reducible refine RowAt.alloc ?_ _) | (with_reducible refine RowAt.far ?_ ?_) | (with_reducible refine RowAt.run ?_ (by assumption)) | (with_reducible refine RowAt.below ?_ (by assumption) ?_) | (with_reducible refine RowAt.upd ?_ (by assumption) ?_) | (show _ < _; first | omega | (simp; done) | (simp; omega)) | (show ¬ _ = _; first | omega | (simp; done) | (simp; omega)) | exact rfl))); obtain ⟨hc4a, hc4b, hc4c, hc4d, hc4e, hc4f⟩ := row_facts hc4
  go_wp2_with fail
  refine (over_is _ _ (RowAt.new _ _ _)).mono ?_
  rintro e w5 ⟨rfl, hb5⟩
  have hz5 := hb5.size
  (try simp at hz5)
  have ha5 : RowAt w5 w.heap.size 24 #[.int .u64 2, .int .u64 1, .int .i64 3, .int .i64 4, .int .i64 5, .string ⟨#[]⟩] := (by (repeat' (first | (with_reducible assumption) | (with_reducible refine RowAt.drewN ?_ _) | (with_reducible refine RowAt.drew ?_) | (with_reducible apply RowAt.six) | (with_reducible apply RowAt.seven) | ((with_reducible refine RowAt.mk ?_ ?_); (focus (first | rfl | (simp; done))); rfl) | (with_reducible refine RowAt.alloc ?_ _) | (with_reducible refine RowAt.far ?_ ?_) | (with_reducible refine RowAt.run ?_ (by assumption)) | (with_reducible refine RowAt.below ?_ (by assumption) ?_) | (with_reducible refine RowAt.upd ?_ (by assumption) ?_) | (show _ < _; first | omega | (simp; done) | (simp; omega)) | (show ¬ _ = _; first | omega | (simp; done) | (simp; omega)) | exact rfl))); obtain ⟨ha5a, ha5b, ha5c, ha5d, ha5e, ha5f⟩ := row_facts ha5
  have hc5 : RowAt w5 w2.heap.size 24 #[.int .u64 2, .int .u64 1, .int .i64 3, .int .i64 4, .int .i64 5, .string ⟨#[]⟩] := (by (repeat' (first | (with_reducible assumption) | (with_reducible refine RowAt.drewN ?_ _) | (with_reducible refine RowAt.drew ?_) | (with_reducible apply RowAt.six) | (with_reducible apply RowAt.seven) | ((with_reducible refine RowAt.mk ?_ ?_); (focus (first | rfl | (simp; done))); rfl) | (with_reducible refine RowAt.alloc ?_ _) | (with_reducible refine RowAt.far ?_ ?_) | (with_reducible refine RowAt.run ?_ (by assumption)) | (with_reducible refine RowAt.below ?_ (by assumption) ?_) | (with_reducible refine RowAt.upd ?_ (by assumption) ?_) | (show _ < _; first | omega | (simp; done) | (simp; omega)) | (show ¬ _ = _; first | omega | (simp; done) | (simp; omega)) | exact rfl))); obtain ⟨hc5a, hc5b, hc5c, hc5d, hc5e, hc5f⟩ := row_facts hc5
  go_wp2
  go_ret
  exact ⟨rfl, by (repeat' (first | (with_reducible exact Below.refl _ _) | (with_reducible assumption) | (with_reducible refine below_run ?_ (by assumption)) | (with_reducible refine below_of_upd ?_ (by assumption) ?_) | (with_reducible refine below_drewN ?_ _) | (with_reducible refine Below.drew ?_) | (with_reducible refine below_seven ?_ ?_) | (with_reducible refine below_six ?_ ?_) | (with_reducible refine below_one ?_ ?_) | (with_reducible refine Below.alloc ?_ ?_ _) | (with_reducible refine below_after ?_ ?_ (by assumption)) | (show _ ≤ _; first | omega | (simp; done) | (simp; omega))))⟩

end Go.Proofs.YtdklpmaeajpacaaDoor
