/-
  The walk of the law on what is decoded.
-/
import Derived.Test.YtdklpmaeajpacaaDoorAwm
import Derived.Test.YtdklpmaeajpacaaDoorDec
import Derived.Test.YtdklpmaeajpacaaDoorRenc
namespace Go.Proofs.YtdklpmaeajpacaaDoor
open Go.RowKit

set_option maxHeartbeats 4000000 in
set_option maxRecDepth 100000 in
theorem law_reads (s : ByteArray) (w : World) (h : Tab w) :
    Calls Tryd.prog 4 #[.string s] w fun e w' => e = .returned (.bool true) ∧ Below w.heap.size w w' := by
  have hT := h
  by_cases hs : s.size ≤ 600
  · have s1 : ¬ (600 : Int) < (s.size : Int) := by omega
    obtain ⟨A, n, hA⟩ : ∃ A n, decM s.data.toList = (A, n) := ⟨_, _, rfl⟩
    have C1 : Hid (∀ W, Calls Tryd.prog 18 #[.string s] W fun e w' => e = .returned (.tuple #[msgV A, .int .i64 n]) ∧ Below W.heap.size W w') := Lib.hid fun W => (dec_any s W (by omega)).mono fun e w' ⟨a, b, he, hh, hb⟩ => by have := hh.out; rw [hA] at this; cases this; exact ⟨he, hb⟩
    have C2 : Hid (∀ W, Calls Tryd.prog 19 #[.string s] W fun e w' => e = .returned (.tuple #[msgV A, .int .i64 n]) ∧ Below W.heap.size W w') := Lib.hid fun W => (refdec_any s W (by omega)).mono fun e w' ⟨a, b, he, hh, hb⟩ => by have := hh.out; rw [hA] at this; cases this; exact ⟨he, hb⟩
    clear hA hs
    go_enter Tryd.func4, Tryd.ntmps4
    go_wp2_with fail
    refine (C1.out _).mono ?_
    rintro e w1 ⟨rfl, hb1⟩
    have hz1 := hb1.size
    (try simp at hz1)
    go_wp2_with fail
    refine (C2.out _).mono ?_
    rintro e w2 ⟨rfl, hb2⟩
    have hz2 := hb2.size
    (try simp at hz2)
    have r2_0 : RowAt w2 w1.heap.size 24 #[.int .u64 A.dst, .int .u64 A.src, .int .i64 A.seq, .int .i64 A.kind, .int .i64 A.par, .string A.dat] := (by (repeat' (first | (with_reducible assumption) | (with_reducible refine RowAt.drewN ?_ _) | (with_reducible refine RowAt.drew ?_) | (with_reducible apply RowAt.six) | (with_reducible apply RowAt.seven) | ((with_reducible refine RowAt.mk ?_ ?_); (focus (first | rfl | (simp; done))); rfl) | (with_reducible refine RowAt.alloc ?_ _) | (with_reducible refine RowAt.far ?_ ?_) | (with_reducible refine RowAt.run ?_ (by assumption)) | (with_reducible refine RowAt.below ?_ (by assumption) ?_) | (with_reducible refine RowAt.upd ?_ (by assumption) ?_) | (show _ < _; first | omega | (simp; done) | (simp; omega)) | (show ¬ _ = _; first | omega | (simp; done) | (simp; omega)) | exact rfl))); obtain ⟨r2_0a, r2_0b, r2_0c, r2_0d, r2_0e, r2_0f⟩ := row_facts r2_0
    go_wp2_with fail
    refine (awake46_any _ (by repeat' (first | (with_reducible assumption) | (with_reducible refine Tab.drewN ?_ _) | (with_reducible refine Tab.drew ?_) | (with_reducible refine Tab.alloc ?_ _) | (with_reducible refine Tab.run ?_ (by assumption))))).mono ?_
    rintro e w3 ⟨rfl, hb3⟩
    have hz3 := hb3.size
    (try simp at hz3)
    have r3_0 : RowAt w3 w1.heap.size 24 #[.int .u64 A.dst, .int .u64 A.src, .int .i64 A.seq, .int .i64 A.kind, .int .i64 A.par, .string A.dat] := (by (repeat' (first | (with_reducible assumption) | (with_reducible refine RowAt.drewN ?_ _) | (with_reducible refine RowAt.drew ?_) | (with_reducible apply RowAt.six) | (with_reducible apply RowAt.seven) | ((with_reducible refine RowAt.mk ?_ ?_); (focus (first | rfl | (simp; done))); rfl) | (with_reducible refine RowAt.alloc ?_ _) | (with_reducible refine RowAt.far ?_ ?_) | (with_reducible refine RowAt.run ?_ (by assumption)) | (with_reducible refine RowAt.below ?_ (by assumption) ?_) | (with_reducible refine RowAt.upd ?_ (by assumption) ?_) | (show _ < _; first | omega | (simp; done) | (simp; omega)) | (show ¬ _ = _; first | omega | (simp; done) | (simp; omega)) | exact rfl))); obtain ⟨r3_0a, r3_0b, r3_0c, r3_0d, r3_0e, r3_0f⟩ := row_facts r3_0
    have r3_1 : RowAt w3 w2.heap.size 24 #[.int .u64 A.dst, .int .u64 A.src, .int .i64 A.seq, .int .i64 A.kind, .int .i64 A.par, .string A.dat] := (by (repeat' (first | (with_reducible assumption) | (with_reducible refine RowAt.drewN ?_ _) | (with_reducible refine RowAt.drew ?_) | (with_reducible apply RowAt.six) | (with_reducible apply RowAt.seven) | ((with_reducible refine RowAt.mk ?_ ?_); (focus (first | rfl | (simp; done))); rfl) | (with_reducible refine RowAt.alloc ?_ _) | (with_reducible refine RowAt.far ?_ ?_) | (with_reducible refine RowAt.run ?_ (by assumption)) | (with_reducible refine RowAt.below ?_ (by assumption) ?_) | (with_reducible refine RowAt.upd ?_ (by assumption) ?_) | (show _ < _; first | omega | (simp; done) | (simp; omega)) | (show ¬ _ = _; first | omega | (simp; done) | (simp; omega)) | exact rfl))); obtain ⟨r3_1a, r3_1b, r3_1c, r3_1d, r3_1e, r3_1f⟩ := row_facts r3_1
    go_wp2
    go_ret
    exact ⟨rfl, by (repeat' (first | (with_reducible exact Below.refl _ _) | (with_reducible assumption) | (with_reducible refine below_run ?_ (by assumption)) | (with_reducible refine below_of_upd ?_ (by assumption) ?_) | (with_reducible refine below_drewN ?_ _) | (with_reducible refine Below.drew ?_) | (with_reducible refine below_seven ?_ ?_) | (with_reducible refine below_six ?_ ?_) | (with_reducible refine below_one ?_ ?_) | (with_reducible refine Below.alloc ?_ ?_ _) | (with_reducible refine below_after ?_ ?_ (by assumption)) | (show _ ≤ _; first | omega | (simp; done) | (simp; omega))))⟩
  · have s1 : (600 : Int) < (s.size : Int) := by omega
    clear hs
    go_enter Tryd.func4, Tryd.ntmps4
    go_wp2_with fail
    refine (awake46_any _ (by repeat' (first | (with_reducible assumption) | (with_reducible refine Tab.drewN ?_ _) | (with_reducible refine Tab.drew ?_) | (with_reducible refine Tab.alloc ?_ _) | (with_reducible refine Tab.run ?_ (by assumption))))).mono ?_
    rintro e w1 ⟨rfl, hb1⟩
    have hz1 := hb1.size
    (try simp at hz1)
    go_wp2
    go_ret
    exact ⟨rfl, by (repeat' (first | (with_reducible exact Below.refl _ _) | (with_reducible assumption) | (with_reducible refine below_run ?_ (by assumption)) | (with_reducible refine below_of_upd ?_ (by assumption) ?_) | (with_reducible refine below_drewN ?_ _) | (with_reducible refine Below.drew ?_) | (with_reducible refine below_seven ?_ ?_) | (with_reducible refine below_six ?_ ?_) | (with_reducible refine below_one ?_ ?_) | (with_reducible refine Below.alloc ?_ ?_ _) | (with_reducible refine below_after ?_ ?_ (by assumption)) | (show _ ≤ _; first | omega | (simp; done) | (simp; omega))))⟩

end Go.Proofs.YtdklpmaeajpacaaDoor
