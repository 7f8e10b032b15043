/-
  The walk of the law on ranges and overlays.
-/
import Derived.Test.YtdklpmaeajpacaaDoorAwm
import Derived.Test.YtdklpmaeajpacaaDoorRreq
import Derived.Test.YtdklpmaeajpacaaDoorRovr
import Derived.Test.YtdklpmaeajpacaaDoorShs
namespace Go.Proofs.YtdklpmaeajpacaaDoor
open Go.RowKit

theorem SeqAt.shape {w : World} {S n : Nat} {v : Value} {cs : Nat → Option Value} (h : SeqAt w S v n cs) : ∃ a cap, v = .slice a n cap := by
  rcases h with ⟨rfl, a, cap, rfl⟩ | ⟨_, _, b, off, cap, rfl, _⟩ <;> exact ⟨_, _, rfl⟩

set_option maxHeartbeats 4000000 in
set_option maxRecDepth 100000 in
theorem law_seeks (src seq low high : Int) (v : Value) (l : List ByteArray) (w : World) (h : Tab w) (h0 : 0 ≤ low) (h1 : low < 18446744073709551616) (h2 : 0 ≤ high) (h3 : high < 18446744073709551616) (hv : StrsAt w v l) :
    Calls Tryd.prog 9 #[.agg #[.int .u64 src, .int .i64 seq, .int .u64 low, .int .u64 high], v] w fun e w' => e = .returned (.bool true) ∧ Below w.heap.size w w' := by
  have hT := h.alloc (.cells #[.int .u64 src, .int .i64 seq, .int .u64 low, .int .u64 high] 51)
  obtain ⟨va, vc, rfl⟩ := hv.shape
  obtain ⟨A, n, hA⟩ : ∃ A n, rightM (discM src seq low high) = (A, n) := ⟨_, _, rfl⟩
  obtain ⟨s, m, hB⟩ : ∃ s m, overM l = (s, m) := ⟨_, _, rfl⟩
  have C0 : Hid (∀ W, Below w.heap.size w W → Calls Tryd.prog 28 #[.slice va l.length vc, .func (.func 29) #[] #[]] W fun e w' => e = .returned (.bool (l.any oddS)) ∧ Below W.heap.size W w') := Lib.hid fun W hb => hasOdd_any _ l W (SeqAt.below hv hb)
  have C1 : Hid (∀ W, Calls Tryd.prog 26 #[.int .u64 src, .int .i64 seq, .int .u64 low, .int .u64 high] W fun e w' => e = .returned (.tuple #[msgV A, .int .i64 n]) ∧ Below W.heap.size W w') := Lib.hid fun W => (discover_any src seq low high W h0 h1 h2 h3).mono fun e w' ⟨a, b, he, hh, hb⟩ => by have := hh.out; rw [hA] at this; cases this; exact ⟨he, hb⟩
  have C2 : Hid (∀ W, Calls Tryd.prog 30 #[.int .u64 src, .int .i64 seq, .int .u64 low, .int .u64 high] W fun e w' => e = .returned (.tuple #[msgV A, .int .i64 n]) ∧ Below W.heap.size W w') := Lib.hid fun W => (refdiscover_any src seq low high W h0 h1 h2 h3).mono fun e w' ⟨a, b, he, hh, hb⟩ => by have := hh.out; rw [hA] at this; cases this; exact ⟨he, hb⟩
  have C3 : Hid (∀ W, Below w.heap.size w W → Calls Tryd.prog 31 #[.slice va l.length vc] W fun e w' => e = .returned (.tuple #[.string s, .int .i64 m]) ∧ Below W.heap.size W w') := Lib.hid fun W hb => (overlay_any _ l W (SeqAt.below hv hb)).mono fun e w' ⟨a, b, he, hh, hb⟩ => by have := hh.out; rw [hB] at this; cases this; exact ⟨he, hb⟩
  have C4 : Hid (∀ W, Below w.heap.size w W → Calls Tryd.prog 32 #[.slice va l.length vc] W fun e w' => e = .returned (.tuple #[.string s, .int .i64 m]) ∧ Below W.heap.size W w') := Lib.hid fun W hb => (refoverlay_any _ l W (SeqAt.below hv hb)).mono fun e w' ⟨a, b, he, hh, hb⟩ => by have := hh.out; rw [hB] at this; cases this; exact ⟨he, hb⟩
  clear hA hB hv h0 h1 h2 h3
  by_cases hl : l.length ≤ 100
  · have s1 : ¬ (100 : Int) < (l.length : Int) := by omega
    clear hl
    cases ho : l.any oddS with
    | true =>
      rw [ho] at C0
      clear ho
      go_enter Tryd.func9, Tryd.ntmps9
      go_wp2_with fail
      refine (C0.out _ (by (repeat' (first | (with_reducible exact Below.refl _ _) | (with_reducible assumption) | (with_reducible refine below_run ?_ (by assumption)) | (with_reducible refine below_of_upd ?_ (by assumption) ?_) | (with_reducible refine below_drewN ?_ _) | (with_reducible refine Below.drew ?_) | (with_reducible refine below_seven ?_ ?_) | (with_reducible refine below_six ?_ ?_) | (with_reducible refine below_one ?_ ?_) | (with_reducible refine Below.alloc ?_ ?_ _) | (with_reducible refine below_after ?_ ?_ (by assumption)) | (show _ ≤ _; first | omega | (simp; done) | (simp; omega)))))).mono ?_
      rintro e w1 ⟨rfl, hb1⟩
      have hz1 := hb1.size
      (try simp at hz1)
      go_wp2_with fail
      refine (awake46_any _ (by repeat' (first | (with_reducible assumption) | (with_reducible refine Tab.drewN ?_ _) | (with_reducible refine Tab.drew ?_) | (with_reducible refine Tab.alloc ?_ _) | (with_reducible refine Tab.run ?_ (by assumption))))).mono ?_
      rintro e w2 ⟨rfl, hb2⟩
      have hz2 := hb2.size
      (try simp at hz2)
      go_wp2
      go_ret
      exact ⟨rfl, by (repeat' (first | (with_reducible exact Below.refl _ _) | (with_reducible assumption) | (with_reducible refine below_run ?_ (by assumption)) | (with_reducible refine below_of_upd ?_ (by assumption) ?_) | (with_reducible refine below_drewN ?_ _) | (with_reducible refine Below.drew ?_) | (with_reducible refine below_seven ?_ ?_) | (with_reducible refine below_six ?_ ?_) | (with_reducible refine below_one ?_ ?_) | (with_reducible refine Below.alloc ?_ ?_ _) | (with_reducible refine below_after ?_ ?_ (by assumption)) | (show _ ≤ _; first | omega | (simp; done) | (simp; omega))))⟩
    | false =>
      rw [ho] at C0
      clear ho
      go_enter Tryd.func9, Tryd.ntmps9
      go_wp2_with fail
      refine (C0.out _ (by (repeat' (first | (with_reducible exact Below.refl _ _) | (with_reducible assumption) | (with_reducible refine below_run ?_ (by assumption)) | (with_reducible refine below_of_upd ?_ (by assumption) ?_) | (with_reducible refine below_drewN ?_ _) | (with_reducible refine Below.drew ?_) | (with_reducible refine below_seven ?_ ?_) | (with_reducible refine below_six ?_ ?_) | (with_reducible refine below_one ?_ ?_) | (with_reducible refine Below.alloc ?_ ?_ _) | (with_reducible refine below_after ?_ ?_ (by assumption)) | (show _ ≤ _; first | omega | (simp; done) | (simp; omega)))))).mono ?_
      rintro e w1 ⟨rfl, hb1⟩
      have hz1 := hb1.size
      (try simp at hz1)
      have r1_0 : RowAt w1 w.heap.size 51 #[.int .u64 src, .int .i64 seq, .int .u64 low, .int .u64 high] := (by (repeat' (first | (with_reducible assumption) | (with_reducible refine RowAt.drewN ?_ _) | (with_reducible refine RowAt.drew ?_) | (with_reducible apply RowAt.six) | (with_reducible apply RowAt.seven) | ((with_reducible refine RowAt.mk ?_ ?_); (focus (first | rfl | (simp; done))); rfl) | (with_reducible refine RowAt.alloc ?_ _) | (with_reducible refine RowAt.far ?_ ?_) | (with_reducible refine RowAt.run ?_ (by assumption)) | (with_reducible refine RowAt.below ?_ (by assumption) ?_) | (with_reducible refine RowAt.upd ?_ (by assumption) ?_) | (show _ < _; first | omega | (simp; done) | (simp; omega)) | (show ¬ _ = _; first | omega | (simp; done) | (simp; omega)) | exact rfl))); obtain ⟨r1_0a, r1_0b, r1_0c, r1_0d, r1_0e, r1_0f⟩ := row_facts r1_0
      go_wp2_with fail
      refine (C1.out _).mono ?_
      rintro e w2 ⟨rfl, hb2⟩
      have hz2 := hb2.size
      (try simp at hz2)
      have r2_0 : RowAt w2 w.heap.size 51 #[.int .u64 src, .int .i64 seq, .int .u64 low, .int .u64 high] := (by (repeat' (first | (with_reducible assumption) | (with_reducible refine RowAt.drewN ?_ _) | (with_reducible refine RowAt.drew ?_) | (with_reducible apply RowAt.six) | (with_reducible apply RowAt.seven) | ((with_reducible refine RowAt.mk ?_ ?_); (focus (first | rfl | (simp; done))); rfl) | (with_reducible refine RowAt.alloc ?_ _) | (with_reducible refine RowAt.far ?_ ?_) | (with_reducible refine RowAt.run ?_ (by assumption)) | (with_reducible refine RowAt.below ?_ (by assumption) ?_) | (with_reducible refine RowAt.upd ?_ (by assumption) ?_) | (show _ < _; first | omega | (simp; done) | (simp; omega)) | (show ¬ _ = _; first | omega | (simp; done) | (simp; omega)) | exact rfl))); obtain ⟨r2_0a, r2_0b, r2_0c, r2_0d, r2_0e, r2_0f⟩ := row_facts r2_0
      go_wp2_with fail
      refine (C2.out _).mono ?_
      rintro e w3 ⟨rfl, hb3⟩
      have hz3 := hb3.size
      (try simp at hz3)
      have r3_0 : RowAt w3 w.heap.size 51 #[.int .u64 src, .int .i64 seq, .int .u64 low, .int .u64 high] := (by (repeat' (first | (with_reducible assumption) | (with_reducible refine RowAt.drewN ?_ _) | (with_reducible refine RowAt.drew ?_) | (with_reducible apply RowAt.six) | (with_reducible apply RowAt.seven) | ((with_reducible refine RowAt.mk ?_ ?_); (focus (first | rfl | (simp; done))); rfl) | (with_reducible refine RowAt.alloc ?_ _) | (with_reducible refine RowAt.far ?_ ?_) | (with_reducible refine RowAt.run ?_ (by assumption)) | (with_reducible refine RowAt.below ?_ (by assumption) ?_) | (with_reducible refine RowAt.upd ?_ (by assumption) ?_) | (show _ < _; first | omega | (simp; done) | (simp; omega)) | (show ¬ _ = _; first | omega | (simp; done) | (simp; omega)) | exact rfl))); obtain ⟨r3_0a, r3_0b, r3_0c, r3_0d, r3_0e, r3_0f⟩ := row_facts r3_0
      have r3_1 : RowAt w3 w2.heap.size 24 #[.int .u64 A.dst, .int .u64 A.src, .int .i64 A.seq, .int .i64 A.kind, .int .i64 A.par, .string A.dat] := (by (repeat' (first | (with_reducible assumption) | (with_reducible refine RowAt.drewN ?_ _) | (with_reducible refine RowAt.drew ?_) | (with_reducible apply RowAt.six) | (with_reducible apply RowAt.seven) | ((with_reducible refine RowAt.mk ?_ ?_); (focus (first | rfl | (simp; done))); rfl) | (with_reducible refine RowAt.alloc ?_ _) | (with_reducible refine RowAt.far ?_ ?_) | (with_reducible refine RowAt.run ?_ (by assumption)) | (with_reducible refine RowAt.below ?_ (by assumption) ?_) | (with_reducible refine RowAt.upd ?_ (by assumption) ?_) | (show _ < _; first | omega | (simp; done) | (simp; omega)) | (show ¬ _ = _; first | omega | (simp; done) | (simp; omega)) | exact rfl))); obtain ⟨r3_1a, r3_1b, r3_1c, r3_1d, r3_1e, r3_1f⟩ := row_facts r3_1
      go_wp2_with fail
      refine (C3.out _ (by (repeat' (first | (with_reducible exact Below.refl _ _) | (with_reducible assumption) | (with_reducible refine below_run ?_ (by assumption)) | (with_reducible refine below_of_upd ?_ (by assumption) ?_) | (with_reducible refine below_drewN ?_ _) | (with_reducible refine Below.drew ?_) | (with_reducible refine below_seven ?_ ?_) | (with_reducible refine below_six ?_ ?_) | (with_reducible refine below_one ?_ ?_) | (with_reducible refine Below.alloc ?_ ?_ _) | (with_reducible refine below_after ?_ ?_ (by assumption)) | (show _ ≤ _; first | omega | (simp; done) | (simp; omega)))))).mono ?_
      rintro e w4 ⟨rfl, hb4⟩
      have hz4 := hb4.size
      (try simp at hz4)
      have r4_0 : RowAt w4 w.heap.size 51 #[.int .u64 src, .int .i64 seq, .int .u64 low, .int .u64 high] := (by (repeat' (first | (with_reducible assumption) | (with_reducible refine RowAt.drewN ?_ _) | (with_reducible refine RowAt.drew ?_) | (with_reducible apply RowAt.six) | (with_reducible apply RowAt.seven) | ((with_reducible refine RowAt.mk ?_ ?_); (focus (first | rfl | (simp; done))); rfl) | (with_reducible refine RowAt.alloc ?_ _) | (with_reducible refine RowAt.far ?_ ?_) | (with_reducible refine RowAt.run ?_ (by assumption)) | (with_reducible refine RowAt.below ?_ (by assumption) ?_) | (with_reducible refine RowAt.upd ?_ (by assumption) ?_) | (show _ < _; first | omega | (simp; done) | (simp; omega)) | (show ¬ _ = _; first | omega | (simp; done) | (simp; omega)) | exact rfl))); obtain ⟨r4_0a, r4_0b, r4_0c, r4_0d, r4_0e, r4_0f⟩ := row_facts r4_0
      have r4_1 : RowAt w4 w2.heap.size 24 #[.int .u64 A.dst, .int .u64 A.src, .int .i64 A.seq, .int .i64 A.kind, .int .i64 A.par, .string A.dat] := (by (repeat' (first | (with_reducible assumption) | (with_reducible refine RowAt.drewN ?_ _) | (with_reducible refine RowAt.drew ?_) | (with_reducible apply RowAt.six) | (with_reducible apply RowAt.seven) | ((with_reducible refine RowAt.mk ?_ ?_); (focus (first | rfl | (simp; done))); rfl) | (with_reducible refine RowAt.alloc ?_ _) | (with_reducible refine RowAt.far ?_ ?_) | (with_reducible refine RowAt.run ?_ (by assumption)) | (with_reducible refine RowAt.below ?_ (by assumption) ?_) | (with_reducible refine RowAt.upd ?_ (by assumption) ?_) | (show _ < _; first | omega | (simp; done) | (simp; omega)) | (show ¬ _ = _; first | omega | (simp; done) | (simp; omega)) | exact rfl))); obtain ⟨r4_1a, r4_1b, r4_1c, r4_1d, r4_1e, r4_1f⟩ := row_facts r4_1
      have r4_2 : RowAt w4 w3.heap.size 24 #[.int .u64 A.dst, .int .u64 A.src, .int .i64 A.seq, .int .i64 A.kind, .int .i64 A.par, .string A.dat] := (by (repeat' (first | (with_reducible assumption) | (with_reducible refine RowAt.drewN ?_ _) | (with_reducible refine RowAt.drew ?_) | (with_reducible apply RowAt.six) | (with_reducible apply RowAt.seven) | ((with_reducible refine RowAt.mk ?_ ?_); (focus (first | rfl | (simp; done))); rfl) | (with_reducible refine RowAt.alloc ?_ _) | (with_reducible refine RowAt.far ?_ ?_) | (with_reducible refine RowAt.run ?_ (by assumption)) | (with_reducible refine RowAt.below ?_ (by assumption) ?_) | (with_reducible refine RowAt.upd ?_ (by assumption) ?_) | (show _ < _; first | omega | (simp; done) | (simp; omega)) | (show ¬ _ = _; first | omega | (simp; done) | (simp; omega)) | exact rfl))); obtain ⟨r4_2a, r4_2b, r4_2c, r4_2d, r4_2e, r4_2f⟩ := row_facts r4_2
      go_wp2_with fail
      refine (C4.out _ (by (repeat' (first | (with_reducible exact Below.refl _ _) | (with_reducible assumption) | (with_reducible refine below_run ?_ (by assumption)) | (with_reducible refine below_of_upd ?_ (by assumption) ?_) | (with_reducible refine below_drewN ?_ _) | (with_reducible refine Below.drew ?_) | (with_reducible refine below_seven ?_ ?_) | (with_reducible refine below_six ?_ ?_) | (with_reducible refine below_one ?_ ?_) | (with_reducible refine Below.alloc ?_ ?_ _) | (with_reducible refine below_after ?_ ?_ (by assumption)) | (show _ ≤ _; first | omega | (simp; done) | (simp; omega)))))).mono ?_
      rintro e w5 ⟨rfl, hb5⟩
      have hz5 := hb5.size
      (try simp at hz5)
      have r5_0 : RowAt w5 w.heap.size 51 #[.int .u64 src, .int .i64 seq, .int .u64 low, .int .u64 high] := (by (repeat' (first | (with_reducible assumption) | (with_reducible refine RowAt.drewN ?_ _) | (with_reducible refine RowAt.drew ?_) | (with_reducible apply RowAt.six) | (with_reducible apply RowAt.seven) | ((with_reducible refine RowAt.mk ?_ ?_); (focus (first | rfl | (simp; done))); rfl) | (with_reducible refine RowAt.alloc ?_ _) | (with_reducible refine RowAt.far ?_ ?_) | (with_reducible refine RowAt.run ?_ (by assumption)) | (with_reducible refine RowAt.below ?_ (by assumption) ?_) | (with_reducible refine RowAt.upd ?_ (by assumption) ?_) | (show _ < _; first | omega | (simp; done) | (simp; omega)) | (show ¬ _ = _; first | omega | (simp; done) | (simp; omega)) | exact rfl))); obtain ⟨r5_0a, r5_0b, r5_0c, r5_0d, r5_0e, r5_0f⟩ := row_facts r5_0
      have r5_1 : RowAt w5 w2.heap.size 24 #[.int .u64 A.dst, .int .u64 A.src, .int .i64 A.seq, .int .i64 A.kind, .int .i64 A.par, .string A.dat] := (by (repeat' (first | (with_reducible assumption) | (with_reducible refine RowAt.drewN ?_ _) | (with_reducible refine RowAt.drew ?_) | (with_reducible apply RowAt.six) | (with_reducible apply RowAt.seven) | ((with_reducible refine RowAt.mk ?_ ?_); (focus (first | rfl | (simp; done))); rfl) | (with_reducible refine RowAt.alloc ?_ _) | (with_reducible refine RowAt.far ?_ ?_) | (with_reducible refine RowAt.run ?_ (by assumption)) | (with_reducible refine RowAt.below ?_ (by assumption) ?_) | (with_reducible refine RowAt.upd ?_ (by assumption) ?_) | (show _ < _; first | omega | (simp; done) | (simp; omega)) | (show ¬ _ = _; first | omega | (simp; done) | (simp; omega)) | exact rfl))); obtain ⟨r5_1a, r5_1b, r5_1c, r5_1d, r5_1e, r5_1f⟩ := row_facts r5_1
      have r5_2 : RowAt w5 w3.heap.size 24 #[.int .u64 A.dst, .int .u64 A.src, .int .i64 A.seq, .int .i64 A.kind, .int .i64 A.par, .string A.dat] := (by (repeat' (first | (with_reducible assumption) | (with_reducible refine RowAt.drewN ?_ _) | (with_reducible refine RowAt.drew ?_) | (with_reducible apply RowAt.six) | (with_reducible apply RowAt.seven) | ((with_reducible refine RowAt.mk ?_ ?_); (focus (first | rfl | (simp; done))); rfl) | (with_reducible refine RowAt.alloc ?_ _) | (with_reducible refine RowAt.far ?_ ?_) | (with_reducible refine RowAt.run ?_ (by assumption)) | (with_reducible refine RowAt.below ?_ (by assumption) ?_) | (with_reducible refine RowAt.upd ?_ (by assumption) ?_) | (show _ < _; first | omega | (simp; done) | (simp; omega)) | (show ¬ _ = _; first | omega | (simp; done) | (simp; omega)) | exact rfl))); obtain ⟨r5_2a, r5_2b, r5_2c, r5_2d, r5_2e, r5_2f⟩ := row_facts r5_2
      go_wp2_with fail
      refine (awake46_any _ (by repeat' (first | (with_reducible assumption) | (with_reducible refine Tab.drewN ?_ _) | (with_reducible refine Tab.drew ?_) | (with_reducible refine Tab.alloc ?_ _) | (with_reducible refine Tab.run ?_ (by assumption))))).mono ?_
      rintro e w6 ⟨rfl, hb6⟩
      have hz6 := hb6.size
      (try simp at hz6)
      have r6_0 : RowAt w6 w.heap.size 51 #[.int .u64 src, .int .i64 seq, .int .u64 low, .int .u64 high] := (by (repeat' (first | (with_reducible assumption) | (with_reducible refine RowAt.drewN ?_ _) | (with_reducible refine RowAt.drew ?_) | (with_reducible apply RowAt.six) | (with_reducible apply RowAt.seven) | ((with_reducible refine RowAt.mk ?_ ?_); (focus (first | rfl | (simp; done))); rfl) | (with_reducible refine RowAt.alloc ?_ _) | (with_reducible refine RowAt.far ?_ ?_) | (with_reducible refine RowAt.run ?_ (by assumption)) | (with_reducible refine RowAt.below ?_ (by assumption) ?_) | (with_reducible refine RowAt.upd ?_ (by assumption) ?_) | (show _ < _; first | omega | (simp; done) | (simp; omega)) | (show ¬ _ = _; first | omega | (simp; done) | (simp; omega)) | exact rfl))); obtain ⟨r6_0a, r6_0b, r6_0c, r6_0d, r6_0e, r6_0f⟩ := row_facts r6_0
      have r6_1 : RowAt w6 w2.heap.size 24 #[.int .u64 A.dst, .int .u64 A.src, .int .i64 A.seq, .int .i64 A.kind, .int .i64 A.par, .string A.dat] := (by (repeat' (first | (with_reducible assumption) | (with_reducible refine RowAt.drewN ?_ _) | (with_reducible refine RowAt.drew ?_) | (with_reducible apply RowAt.six) | (with_reducible apply RowAt.seven) | ((with_reducible refine RowAt.mk ?_ ?_); (focus (first | rfl | (simp; done))); rfl) | (with_reducible refine RowAt.alloc ?_ _) | (with_reducible refine RowAt.far ?_ ?_) | (with_reducible refine RowAt.run ?_ (by assumption)) | (with_reducible refine RowAt.below ?_ (by assumption) ?_) | (with_reducible refine RowAt.upd ?_ (by assumption) ?_) | (show _ < _; first | omega | (simp; done) | (simp; omega)) | (show ¬ _ = _; first | omega | (simp; done) | (simp; omega)) | exact rfl))); obtain ⟨r6_1a, r6_1b, r6_1c, r6_1d, r6_1e, r6_1f⟩ := row_facts r6_1
      have r6_2 : RowAt w6 w3.heap.size 24 #[.int .u64 A.dst, .int .u64 A.src, .int .i64 A.seq, .int .i64 A.kind, .int .i64 A.par, .string A.dat] := (by (repeat' (first | (with_reducible assumption) | (with_reducible refine RowAt.drewN ?_ _) | (with_reducible refine RowAt.drew ?_) | (with_reducible apply RowAt.six) | (with_reducible apply RowAt.seven) | ((with_reducible refine RowAt.mk ?_ ?_); (focus (first | rfl | (simp; done))); rfl) | (with_reducible refine RowAt.alloc ?_ _) | (with_reducible refine RowAt.far ?_ ?_) | (with_reducible refine RowAt.run ?_ (by assumption)) | (with_reducible refine RowAt.below ?_ (by assumption) ?_) | (with_reducible refine RowAt.upd ?_ (by assumption) ?_) | (show _ < _; first | omega | (simp; done) | (simp; omega)) | (show ¬ _ = _; first | omega | (simp; done) | (simp; omega)) | exact rfl))); obtain ⟨r6_2a, r6_2b, r6_2c, r6_2d, r6_2e, r6_2f⟩ := row_facts r6_2
      go_wp2
      go_ret
      exact ⟨rfl, by (repeat' (first | (with_reducible exact Below.refl _ _) | (with_reducible assumption) | (with_reducible refine below_run ?_ (by assumption)) | (with_reducible refine below_of_upd ?_ (by assumption) ?_) | (with_reducible refine below_drewN ?_ _) | (with_reducible refine Below.drew ?_) | (with_reducible refine below_seven ?_ ?_) | (with_reducible refine below_six ?_ ?_) | (with_reducible refine below_one ?_ ?_) | (with_reducible refine Below.alloc ?_ ?_ _) | (with_reducible refine below_after ?_ ?_ (by assumption)) | (show _ ≤ _; first | omega | (simp; done) | (simp; omega))))⟩
  · have s1 : (100 : Int) < (l.length : Int) := by omega
    clear hl
    go_enter Tryd.func9, Tryd.ntmps9
    go_wp2_with fail
    refine (awake46_any _ (by repeat' (first | (with_reducible assumption) | (with_reducible refine Tab.drewN ?_ _) | (with_reducible refine Tab.drew ?_) | (with_reducible refine Tab.alloc ?_ _) | (with_reducible refine Tab.run ?_ (by assumption))))).mono ?_
    rintro e w1 ⟨rfl, hb1⟩
    have hz1 := hb1.size
    (try simp at hz1)
    go_wp2
    go_ret
    exact ⟨rfl, by (repeat' (first | (with_reducible exact Below.refl _ _) | (with_reducible assumption) | (with_reducible refine below_run ?_ (by assumption)) | (with_reducible refine below_of_upd ?_ (by assumption) ?_) | (with_reducible refine below_drewN ?_ _) | (with_reducible refine Below.drew ?_) | (with_reducible refine below_seven ?_ ?_) | (with_reducible refine below_six ?_ ?_) | (with_reducible refine below_one ?_ ?_) | (with_reducible refine Below.alloc ?_ ?_ _) | (with_reducible refine below_after ?_ ?_ (by assumption)) | (show _ ≤ _; first | omega | (simp; done) | (simp; omega))))⟩

end Go.Proofs.YtdklpmaeajpacaaDoor
