/-
  The walk of the law on one other byte.
-/
import Derived.Test.YtdklpmaeajpacaaDoorAwm
import Derived.Test.YtdklpmaeajpacaaDoorPlL
import Derived.Test.YtdklpmaeajpacaaDoorEnc
import Derived.Test.YtdklpmaeajpacaaDoorDec
import Derived.Test.YtdklpmaeajpacaaDoorLwT
import Derived.Deep.RegionWith
namespace Go.Proofs.YtdklpmaeajpacaaDoor
open Go.RowKit

theorem conv_byte (W : World) (b : Nat) (x : UInt8) (h : W.cell? ⟨b, 0, none⟩ = some (.int .u8 (x.toNat : Int))) : (convert 47 9 (.slice (some ⟨b, 0, none⟩) 1 1)).run Tryd.prog W = .ok (.string (str [x])) W := by
  rw [← strOfNums_L]
  refine run_convert_bytes_arg W 47 5 Tryd.underlying47 Tryd.underlying5 b 0 1 1 _ rfl (fun i hi => ?_) 9 Tryd.underlying9
  obtain rfl : i = 0 := by omega
  simpa using h

/-- Another byte than c is c and what is not 0, as a byte. -/
theorem other_byte (c : UInt8) (by' : Int) (h0 : 0 ≤ by') (h1 : by' ≤ 255) (hne : by' ≠ 0) : ∃ x : UInt8, IntKind.u8.wrap ((c.toNat : Int) + by') = (x.toNat : Int) ∧ x ≠ c := by
  obtain ⟨n, rfl⟩ := Int.eq_ofNat_of_zero_le h0
  refine ⟨c + UInt8.ofNat n, ?_, fun e => ?_⟩
  · have hc := c.toNat_lt
    have e1 : (c + UInt8.ofNat n).toNat = (c.toNat + n) % 256 := by rw [UInt8.toNat_add]; simp
    rw [e1]
    unfold IntKind.wrap
    simp [IntKind.bits, IntKind.signed]
  · have hc := c.toNat_lt
    have e1 : (c + UInt8.ofNat n).toNat = (c.toNat + n) % 256 := by rw [UInt8.toNat_add]; simp
    rw [e] at e1
    omega

set_option maxHeartbeats 4000000 in
set_option maxRecDepth 100000 in
theorem law_spoils (dst src seq kind par at' by' : Int) (dat : ByteArray) (w : World) (h : Tab w) (hc0 : 0 ≤ at') (hc1 : at' ≤ 65535) (h0 : 0 ≤ by') (h1 : by' ≤ 255) :
    Calls Tryd.prog 6 #[.agg #[.int .u64 dst, .int .u64 src, .int .i64 seq, .int .i64 kind, .int .i64 par, .string dat], .int .u16 at', .int .u8 by'] w fun e w' => e = .returned (.bool true) ∧ Below w.heap.size w w' := by
  have hT := h.alloc (.cells #[.int .u64 dst, .int .u64 src, .int .i64 seq, .int .i64 kind, .int .i64 par, .string dat] 24)
  by_cases hs : dat.size ≤ 600
  · have s1 : ¬ (600 : Int) < (dat.size : Int) := by omega
    obtain ⟨s, n, hsn⟩ : ∃ s n, encM ⟨dst, src, seq, kind, par, dat⟩ = (s, n) := ⟨_, _, rfl⟩
    have C1 : Hid (∀ W, Calls Tryd.prog 14 #[.agg #[.int .u64 dst, .int .u64 src, .int .i64 seq, .int .i64 kind, .int .i64 par, .string dat]] W fun e w' => e = .returned (.tuple #[.string s, .int .i64 n]) ∧ Below W.heap.size W w') := Lib.hid fun W => (enc_any dst src seq kind par dat W).mono fun e w' ⟨a, b, he, hh, hb⟩ => by
      have := hh.out; rw [hsn] at this; cases this; exact ⟨he, hb⟩
    by_cases hn : n = 0
    · subst hn
      by_cases hb : by' = 0
      · subst hb
        clear hsn hs
        go_enter Tryd.func6, Tryd.ntmps6
        go_wp2_with fail
        refine (C1.out _).mono ?_
        rintro e w1 ⟨rfl, hb1⟩
        have hz1 := hb1.size
        (try simp at hz1)
        have r1_0 : RowAt w1 w.heap.size 24 #[.int .u64 dst, .int .u64 src, .int .i64 seq, .int .i64 kind, .int .i64 par, .string dat] := (by (repeat' (first | (with_reducible assumption) | (with_reducible refine RowAt.drewN ?_ _) | (with_reducible refine RowAt.drew ?_) | (with_reducible apply RowAt.six) | (with_reducible apply RowAt.seven) | ((with_reducible refine RowAt.mk ?_ ?_); (focus (first | rfl | (simp; done))); rfl) | (with_reducible refine RowAt.alloc ?_ _) | (with_reducible refine RowAt.far ?_ ?_) | (with_reducible refine RowAt.run ?_ (by assumption)) | (with_reducible refine RowAt.below ?_ (by assumption) ?_) | (with_reducible refine RowAt.upd ?_ (by assumption) ?_) | (show _ < _; first | omega | (simp; done) | (simp; omega)) | (show ¬ _ = _; first | omega | (simp; done) | (simp; omega)) | exact rfl))); obtain ⟨r1_0a, r1_0b, r1_0c, r1_0d, r1_0e, r1_0f⟩ := row_facts r1_0
        go_wp2_with fail
        refine (awake46_any _ (by repeat' (first | (with_reducible assumption) | (with_reducible refine Tab.drewN ?_ _) | (with_reducible refine Tab.drew ?_) | (with_reducible refine Tab.alloc ?_ _) | (with_reducible refine Tab.run ?_ (by assumption))))).mono ?_
        rintro e w2 ⟨rfl, hb2⟩
        have hz2 := hb2.size
        (try simp at hz2)
        have r2_0 : RowAt w2 w.heap.size 24 #[.int .u64 dst, .int .u64 src, .int .i64 seq, .int .i64 kind, .int .i64 par, .string dat] := (by (repeat' (first | (with_reducible assumption) | (with_reducible refine RowAt.drewN ?_ _) | (with_reducible refine RowAt.drew ?_) | (with_reducible apply RowAt.six) | (with_reducible apply RowAt.seven) | ((with_reducible refine RowAt.mk ?_ ?_); (focus (first | rfl | (simp; done))); rfl) | (with_reducible refine RowAt.alloc ?_ _) | (with_reducible refine RowAt.far ?_ ?_) | (with_reducible refine RowAt.run ?_ (by assumption)) | (with_reducible refine RowAt.below ?_ (by assumption) ?_) | (with_reducible refine RowAt.upd ?_ (by assumption) ?_) | (show _ < _; first | omega | (simp; done) | (simp; omega)) | (show ¬ _ = _; first | omega | (simp; done) | (simp; omega)) | exact rfl))); obtain ⟨r2_0a, r2_0b, r2_0c, r2_0d, r2_0e, r2_0f⟩ := row_facts r2_0
        go_wp2
        go_ret
        exact ⟨rfl, by (repeat' (first | (with_reducible exact Below.refl _ _) | (with_reducible assumption) | (with_reducible refine below_run ?_ (by assumption)) | (with_reducible refine below_of_upd ?_ (by assumption) ?_) | (with_reducible refine below_drewN ?_ _) | (with_reducible refine Below.drew ?_) | (with_reducible refine below_seven ?_ ?_) | (with_reducible refine below_six ?_ ?_) | (with_reducible refine below_one ?_ ?_) | (with_reducible refine Below.alloc ?_ ?_ _) | (with_reducible refine below_after ?_ ?_ (by assumption)) | (show _ ≤ _; first | omega | (simp; done) | (simp; omega))))⟩
      · have hb1 : (by' == 0) = false := beq_eq_false_iff_ne.2 hb
        have hb2 : decide (by' = 0) = false := decide_eq_false hb
        obtain ⟨rfl, hk⟩ := enc_ok hsn
        obtain ⟨hz, hz2⟩ := dec_size _ hk
        have hz3 : dat.size ≤ 255 := hz2
        have hz5 : 21 ≤ (str (madeL ⟨dst, src, seq, kind, par, dat⟩)).size ∧ (str (madeL ⟨dst, src, seq, kind, par, dat⟩)).size ≤ 276 := by rw [hz]; show 21 ≤ 21 + dat.size ∧ 21 + dat.size ≤ 276; omega
        obtain ⟨k, hk2⟩ : ∃ k : Nat, k = at'.toNat % (str (madeL ⟨dst, src, seq, kind, par, dat⟩)).size := ⟨_, rfl⟩
        have hk3 : k < (str (madeL ⟨dst, src, seq, kind, par, dat⟩)).size := by rw [hk2]; exact Nat.mod_lt _ (by omega)
        obtain ⟨c, hcc⟩ : ∃ c, (str (madeL ⟨dst, src, seq, kind, par, dat⟩))[k] = c := ⟨_, rfl⟩
        obtain ⟨x, hx1, hx2⟩ := other_byte c by' h0 h1 hb
        have hk4 : k < (madeL ⟨dst, src, seq, kind, par, dat⟩).length := by rw [str_size] at hk3; exact hk3
        have hcm : (madeL ⟨dst, src, seq, kind, par, dat⟩)[k] = c := by rw [← hcc]; rfl
        have hsp := dec_spoilt _ hk k hk4 x (by rw [hcm]; exact hx2)
        have hrd := read_set (str (madeL ⟨dst, src, seq, kind, par, dat⟩)) k x hk3
        rw [str_toList] at hrd
        obtain ⟨e', d, he'⟩ : ∃ a b, decM ((madeL ⟨dst, src, seq, kind, par, dat⟩).set k x) = (a, b) := ⟨_, _, rfl⟩
        rw [he'] at hsp
        have hd0 : d ≠ 0 := hsp
        obtain ⟨e0, e1, e2, e3, e4, e5⟩ := e'
        have hzx : ((str (madeL ⟨dst, src, seq, kind, par, dat⟩)).extract 0 k ++ str [x] ++ (str (madeL ⟨dst, src, seq, kind, par, dat⟩)).extract (k + 1) (str (madeL ⟨dst, src, seq, kind, par, dat⟩)).size).size = (str (madeL ⟨dst, src, seq, kind, par, dat⟩)).size := by
          simp only [ByteArray.size_append, ByteArray.size_extract, str_size, List.length_singleton]; rw [str_size] at hk3; omega
        have C2 : Hid (∀ W, Calls Tryd.prog 18 #[.string ((str (madeL ⟨dst, src, seq, kind, par, dat⟩)).extract 0 k ++ str [x] ++ (str (madeL ⟨dst, src, seq, kind, par, dat⟩)).extract (k + 1) (str (madeL ⟨dst, src, seq, kind, par, dat⟩)).size)] W fun e w' => e = .returned (.tuple #[.agg #[.int .u64 e0, .int .u64 e1, .int .i64 e2, .int .i64 e3, .int .i64 e4, .string e5], .int .i64 d]) ∧ Below W.heap.size W w') := Lib.hid fun W => (dec_any _ W (by rw [hzx]; omega)).mono fun e w' ⟨a, b, he, hh, hb⟩ => by
          have := hh.out; rw [hrd, he'] at this; cases this; exact ⟨he, hb⟩
        have hr : at' % ((str (madeL ⟨dst, src, seq, kind, par, dat⟩)).size : Int) = (k : Int) := by
          rw [hk2]
          obtain ⟨c, rfl⟩ := Int.eq_ofNat_of_zero_le hc0
          simp
        have hne : (str (madeL ⟨dst, src, seq, kind, par, dat⟩)).toList.isEmpty = false := by rw [ByteArray.toList_eq, str_toList]; cases hl : madeL ⟨dst, src, seq, kind, par, dat⟩ with
          | nil => rw [hl] at hk4; simp at hk4
          | cons => rfl
        clear hrd he' hsp hcm hk hk2 hk4 hz hz2 hz3 hs hx2 hb hsn
        generalize str (madeL ⟨dst, src, seq, kind, par, dat⟩) = s at *
        have hd1 : (d != 0) = true := by simp [hd0]
        have i1 : (0 : Int) ≤ (k : Int) := by omega
        have i2 : (k : Int) ≤ (s.size : Int) := by omega
        have i3 : (k : Int) < (s.size : Int) := by omega
        have i4 : (k : Int) + 1 ≤ (s.size : Int) := by omega
        have i5 : IntKind.i64.wrap ((k : Int) + 1) = (k : Int) + 1 := IntWalk.i64_in _ (by omega)
        have i6 : ((k : Int) + 1).toNat = k + 1 := by omega
        have i7 : ¬ (s.size : Int) = 0 := by omega
        have i8 : (s.size : Int) ≤ 276 := by omega
        have i9 : (0 : Int) ≤ (k : Int) + 1 := by omega
        have i10 : (str [x]).size = 1 := by rw [str_size]; rfl
        obtain ⟨y, hy⟩ : ∃ y, s.extract 0 k = y := ⟨_, rfl⟩
        obtain ⟨z, hz⟩ : ∃ z, s.extract (k + 1) s.size = z := ⟨_, rfl⟩
        rw [hy, hz] at C2
        obtain ⟨m, hm⟩ : ∃ m, z.size = m := ⟨_, rfl⟩
        have zy : y.size = k := by rw [← hy, ByteArray.size_extract]; omega
        have hm2 : m ≤ 276 := by rw [← hm, ← hz, ByteArray.size_extract]; omega
        have n1 : ¬ (9223372036854775807 : Int) < (k : Int) + 1 := by omega
        have n2 : ¬ (9223372036854775807 : Int) < (k : Int) + 1 + (m : Int) := by omega
        have n3 : ¬ (9223372036854775806 : Int) < (k : Int) := by omega
        have n4 : ¬ (9223372036854775806 : Int) < (k : Int) + (m : Int) := by omega
        have n5 : (m : Int) ≤ 276 := by omega
        have n6 : (k : Int) ≤ 276 := by omega
        clear hzx
        go_enter Tryd.func6, Tryd.ntmps6
        go_wp2_with fail
        refine (C1.out _).mono ?_
        rintro e w1 ⟨rfl, hb1'⟩
        have hz1 := hb1'.size
        (try simp at hz1)
        have hT1 : Tab w1 := (by repeat' (first | (with_reducible assumption) | (with_reducible refine Tab.drewN ?_ _) | (with_reducible refine Tab.drew ?_) | (with_reducible refine Tab.alloc ?_ _) | (with_reducible refine Tab.run ?_ (by assumption))))
        have hB1 : Below w.heap.size w w1 := by (repeat' (first | (with_reducible exact Below.refl _ _) | (with_reducible assumption) | (with_reducible refine below_run ?_ (by assumption)) | (with_reducible refine below_of_upd ?_ (by assumption) ?_) | (with_reducible refine below_drewN ?_ _) | (with_reducible refine Below.drew ?_) | (with_reducible refine below_seven ?_ ?_) | (with_reducible refine below_six ?_ ?_) | (with_reducible refine below_one ?_ ?_) | (with_reducible refine Below.alloc ?_ ?_ _) | (with_reducible refine below_after ?_ ?_ (by assumption)) | (show _ ≤ _; first | omega | (simp; done) | (simp; omega))))
        have hcv := fun W b => conv_byte W b x
        clear hT h hb1'
        go_wp2_with fail
        simp only [hr]
        go_cut [11] (fun s11 wx => s11 = .int .i64 d ∧ Below w1.heap.size w1 wx)
        case first =>
          clear h0 h1 hz5 hm2 hd0 hb1 hb2 hd1 hne n1 n2 n3 n4
          go_region_with (first | (go_at_call 18; with_reducible refine (C2.out _).mono ?_; rintro e u2 ⟨rfl, hbu2⟩; have hzu2 := hbu2.size; (try simp at hzu2); (try (refine have_of (p := RowAt u2 w1.heap.size 24 #[.int .u64 0, .int .u64 0, .int .i64 0, .int .i64 0, .int .i64 0, .string ⟨#[]⟩]) ?_ ?_; (focus ((repeat' (first | (with_reducible assumption) | (with_reducible refine RowAt.drewN ?_ _) | (with_reducible refine RowAt.drew ?_) | (with_reducible apply RowAt.seven) | (with_reducible apply RowAt.six) | (with_reducible refine RowAt.far7 ?_ ?_) | (with_reducible refine RowAt.far6 ?_ ?_) | (with_reducible refine RowAt.far1 ?_ ?_) | ((with_reducible refine RowAt.mk ?_ ?_); (focus (first | (with_reducible rfl) | (simp; done))); rfl) | (with_reducible refine RowAt.alloc ?_ _) | (with_reducible refine RowAt.run ?_ (by assumption)) | (with_reducible refine RowAt.below ?_ (by assumption) ?_) | (with_reducible refine RowAt.upd ?_ (by assumption) ?_) | (with_reducible show _ < _; first | omega | (simp; done) | (simp; omega)) | (with_reducible show ¬ _ = _; first | omega | (simp; done) | (simp; omega)) | (with_reducible exact rfl))); done)); intro hx; obtain ⟨x1, x2, x3, x4, x5, x6⟩ := row_facts hx)); (try (refine have_of (p := RowAt u2 (w1.heap.size + 1) 24 #[.int .u64 0, .int .u64 0, .int .i64 0, .int .i64 0, .int .i64 0, .string ⟨#[]⟩]) ?_ ?_; (focus ((repeat' (first | (with_reducible assumption) | (with_reducible refine RowAt.drewN ?_ _) | (with_reducible refine RowAt.drew ?_) | (with_reducible apply RowAt.seven) | (with_reducible apply RowAt.six) | (with_reducible refine RowAt.far7 ?_ ?_) | (with_reducible refine RowAt.far6 ?_ ?_) | (with_reducible refine RowAt.far1 ?_ ?_) | ((with_reducible refine RowAt.mk ?_ ?_); (focus (first | (with_reducible rfl) | (simp; done))); rfl) | (with_reducible refine RowAt.alloc ?_ _) | (with_reducible refine RowAt.run ?_ (by assumption)) | (with_reducible refine RowAt.below ?_ (by assumption) ?_) | (with_reducible refine RowAt.upd ?_ (by assumption) ?_) | (with_reducible show _ < _; first | omega | (simp; done) | (simp; omega)) | (with_reducible show ¬ _ = _; first | omega | (simp; done) | (simp; omega)) | (with_reducible exact rfl))); done)); intro hx; obtain ⟨x1, x2, x3, x4, x5, x6⟩ := row_facts hx))) | fail)
          all_goals (try go_simp)
          all_goals (go_wp2_with fail)
          all_goals (go_meet; exact ⟨rfl, by (repeat' (first | (with_reducible exact Below.refl _ _) | (with_reducible assumption) | (with_reducible refine below_run ?_ (by assumption)) | (with_reducible refine below_of_upd ?_ (by assumption) ?_) | (with_reducible refine below_drewN ?_ _) | (with_reducible refine Below.drew ?_) | (with_reducible refine below_seven ?_ ?_) | (with_reducible refine below_six ?_ ?_) | (with_reducible refine below_one ?_ ?_) | (with_reducible refine Below.alloc ?_ ?_ _) | (with_reducible refine below_after ?_ ?_ (by assumption)) | (show _ ≤ _; first | omega | (simp; done) | (simp; omega))))⟩)
        case rest =>
          obtain ⟨rfl, hbb⟩ := hcut
          have hTT := hT1.run hbb
          have hzz := hbb.size
          have hzw := hB1.size
          go_wp2_with fail
          refine (awake46_any _ hTT).mono ?_
          rintro e w9 ⟨rfl, hb9⟩
          go_wp2
          go_ret
          exact ⟨rfl, by (repeat' (first | (with_reducible exact Below.refl _ _) | (with_reducible assumption) | (with_reducible refine below_run ?_ (by assumption)) | (with_reducible refine below_of_upd ?_ (by assumption) ?_) | (with_reducible refine below_drewN ?_ _) | (with_reducible refine Below.drew ?_) | (with_reducible refine below_seven ?_ ?_) | (with_reducible refine below_six ?_ ?_) | (with_reducible refine below_one ?_ ?_) | (with_reducible refine Below.alloc ?_ ?_ _) | (with_reducible refine below_after ?_ ?_ (by assumption)) | (show _ ≤ _; first | omega | (simp; done) | (simp; omega))))⟩
    · have hn1 : (n == 0) = false := beq_eq_false_iff_ne.2 hn
      have hn2 : (n != 0) = true := by simp [hn]
      clear hsn hs
      go_enter Tryd.func6, Tryd.ntmps6
      go_wp2_with fail
      refine (C1.out _).mono ?_
      rintro e w1 ⟨rfl, hb1⟩
      have hz1 := hb1.size
      (try simp at hz1)
      have r1_0 : RowAt w1 w.heap.size 24 #[.int .u64 dst, .int .u64 src, .int .i64 seq, .int .i64 kind, .int .i64 par, .string dat] := (by (repeat' (first | (with_reducible assumption) | (with_reducible refine RowAt.drewN ?_ _) | (with_reducible refine RowAt.drew ?_) | (with_reducible apply RowAt.six) | (with_reducible apply RowAt.seven) | ((with_reducible refine RowAt.mk ?_ ?_); (focus (first | rfl | (simp; done))); rfl) | (with_reducible refine RowAt.alloc ?_ _) | (with_reducible refine RowAt.far ?_ ?_) | (with_reducible refine RowAt.run ?_ (by assumption)) | (with_reducible refine RowAt.below ?_ (by assumption) ?_) | (with_reducible refine RowAt.upd ?_ (by assumption) ?_) | (show _ < _; first | omega | (simp; done) | (simp; omega)) | (show ¬ _ = _; first | omega | (simp; done) | (simp; omega)) | exact rfl))); obtain ⟨r1_0a, r1_0b, r1_0c, r1_0d, r1_0e, r1_0f⟩ := row_facts r1_0
      go_wp2_with fail
      refine (awake46_any _ (by repeat' (first | (with_reducible assumption) | (with_reducible refine Tab.drewN ?_ _) | (with_reducible refine Tab.drew ?_) | (with_reducible refine Tab.alloc ?_ _) | (with_reducible refine Tab.run ?_ (by assumption))))).mono ?_
      rintro e w2 ⟨rfl, hb2⟩
      have hz2 := hb2.size
      (try simp at hz2)
      have r2_0 : RowAt w2 w.heap.size 24 #[.int .u64 dst, .int .u64 src, .int .i64 seq, .int .i64 kind, .int .i64 par, .string dat] := (by (repeat' (first | (with_reducible assumption) | (with_reducible refine RowAt.drewN ?_ _) | (with_reducible refine RowAt.drew ?_) | (with_reducible apply RowAt.six) | (with_reducible apply RowAt.seven) | ((with_reducible refine RowAt.mk ?_ ?_); (focus (first | rfl | (simp; done))); rfl) | (with_reducible refine RowAt.alloc ?_ _) | (with_reducible refine RowAt.far ?_ ?_) | (with_reducible refine RowAt.run ?_ (by assumption)) | (with_reducible refine RowAt.below ?_ (by assumption) ?_) | (with_reducible refine RowAt.upd ?_ (by assumption) ?_) | (show _ < _; first | omega | (simp; done) | (simp; omega)) | (show ¬ _ = _; first | omega | (simp; done) | (simp; omega)) | exact rfl))); obtain ⟨r2_0a, r2_0b, r2_0c, r2_0d, r2_0e, r2_0f⟩ := row_facts r2_0
      go_wp2
      go_ret
      exact ⟨rfl, by (repeat' (first | (with_reducible exact Below.refl _ _) | (with_reducible assumption) | (with_reducible refine below_run ?_ (by assumption)) | (with_reducible refine below_of_upd ?_ (by assumption) ?_) | (with_reducible refine below_drewN ?_ _) | (with_reducible refine Below.drew ?_) | (with_reducible refine below_seven ?_ ?_) | (with_reducible refine below_six ?_ ?_) | (with_reducible refine below_one ?_ ?_) | (with_reducible refine Below.alloc ?_ ?_ _) | (with_reducible refine below_after ?_ ?_ (by assumption)) | (show _ ≤ _; first | omega | (simp; done) | (simp; omega))))⟩
  · have s1 : (600 : Int) < (dat.size : Int) := by omega
    clear hs
    go_enter Tryd.func6, Tryd.ntmps6
    go_wp2_with fail
    refine (awake46_any _ (by repeat' (first | (with_reducible assumption) | (with_reducible refine Tab.drewN ?_ _) | (with_reducible refine Tab.drew ?_) | (with_reducible refine Tab.alloc ?_ _) | (with_reducible refine Tab.run ?_ (by assumption))))).mono ?_
    rintro e w1 ⟨rfl, hb1⟩
    have hz1 := hb1.size
    (try simp at hz1)
    go_wp2
    go_ret
    exact ⟨rfl, by (repeat' (first | (with_reducible exact Below.refl _ _) | (with_reducible assumption) | (with_reducible refine below_run ?_ (by assumption)) | (with_reducible refine below_of_upd ?_ (by assumption) ?_) | (with_reducible refine below_drewN ?_ _) | (with_reducible refine Below.drew ?_) | (with_reducible refine below_seven ?_ ?_) | (with_reducible refine below_six ?_ ?_) | (with_reducible refine below_one ?_ ?_) | (with_reducible refine Below.alloc ?_ ?_ _) | (with_reducible refine below_after ?_ ?_ (by assumption)) | (show _ ≤ _; first | omega | (simp; done) | (simp; omega))))⟩

end Go.Proofs.YtdklpmaeajpacaaDoor
