/-
  What the program encodes: the closures of its fields, written into a builder.
-/
import Derived.Test.YtdklpmaeajpacaaDoorSum
import Derived.Test.YtdklpmaeajpacaaDoorBld
import Derived.Test.YtdklpmaeajpacaaDoorRow
import Derived.Outline
import Derived.Laws.EntriesVeiled
namespace Go.Proofs.YtdklpmaeajpacaaDoor
open Go.RowKit

/-- The fields of a message. -/
def partB (m : Msg) : Nat → ByteArray
  | 0 => ⟨#[204, 1]⟩
  | 1 => bytesB m.dst 6
  | 2 => bytesB m.src 6
  | 3 => bytesB m.seq 1
  | 4 => bytesB m.kind 1
  | 5 => bytesB m.par 2
  | 6 => bytesB m.dat.size 1
  | _ => m.dat
/-- The bytes of the first fields. -/
def preL (m : Msg) : Nat → List UInt8
  | 0 => []
  | k + 1 => preL m k ++ (partB m k).data.toList

theorem partB_size (m : Msg) (k : Nat) : (partB m k).size ≤ 6 + m.dat.size := by
  unfold partB
  split
  · show 2 ≤ _; omega
  all_goals first | (rw [bytesB_size]; omega) | omega
theorem list_size (s : ByteArray) : s.data.toList.length = s.size := by simp
theorem preL_length (m : Msg) (k : Nat) : (preL m k).length ≤ k * (6 + m.dat.size) := by
  induction k with
  | zero => simp [preL]
  | succ k ih =>
    have := partB_size m k
    have e : (k + 1) * (6 + m.dat.size) = k * (6 + m.dat.size) + (6 + m.dat.size) := Nat.succ_mul _ _
    rw [preL, List.length_append, list_size, e]
    omega
theorem bytesB_listE (n c : Int) : (bytesB n c).data.toList = bytesOf n.toNat c.toNat := by simp [bytesB, str]
theorem preL_all (m : Msg) : preL m 8 = bodyL m := by
  simp only [preL, partB, bytesB_listE, bodyL, List.nil_append]
  rfl

/-- The functions of the fields. -/
def fieldFns (p : Nat) : Array Value := #[.func (.func 42) #[] #[], .func (.func 43) #[] #[.pointer (some ⟨p, 0, none⟩)], .func (.func 45) #[] #[.pointer (some ⟨p, 0, none⟩)], .func (.func 46) #[] #[.pointer (some ⟨p, 0, none⟩)],
  .func (.func 47) #[] #[.pointer (some ⟨p, 0, none⟩)], .func (.func 48) #[] #[.pointer (some ⟨p, 0, none⟩)], .func (.func 49) #[] #[.pointer (some ⟨p, 0, none⟩)], .func (.func 50) #[] #[.pointer (some ⟨p, 0, none⟩)]]

theorem bld_new (w : World) (b : Nat) (hb : b = w.heap.size) : Bld b b [] (w.alloc (.cells #[.pointer none, .slice none 0 0] 81)) := by
  subst hb
  exact .inl ⟨Nat.le_refl _, .slice none 0 0, heap_alloc_new w _, World.ownsRowF_of (World.ownsRow_nil _ _ _ _), by simp [Value.ownBlock]⟩

theorem made_b (m : Msg) : (⟨(bodyL m).toArray⟩ : ByteArray) ++ bytesB (sumN (bodyL m) : Nat) 2 = str (madeL m) := by
  have h : ((⟨(bodyL m).toArray⟩ : ByteArray) ++ bytesB (sumN (bodyL m) : Nat) 2).data.toList = madeL m := by
    rw [ByteArray.data_append, Array.toList_append, bytesB_listE, madeL]
    rfl
  rw [← h, str_list]

theorem below_le {B C : Nat} {w w' : World} (h : B ≤ C) (hb : Below C w w') : Below B w w' := ⟨hb.os, hb.tape, hb.output, hb.size, fun k hk => hb.block k (by omega)⟩

set_option maxHeartbeats 4000000 in
set_option maxRecDepth 100000 in
theorem enc_any (dst src seq kind par : Int) (dat : ByteArray) (w : World) :
    Calls Tryd.prog 14 #[.agg #[.int .u64 dst, .int .u64 src, .int .i64 seq, .int .i64 kind, .int .i64 par, .string dat]] w fun e w' => ∃ s n, e = .returned (.tuple #[.string s, .int .i64 n]) ∧ Hid (encM ⟨dst, src, seq, kind, par, dat⟩ = (s, n)) ∧ Below w.heap.size w w' := by
  go_enter Tryd.func14, Tryd.ntmps14
  go_wp2_with (first | (go_at_call 16; refine (chk_any _ _ _ _ _ _ _).mono ?_; rintro e w1 ⟨rfl, hb⟩; obtain ⟨hc, hf, hT1, hT2, hT3, hT4, hz⟩ := bfacts (n := w.heap.size + 1) hb (by first | (simp; done) | (simp; omega) | omega)))
  · have h : chk ⟨dst, src, seq, kind, par, dat⟩ ≠ 0 := ne_of_bne (by assumption)
    refine bodyPost_ret (v := .tuple #[.string ⟨#[]⟩, .int .i64 (chk ⟨dst, src, seq, kind, par, dat⟩)]) ?_ rfl ⟨_, _, rfl, ?_, ?_⟩
    · simp [results, Tryd.results14, go_sem]
    · simp [Hid, encM, h]
    · (repeat' (first | (with_reducible exact Below.refl _ _) | (with_reducible assumption) | (with_reducible refine below_drewN ?_ _) | (with_reducible refine Below.drew ?_) | (with_reducible refine Below.setCell ?_ ?_ _) | (with_reducible refine Below.alloc ?_ ?_ _) | (with_reducible refine below_after ?_ ?_ (by assumption)) | (show _ ≤ _; first | omega | (simp; done) | (simp; omega))))
  · rename (chk _ != 0) = false => hq
    have h : chk ⟨dst, src, seq, kind, par, dat⟩ = 0 := eq_of_bne hq
    clear hq
    obtain ⟨d0, d1, s0, s1, q0, q1, k0, k1, p0, p1, n1⟩ := small_of_chk h
    simp only at d0 d1 s0 s1 q0 q1 k0 k1 p0 p1 n1
    have HC := Lib.hid h
    clear h
    have v1 : IntKind.u64.wrap seq = seq := IntWalk.u64_in seq (by omega)
    have v2 : IntKind.u64.wrap kind = kind := IntWalk.u64_in kind (by omega)
    have v3 : IntKind.u64.wrap par = par := IntWalk.u64_in par (by omega)
    have v4 : IntKind.u64.wrap (dat.size : Int) = dat.size := IntWalk.u64_in _ (by omega)
    have hw1 := hb.size
    (try simp at hw1)
    have hM : RowAt w1 w.heap.size 24 #[.int .u64 dst, .int .u64 src, .int .i64 seq, .int .i64 kind, .int .i64 par, .string dat] := (by (repeat' (first | (with_reducible assumption) | (with_reducible refine RowAt.drewN ?_ _) | (with_reducible refine RowAt.drew ?_) | (with_reducible apply RowAt.six) | (with_reducible apply RowAt.seven) | ((with_reducible refine RowAt.mk ?_ ?_); (focus (first | rfl | (simp; done))); rfl) | (with_reducible refine RowAt.alloc ?_ _) | (with_reducible refine RowAt.far ?_ ?_) | (with_reducible refine RowAt.run ?_ (by assumption)) | (with_reducible refine RowAt.below ?_ (by assumption) ?_) | (with_reducible refine RowAt.upd ?_ (by assumption) ?_) | (show _ < _; first | omega | (simp; done) | (simp; omega)) | (show ¬ _ = _; first | omega | (simp; done) | (simp; omega)) | exact rfl))); obtain ⟨hMa, hMb, hMc, hMd, hMe, hMf⟩ := row_facts hM
    obtain ⟨m, hm⟩ : ∃ m : Msg, m = ⟨dst, src, seq, kind, par, dat⟩ := ⟨_, rfl⟩
    have HM := Lib.hid hm
    have hnm : m.dat.size = dat.size := by rw [hm]
    clear hm
    have z0 : (⟨#[204, 1]⟩ : ByteArray).size = 2 := rfl
    have z1 : (bytesB dst 6).size = 6 := by rw [bytesB_size]; rfl
    have z2 : (bytesB src 6).size = 6 := by rw [bytesB_size]; rfl
    have z3 : (bytesB seq 1).size = 1 := by rw [bytesB_size]; rfl
    have z4 : (bytesB kind 1).size = 1 := by rw [bytesB_size]; rfl
    have z5 : (bytesB par 2).size = 2 := by rw [bytesB_size]; rfl
    have z6 : (bytesB dat.size 1).size = 1 := by rw [bytesB_size]; rfl
    go_loopw [8, 24] (fun _ i wr => ∃ k : Nat, k ≤ 8 ∧ i = .int .i64 k ∧ Bld (w1.heap.size + 1) (w1.heap.size + 1) (preL m k) wr ∧ RowAt wr w.heap.size 24 #[.int .u64 dst, .int .u64 src, .int .i64 seq, .int .i64 kind, .int .i64 par, .string dat] ∧ RowAt wr w1.heap.size 76 (fieldFns w.heap.size) ∧ Below w.heap.size w wr ∧ w1.heap.size + 2 ≤ wr.heap.size) (fun _ i _ => 8 - (intOf i).toNat)
    case atStart =>
      refine ⟨0, by omega, rfl, bld_new _ _ (by simp), ?_, ?_, by (repeat' (first | (with_reducible exact Below.refl _ _) | (with_reducible assumption) | (with_reducible refine below_drewN ?_ _) | (with_reducible refine Below.drew ?_) | (with_reducible refine Below.setCell ?_ ?_ _) | (with_reducible refine Below.alloc ?_ ?_ _) | (with_reducible refine below_after ?_ ?_ (by assumption)) | (show _ ≤ _; first | omega | (simp; done) | (simp; omega)))), by simp⟩
      · exact (hM.alloc _).alloc _
      · exact (RowAt.mk rfl rfl).alloc _
    case round =>
      obtain ⟨k, hk, rfl, hbl, hr1, hr2, hbel, hsz⟩ := hrel
      obtain ⟨a1, a2, a3, a4, a5, a6⟩ := row_facts hr1
      obtain ⟨b1, b2, b3, b4, b5, b6⟩ := row_facts hr2
      simp only [fieldFns] at b1
      have hlen := preL_length m k
      by_cases hlt : k < 8
      · have hk8 : k = 0 ∨ k = 1 ∨ k = 2 ∨ k = 3 ∨ k = 4 ∨ k = 5 ∨ k = 6 ∨ k = 7 := by omega
        rcases hk8 with rfl | rfl | rfl | rfl | rfl | rfl | rfl | rfl
        · go_wp2_with (first | (go_at_call 42; go_in) | (go_at_call 51; refine (bld_write _ _ _ _ _ hbl (by omega) (by omega)).mono ?_; rintro e w3 ⟨rfl, hbl2, hb2⟩))
          go_roundw
          case rel =>
            have hz2 := hb2.size
            exact ⟨1, by omega, rfl, by have e := HM.out; subst e; exact hbl2, hr1.below hb2 (by omega), hr2.below hb2 (by omega), hbel.trans (below_le (by omega) hb2), by omega⟩
          case measure => simp [intOf]
        · go_wp2_with (first | (go_at_call 43; go_in) | (go_at_call 44; refine (bytes_any _ _ _ (by omega) (by omega) (by omega) (by omega)).mono ?_; rintro e w2 ⟨rfl, hb1⟩; have hz1 := hb1.size) | (go_at_call 51; refine (bld_write _ _ _ _ _ (hbl.below hb1) (by omega) (by omega)).mono ?_; rintro e w3 ⟨rfl, hbl2, hb2⟩))
          go_roundw
          case rel =>
            have hz2 := hb2.size
            exact ⟨2, by omega, rfl, by have e := HM.out; subst e; exact hbl2, (hr1.run hb1).below hb2 (by omega), (hr2.run hb1).below hb2 (by omega), (hbel.trans (below_le (by omega) hb1)).trans (below_le (by omega) hb2), by omega⟩
          case measure => simp [intOf]
        · go_wp2_with (first | (go_at_call 45; go_in) | (go_at_call 44; refine (bytes_any _ _ _ (by omega) (by omega) (by omega) (by omega)).mono ?_; rintro e w2 ⟨rfl, hb1⟩; have hz1 := hb1.size) | (go_at_call 51; refine (bld_write _ _ _ _ _ (hbl.below hb1) (by omega) (by omega)).mono ?_; rintro e w3 ⟨rfl, hbl2, hb2⟩))
          go_roundw
          case rel =>
            have hz2 := hb2.size
            exact ⟨3, by omega, rfl, by have e := HM.out; subst e; exact hbl2, (hr1.run hb1).below hb2 (by omega), (hr2.run hb1).below hb2 (by omega), (hbel.trans (below_le (by omega) hb1)).trans (below_le (by omega) hb2), by omega⟩
          case measure => simp [intOf]
        · go_wp2_with (first | (go_at_call 46; go_in) | (go_at_call 44; refine (bytes_any _ _ _ (by omega) (by omega) (by omega) (by omega)).mono ?_; rintro e w2 ⟨rfl, hb1⟩; have hz1 := hb1.size) | (go_at_call 51; refine (bld_write _ _ _ _ _ (hbl.below hb1) (by omega) (by omega)).mono ?_; rintro e w3 ⟨rfl, hbl2, hb2⟩))
          go_roundw
          case rel =>
            have hz2 := hb2.size
            exact ⟨4, by omega, rfl, by have e := HM.out; subst e; exact hbl2, (hr1.run hb1).below hb2 (by omega), (hr2.run hb1).below hb2 (by omega), (hbel.trans (below_le (by omega) hb1)).trans (below_le (by omega) hb2), by omega⟩
          case measure => simp [intOf]
        · go_wp2_with (first | (go_at_call 47; go_in) | (go_at_call 44; refine (bytes_any _ _ _ (by omega) (by omega) (by omega) (by omega)).mono ?_; rintro e w2 ⟨rfl, hb1⟩; have hz1 := hb1.size) | (go_at_call 51; refine (bld_write _ _ _ _ _ (hbl.below hb1) (by omega) (by omega)).mono ?_; rintro e w3 ⟨rfl, hbl2, hb2⟩))
          go_roundw
          case rel =>
            have hz2 := hb2.size
            exact ⟨5, by omega, rfl, by have e := HM.out; subst e; exact hbl2, (hr1.run hb1).below hb2 (by omega), (hr2.run hb1).below hb2 (by omega), (hbel.trans (below_le (by omega) hb1)).trans (below_le (by omega) hb2), by omega⟩
          case measure => simp [intOf]
        · go_wp2_with (first | (go_at_call 48; go_in) | (go_at_call 44; refine (bytes_any _ _ _ (by omega) (by omega) (by omega) (by omega)).mono ?_; rintro e w2 ⟨rfl, hb1⟩; have hz1 := hb1.size) | (go_at_call 51; refine (bld_write _ _ _ _ _ (hbl.below hb1) (by omega) (by omega)).mono ?_; rintro e w3 ⟨rfl, hbl2, hb2⟩))
          go_roundw
          case rel =>
            have hz2 := hb2.size
            exact ⟨6, by omega, rfl, by have e := HM.out; subst e; exact hbl2, (hr1.run hb1).below hb2 (by omega), (hr2.run hb1).below hb2 (by omega), (hbel.trans (below_le (by omega) hb1)).trans (below_le (by omega) hb2), by omega⟩
          case measure => simp [intOf]
        · go_wp2_with (first | (go_at_call 49; go_in) | (go_at_call 44; refine (bytes_any _ _ _ (by omega) (by omega) (by omega) (by omega)).mono ?_; rintro e w2 ⟨rfl, hb1⟩; have hz1 := hb1.size) | (go_at_call 51; refine (bld_write _ _ _ _ _ (hbl.below hb1) (by omega) (by omega)).mono ?_; rintro e w3 ⟨rfl, hbl2, hb2⟩))
          go_roundw
          case rel =>
            have hz2 := hb2.size
            exact ⟨7, by omega, rfl, by have e := HM.out; subst e; exact hbl2, (hr1.run hb1).below hb2 (by omega), (hr2.run hb1).below hb2 (by omega), (hbel.trans (below_le (by omega) hb1)).trans (below_le (by omega) hb2), by omega⟩
          case measure => simp [intOf]
        · go_wp2_with (first | (go_at_call 50; go_in) | (go_at_call 51; refine (bld_write _ _ _ _ _ hbl (by omega) (by omega)).mono ?_; rintro e w3 ⟨rfl, hbl2, hb2⟩))
          go_roundw
          case rel =>
            have hz2 := hb2.size
            exact ⟨8, by omega, rfl, by have e := HM.out; subst e; exact hbl2, hr1.below hb2 (by omega), hr2.below hb2 (by omega), hbel.trans (below_le (by omega) hb2), by omega⟩
          case measure => simp [intOf]
      · obtain rfl : k = 8 := by omega
        have hpl : preL m 8 = bodyL m := preL_all m
        have hbz : (⟨(bodyL m).toArray⟩ : ByteArray).size = 19 + dat.size := by
          show (bodyL m).length = _
          rw [bodyL_length, hnm]
        have zs : (bytesB (sumN (bodyL m) : Nat) 2).size = 2 := by rw [bytesB_size]; rfl
        rw [hpl] at hbl
        go_wp2_with (first | (go_at_call 52; refine (bld_string _ _ _ _ hbl (by omega)).mono ?_; rintro e w2 ⟨rfl, hbl2, hb2⟩; have hz2 := hb2.size) | (go_at_call 52; refine (bld_string _ _ _ _ hbl2 (by omega)).mono ?_; rintro e w3 ⟨rfl, hbl3, hb3⟩; have hz3 := hb3.size) | (go_at_call 53; refine (sum_any _ _ (by omega)).mono ?_; rintro e w4 ⟨rfl, hb4⟩))
        go_ret2
        refine ⟨_, _, rfl, ?_, by (repeat' (first | (with_reducible exact Below.refl _ _) | (with_reducible assumption) | (with_reducible refine below_drewN ?_ _) | (with_reducible refine Below.drew ?_) | (with_reducible refine Below.setCell ?_ ?_ _) | (with_reducible refine Below.alloc ?_ ?_ _) | (with_reducible refine below_after ?_ ?_ (by assumption)) | (show _ ≤ _; first | omega | (simp; done) | (simp; omega))))⟩
        have e := HM.out
        subst e
        rw [made_b]
        simp [Hid, encM, HC.out]

end Go.Proofs.YtdklpmaeajpacaaDoor
