/-
  The contracts of what the reference answers and seeks.
-/
import Derived.Test.YtpkhcehddfmhpaaGreatRchk
import Derived.Test.YtpkhcehddfmhpaaGreatMade
import Derived.Test.YtpkhcehddfmhpaaGreatBas
namespace Go.Proofs.YtpkhcehddfmhpaaGreat
open Go.RowKit

set_option maxHeartbeats 1000000 in
set_option maxRecDepth 100000 in
theorem refrequest_any (dst src seq kind par : Int) (dat : ByteArray) (w : World) :
    Calls Tryz.prog 100 #[.agg #[.int .u64 dst, .int .u64 src, .int .i64 seq, .int .i64 kind, .int .i64 par, .string dat]] w fun e w' => e = .returned (.int .i64 (reqE ⟨dst, src, seq, kind, par, dat⟩)) ∧ Below w.heap.size w w' := by
  obtain ⟨b1, h1⟩ : ∃ b, (kind == 6) = b := ⟨_, rfl⟩
  obtain ⟨b2, h2⟩ : ∃ b, (kind == 7) = b := ⟨_, rfl⟩
  go_enter Tryz.func100, Tryz.ntmps100
  go_wp2_with (first | (go_at_call 95; refine (refchk_any _ _ _ _ _ _ _).mono ?_; rintro e w1 ⟨rfl, hb⟩; obtain ⟨hc, hf, hT1, hT2, hT3, hT4, hz⟩ := bfacts (n := w.heap.size + 1) hb (by first | (simp; done) | (simp; omega) | omega)))
  all_goals go_ret
  all_goals refine ⟨ret_int ?_, ?_⟩
  all_goals first
    | (repeat' (first | (with_reducible exact Below.refl _ _) | (with_reducible assumption) | (with_reducible refine below_drewN ?_ _) | (with_reducible refine Below.drew ?_) | (with_reducible refine Below.setCell ?_ ?_ _) | (with_reducible refine Below.alloc ?_ ?_ _) | (with_reducible refine below_after ?_ ?_ (by assumption)) | (show _ ≤ _; first | omega | (simp; done) | (simp; omega))))
    | skip
  all_goals clear hb hc hf hT1 hT2 hT3 hT4
  all_goals grind [reqE, isRep]

set_option maxHeartbeats 1000000 in
set_option maxRecDepth 100000 in
theorem refmatches_any (dst src seq kind par dst' src' seq' kind' par' : Int) (dat dat' : ByteArray) (w : World) :
    Calls Tryz.prog 73 #[.agg #[.int .u64 dst, .int .u64 src, .int .i64 seq, .int .i64 kind, .int .i64 par, .string dat], .agg #[.int .u64 dst', .int .u64 src', .int .i64 seq', .int .i64 kind', .int .i64 par', .string dat']] w
      fun e w' => e = .returned (.bool (matchesM ⟨dst, src, seq, kind, par, dat⟩ ⟨dst', src', seq', kind', par', dat'⟩)) ∧ Below w.heap.size w w' := by
  obtain ⟨b1, h1⟩ : ∃ b, (dst' == src) = b := ⟨_, rfl⟩
  obtain ⟨b2, h2⟩ : ∃ b, (seq' == seq) = b := ⟨_, rfl⟩
  obtain ⟨b3, h3⟩ : ∃ b, (par' == par) = b := ⟨_, rfl⟩
  obtain ⟨b4, h4⟩ : ∃ b, (dst == 281474976710655) = b := ⟨_, rfl⟩
  obtain ⟨b5, h5⟩ : ∃ b, (dst == src') = b := ⟨_, rfl⟩
  obtain ⟨b6, h6⟩ : ∃ b, (reqE ⟨dst, src, seq, kind, par, dat⟩ != 0) = b := ⟨_, rfl⟩
  obtain ⟨b7, h7⟩ : ∃ b, (chk ⟨dst', src', seq', kind', par', dat'⟩ != 0) = b := ⟨_, rfl⟩
  obtain ⟨b8, h8⟩ : ∃ b, (kind' != 6) = b := ⟨_, rfl⟩
  obtain ⟨b9, h9⟩ : ∃ b, (kind' != 7) = b := ⟨_, rfl⟩
  have hm : matchesM ⟨dst, src, seq, kind, par, dat⟩ ⟨dst', src', seq', kind', par', dat'⟩ = (!b6 && !b7 && !(b8 && b9) && b1 && b2 && b3 && (b4 || b5)) := by
    grind [matchesM, reqE, isRep]
  rw [hm]
  clear hm
  go_enter Tryz.func73, Tryz.ntmps73
  cases b6 <;> cases b7 <;> go_wp2_with (first | (go_at_call 100; refine (refrequest_any _ _ _ _ _ _ _).mono ?_; rintro e w1 ⟨rfl, hb⟩; have ra : RowAt w1 w.heap.size 52 #[.int .u64 dst, .int .u64 src, .int .i64 seq, .int .i64 kind, .int .i64 par, .string dat] := (by (repeat' (first | (with_reducible assumption) | (with_reducible refine RowAt.drewN ?_ _) | (with_reducible refine RowAt.drew ?_) | (with_reducible apply RowAt.six) | (with_reducible apply RowAt.seven) | ((with_reducible refine RowAt.mk ?_ ?_); (focus (first | rfl | (simp; done))); rfl) | (with_reducible refine RowAt.alloc ?_ _) | (with_reducible refine RowAt.far ?_ ?_) | (with_reducible refine RowAt.run ?_ (by assumption)) | (with_reducible refine RowAt.below ?_ (by assumption) ?_) | (with_reducible refine RowAt.upd ?_ (by assumption) ?_) | (show _ < _; first | omega | (simp; done) | (simp; omega)) | (show ¬ _ = _; first | omega | (simp; done) | (simp; omega)) | exact rfl))); obtain ⟨raa, rab, rac, rad, rae, raf⟩ := row_facts ra; have rb : RowAt w1 (w.heap.size + 1) 52 #[.int .u64 dst', .int .u64 src', .int .i64 seq', .int .i64 kind', .int .i64 par', .string dat'] := (by (repeat' (first | (with_reducible assumption) | (with_reducible refine RowAt.drewN ?_ _) | (with_reducible refine RowAt.drew ?_) | (with_reducible apply RowAt.six) | (with_reducible apply RowAt.seven) | ((with_reducible refine RowAt.mk ?_ ?_); (focus (first | rfl | (simp; done))); rfl) | (with_reducible refine RowAt.alloc ?_ _) | (with_reducible refine RowAt.far ?_ ?_) | (with_reducible refine RowAt.run ?_ (by assumption)) | (with_reducible refine RowAt.below ?_ (by assumption) ?_) | (with_reducible refine RowAt.upd ?_ (by assumption) ?_) | (show _ < _; first | omega | (simp; done) | (simp; omega)) | (show ¬ _ = _; first | omega | (simp; done) | (simp; omega)) | exact rfl))); obtain ⟨rba, rbb, rbc, rbd, rbe, rbf⟩ := row_facts rb) | (go_at_call 95; refine (refchk_any _ _ _ _ _ _ _).mono ?_; rintro e w2 ⟨rfl, hb2⟩; have rc : RowAt w2 w.heap.size 52 #[.int .u64 dst, .int .u64 src, .int .i64 seq, .int .i64 kind, .int .i64 par, .string dat] := (by (repeat' (first | (with_reducible assumption) | (with_reducible refine RowAt.drewN ?_ _) | (with_reducible refine RowAt.drew ?_) | (with_reducible apply RowAt.six) | (with_reducible apply RowAt.seven) | ((with_reducible refine RowAt.mk ?_ ?_); (focus (first | rfl | (simp; done))); rfl) | (with_reducible refine RowAt.alloc ?_ _) | (with_reducible refine RowAt.far ?_ ?_) | (with_reducible refine RowAt.run ?_ (by assumption)) | (with_reducible refine RowAt.below ?_ (by assumption) ?_) | (with_reducible refine RowAt.upd ?_ (by assumption) ?_) | (show _ < _; first | omega | (simp; done) | (simp; omega)) | (show ¬ _ = _; first | omega | (simp; done) | (simp; omega)) | exact rfl))); obtain ⟨rca, rcb, rcc, rcd, rce, rcf⟩ := row_facts rc; have rd : RowAt w2 (w.heap.size + 1) 52 #[.int .u64 dst', .int .u64 src', .int .i64 seq', .int .i64 kind', .int .i64 par', .string dat'] := (by (repeat' (first | (with_reducible assumption) | (with_reducible refine RowAt.drewN ?_ _) | (with_reducible refine RowAt.drew ?_) | (with_reducible apply RowAt.six) | (with_reducible apply RowAt.seven) | ((with_reducible refine RowAt.mk ?_ ?_); (focus (first | rfl | (simp; done))); rfl) | (with_reducible refine RowAt.alloc ?_ _) | (with_reducible refine RowAt.far ?_ ?_) | (with_reducible refine RowAt.run ?_ (by assumption)) | (with_reducible refine RowAt.below ?_ (by assumption) ?_) | (with_reducible refine RowAt.upd ?_ (by assumption) ?_) | (show _ < _; first | omega | (simp; done) | (simp; omega)) | (show ¬ _ = _; first | omega | (simp; done) | (simp; omega)) | exact rfl))); obtain ⟨rda, rdb, rdc, rdd, rde, rdf⟩ := row_facts rd))
  all_goals go_ret
  all_goals refine ⟨ret_bool ?_, ?_⟩
  all_goals first
    | ((repeat' (first | (with_reducible exact Below.refl _ _) | (with_reducible assumption) | (with_reducible refine below_run ?_ (by assumption)) | (with_reducible refine below_of_upd ?_ (by assumption) ?_) | (with_reducible refine below_drewN ?_ _) | (with_reducible refine Below.drew ?_) | (with_reducible refine below_seven ?_ ?_) | (with_reducible refine below_six ?_ ?_) | (with_reducible refine below_one ?_ ?_) | (with_reducible refine Below.alloc ?_ ?_ _) | (with_reducible refine below_after ?_ ?_ (by assumption)) | (show _ ≤ _; first | omega | (simp; done) | (simp; omega)))); done)
    | skip
  all_goals grind

/-- The message that the reference sends to seek devices. -/
def soughtM (src seq low high : Int) : Msg := ⟨281474976710655, src, seq, 1, 0, bytesB low 6 ++ bytesB high 6⟩
/-- The same, where the range fits. -/
def refdiscM (src seq low high : Int) : Msg := ⟨281474976710655, src, seq, 1, 0, if 281474976710655 < low ∨ 281474976710655 < high then bytesB 0 12 else bytesB low 6 ++ bytesB high 6⟩

theorem bad_two (m : Msg) (hk : m.kind = 1) (hp : m.par = 0) (hs : m.dat.size = 12)
    (hb : isId (numOf (m.dat.data.toList.take 6)) = false ∨ isId (numOf (m.dat.data.toList.drop 6)) = false) : chk m = 2 := by
  unfold chk
  by_cases h : (isId m.dst || decide (m.dst = 281474976710655)) = false ∨ isId m.src = false ∨ m.seq < 0 ∨ 255 < m.seq
  · rw [if_pos h]
  · rw [if_neg h, if_neg (by omega), if_neg (by omega), if_neg (by omega), if_neg (by rw [hk, hs]; simp [lenOf]), if_pos hk, if_pos hb]

theorem two_parts (a b : Int) : (bytesB a 6 ++ bytesB b 6).data.toList = bytesOf a.toNat 6 ++ bytesOf b.toNat 6 := by simp [bytesB, str]
theorem take_part (a b : Int) : (bytesB a 6 ++ bytesB b 6).data.toList.take 6 = bytesOf a.toNat 6 := by
  rw [two_parts, List.take_append_of_le_length (by rw [bytesOf_length]; omega), List.take_of_length_le (by rw [bytesOf_length]; omega)]
theorem drop_part (a b : Int) : (bytesB a 6 ++ bytesB b 6).data.toList.drop 6 = bytesOf b.toNat 6 := by
  rw [two_parts, List.drop_append_of_le_length (by rw [bytesOf_length]; omega), List.drop_of_length_le (by rw [bytesOf_length]; omega), List.nil_append]

theorem right_bad {m : Msg} (h : chk m = 2) : rightM m = (zeroM, 2) := by
  rw [rightM, if_neg (by omega), h]

/-- What is sought, on both sides. -/
theorem disc_eq (src seq low high : Int) (h0 : 0 ≤ low) (h1 : 0 ≤ high) : rightM (refdiscM src seq low high) = rightM (discM src seq low high) := by
  by_cases hi : (isId low && isId high) = true
  · have hl : 0 < low ∧ low < 281474976710655 := by simp [isId] at hi; omega
    have hh : 0 < high ∧ high < 281474976710655 := by simp [isId] at hi; omega
    rw [refdiscM, discM, if_neg (by omega), if_pos hi]
  · have z : (bytesB 0 12).data.toList.take 6 = [0, 0, 0, 0, 0, 0] := by decide +kernel
    have hz : isId (numOf [0, 0, 0, 0, 0, 0] : Nat) = false := by decide +kernel
    have e2 : rightM (discM src seq low high) = (zeroM, 2) := by
      apply right_bad
      rw [discM, if_neg hi]
      exact bad_two _ rfl rfl (by rw [bytesB_size]; rfl) (.inl (by rw [z]; exact hz))
    rw [e2]
    apply right_bad
    rw [refdiscM]
    by_cases hg : 281474976710655 < low ∨ 281474976710655 < high
    · rw [if_pos hg]
      exact bad_two _ rfl rfl (by rw [bytesB_size]; rfl) (.inl (by rw [z]; exact hz))
    · rw [if_neg hg]
      have nl : (numOf (bytesOf low.toNat 6) : Int) = low := numOf_bytes h0 (by omega)
      have nh : (numOf (bytesOf high.toNat 6) : Int) = high := numOf_bytes h1 (by omega)
      refine bad_two _ rfl rfl ?_ ?_
      · rw [ByteArray.size_append, bytesB_size, bytesB_size]; rfl
      · rw [take_part, drop_part, nl, nh]
        cases hL : isId low with
        | false => exact .inl rfl
        | true => exact .inr (by rw [hL] at hi; simpa using hi)

end Go.Proofs.YtpkhcehddfmhpaaGreat
