/-
  The contracts of the two checks of labels.
  The contracts of the two checks of devices.
-/
import Derived.Test.YtpkhcehddfmhpaaGreatChk
import Derived.Test.YtpkhcehddfmhpaaGreatIds
namespace Go.Proofs.YtpkhcehddfmhpaaGreat
open Go.RowKit

/-- A byte that may not stand in a label. -/
def badByte (b : UInt8) : Bool := decide (b.toNat < 32 ∨ 126 < b.toNat)

/-- A text with a byte that may not stand in a label. -/
def hasBad (s : ByteArray) : Bool := s.data.toList.any badByte

/-- The number of the error of a label. -/
def lblE (s : ByteArray) : Int := if 32 < s.size then 13 else if hasBad s then 3 else 0

/-- A rune that may not stand in a label. -/
def badRune (r : Int) : Bool := decide (r < 32 ∨ 126 < r)

set_option maxHeartbeats 400000 in
theorem badrune_any (r : Int) (w : World) :
    Calls Tryz.prog 152 #[.int .i32 r] w fun e w' => e = .returned (.bool (badRune r)) ∧ w = w' := by
  go_enter Tryz.func152, Tryz.ntmps152
  go_wp2
  all_goals go_ret
  all_goals exact ⟨ret_bool (by grind [badRune]), rfl⟩

/-- The first `k` bytes are fine. -/
def fineTo (s : ByteArray) (k : Nat) : Bool := !(s.data.toList.take k).any badByte

theorem fineTo_succ (s : ByteArray) (k : Nat) (h : k < s.size) (hf : fineTo s k = true) (hb : badByte s[k] = false) : fineTo s (k + 1) = true := by
  unfold fineTo at *
  rw [take_snoc s k h]
  simp_all
theorem fineTo_bad (s : ByteArray) (k : Nat) (h : k < s.size) (hb : badByte s[k] = true) : hasBad s = true := by
  rw [hasBad, List.any_eq_true]
  exact ⟨s[k], List.getElem_mem (l := s.data.toList) (by simpa using h), hb⟩
theorem fineTo_all (s : ByteArray) (k : Nat) (h : s.size ≤ k) (hf : fineTo s k = true) : hasBad s = false := by
  unfold fineTo at hf
  rw [List.take_of_length_le (by simpa using h)] at hf
  simpa [hasBad] using hf

set_option maxHeartbeats 1000000 in
set_option maxRecDepth 100000 in
theorem indexFunc_any (s : ByteArray) (w : World) :
    Calls Tryz.prog 189 #[.string s, .func (.func 152) #[] #[], .bool true] w
      fun e w' => (∃ n : Int, e = .returned (.int .i64 n) ∧ (decide (0 ≤ n) = hasBad s)) ∧ Below w.heap.size w w' := by
  go_enter Tryz.func189, Tryz.ntmps189
  go_wp2_with fail
  go_loopw [] (fun wr => ∃ k : Nat, k ≤ s.size ∧ wr = w.iter s k ∧ fineTo s k = true) (fun wr => s.size - wr.iterPos w.heap.size)
  case atStart => exact ⟨0, Nat.zero_le _, rfl, rfl⟩
  case round =>
    obtain ⟨k, hk, rfl, hf⟩ := hrel
    by_cases hlt : k < s.size
    · by_cases ha : (s[k]).toNat < 128
      · have hn := fun ty => run_next_ascii (P := Tryz.prog) w s k ty hlt ha
        go_wp2_with (go_at_call 152; refine (badrune_any _ _).mono ?_; rintro e w' ⟨rfl, rfl⟩)
        · go_ret
          refine ⟨⟨k, rfl, ?_⟩, (Below.refl _ _).alloc (Nat.le_refl _) _⟩
          rw [fineTo_bad s k hlt (by grind [badByte, badRune])]
          simp
        · go_roundw
          case rel => exact ⟨k + 1, hlt, rfl, fineTo_succ s k hlt hf (by grind [badByte, badRune])⟩
          case measure => simp; omega
      · have hn := fun ty => run_next_any (P := Tryz.prog) w s k ty hlt
        have hd := (decode_high s k hlt (by omega)).1
        have hbr : badRune ((Utf8.decode s k).1 : Int) = true := by grind [badRune]
        go_wp2_with (go_at_call 152; refine (badrune_any _ _).mono ?_; rintro e w' ⟨rfl, rfl⟩)
        go_ret
        refine ⟨⟨k, rfl, ?_⟩, (Below.refl _ _).alloc (Nat.le_refl _) _⟩
        rw [fineTo_bad s k hlt (by grind [badByte])]
        simp
    · have hn := fun ty => run_next_end (P := Tryz.prog) w s k ty hlt
      go_wp2_with fail
      go_ret
      refine ⟨⟨-1, rfl, ?_⟩, (Below.refl _ _).alloc (Nat.le_refl _) _⟩
      rw [fineTo_all s k (by omega) hf]
      rfl

set_option maxHeartbeats 400000 in
theorem label_any (s : ByteArray) (w : World) :
    Calls Tryz.prog 114 #[.string s] w fun e w' => e = .returned (.int .i64 (lblE s)) ∧ Below w.heap.size w w' := by
  go_enter Tryz.func114, Tryz.ntmps114
  go_wp2_with (first | (go_at_call 151; go_in) | (go_at_call 176; go_in) | (go_at_call 189; refine (indexFunc_any _ _).mono ?_; rintro e w' ⟨⟨n, rfl, hn⟩, hb⟩))
  all_goals go_ret
  all_goals first
    | exact ⟨ret_int (by grind [lblE]), Below.refl _ _⟩
    | exact ⟨ret_int (by grind [lblE]), hb⟩

set_option maxHeartbeats 1000000 in
theorem Label_any (s : ByteArray) (w : World) (hs : s.size ≤ 9223372036854775807) :
    Calls Tryz.prog 181 #[.string s] w fun e w' => e = .returned (.int .i64 (lblE s)) ∧ w = w' := by
  go_enter Tryz.func181, Tryz.ntmps181
  go_wp2
  · go_ret
    exact ⟨ret_int (by grind [lblE]), rfl⟩
  · go_loop [3] (fun i => ∃ k : Nat, k ≤ s.size ∧ i = .int .i64 k ∧ fineTo s k = true) (fun i => s.size - (intOf i).toNat)
    case atStart => exact ⟨0, Nat.zero_le _, rfl, rfl⟩
    case round =>
      obtain ⟨k, hk, rfl, hf⟩ := hrel
      by_cases hlt : k < s.size
      · go_wp2
        all_goals first
          | (go_ret
             have hbad := fineTo_bad s k hlt (by grind [badByte])
             exact ⟨ret_int (by grind [lblE]), rfl⟩)
          | (go_round
             case rel => exact ⟨k + 1, by omega, by go_num, fineTo_succ s k hlt hf (by grind [badByte])⟩
             case measure => simp [intOf]; omega)
      · go_wp2
        go_ret
        have := fineTo_all s k (by omega) hf
        exact ⟨ret_int (by grind [lblE]), rfl⟩
end Go.Proofs.YtpkhcehddfmhpaaGreat

namespace Go.Proofs.YtpkhcehddfmhpaaGreat
open Go.RowKit

/-- The body of a device is bad. -/
def bodyBad (id ft ad : Int) : Bool := decide (isId id = false ∨ ft < 1 ∨ 512 < ft ∨ fitsB ad ft = false)

/-- The number of the error of a device. -/
def chkD (d : Dev) : Int :=
  if bodyBad d.id d.ft d.ad then 2 else if lblE d.lb ≠ 0 then lblE d.lb else if d.hr < 0 ∨ 4294967295 < d.hr then 2 else 0

set_option maxHeartbeats 1000000 in
set_option maxRecDepth 100000 in
theorem dchk_any (id ft ad hr : Int) (lb : ByteArray) (mu idf : Bool) (w : World) :
    Calls Tryz.prog 86 #[.agg #[.int .u64 id, .int .i64 ft, .int .i64 ad, .string lb, .int .i64 hr, .bool mu, .bool idf]] w
      fun e w' => e = .returned (.int .i64 (chkD ⟨id, ft, ad, lb, hr, mu, idf⟩)) ∧ Below w.heap.size w w' := by
  go_enter Tryz.func86, Tryz.ntmps86
  go_upto_region 1 with fail
  go_cut [23] (fun s7 wx => s7 = .bool (bodyBad id ft ad) ∧ wx = w.alloc (.cells #[.int .u64 id, .int .i64 ft, .int .i64 ad, .string lb, .int .i64 hr, .bool mu, .bool idf] 91))
  case first =>
    go_wp2_with (first | (go_at_call 112; refine (named_any _ _).mono ?_; rintro e w' ⟨rfl, rfl⟩) | (go_at_call 113; refine (fits_any _ ft _ _ (by omega) (by omega) (by simp [go_sem])).mono ?_; rintro e w' ⟨rfl, rfl⟩))
    all_goals go_meet
    all_goals exact ⟨by congr 1; grind [bodyBad], rfl⟩
  case rest =>
    obtain ⟨rfl, rfl⟩ := hcut
    go_wp2_with (first | (go_at_call 114; refine (label_any _ _).mono ?_; rintro e w1 ⟨rfl, hb⟩; obtain ⟨hc, hf⟩ := bcell hb))
    all_goals go_ret
    all_goals refine ⟨ret_int ?_, ?_⟩
    all_goals first
      | exact below_after1 hb
      | exact (Below.refl _ _).alloc (Nat.le_refl _) _
      | skip
    all_goals try clear hb hc hf
    all_goals grind [chkD]

set_option maxHeartbeats 1000000 in
set_option maxRecDepth 100000 in
theorem refdchk_any (id ft ad hr : Int) (lb : ByteArray) (mu idf : Bool) (w : World) (hl : lb.size ≤ 9223372036854775807) :
    Calls Tryz.prog 163 #[.agg #[.int .u64 id, .int .i64 ft, .int .i64 ad, .string lb, .int .i64 hr, .bool mu, .bool idf]] w
      fun e w' => e = .returned (.int .i64 (chkD ⟨id, ft, ad, lb, hr, mu, idf⟩)) ∧ Below w.heap.size w w' := by
  go_enter Tryz.func163, Tryz.ntmps163
  go_wp2_with (first | (go_at_call 129; refine (Is_any _ _).mono ?_; rintro e w' ⟨rfl, rfl⟩) | (go_at_call 180; refine (Fits_any _ _ _ (by omega) (by omega)).mono ?_; rintro e w' ⟨rfl, rfl⟩) | (go_at_call 181; refine (Label_any _ _ hl).mono ?_; rintro e w1 ⟨rfl, rfl⟩))
  all_goals go_ret
  all_goals refine ⟨ret_int ?_, (Below.refl _ _).alloc (Nat.le_refl _) _⟩
  all_goals grind [chkD, bodyBad]

end Go.Proofs.YtpkhcehddfmhpaaGreat
