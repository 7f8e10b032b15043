/-
  The law's examples of chapter 47 hold.
-/
import Derived.Test.YtnckalgljfplhaaRef
namespace Go.Proofs.Ytnckalgljfplhaa
open Go.RowKit

theorem aw_new (w : World) : Calls Try.prog 26 #[.int .u64 5, .int .i64 4] w fun e w' => e = .returned (.tuple #[.agg #[.int .u64 5, .int .i64 4, .int .i64 1, .string ⟨#[]⟩, .int .i64 0, .bool false, .bool false], .int .i64 0]) ∧ Below w.heap.size w w' := by
  have := new_top 5 4 w
  rw [ex_new] at this
  exact this
theorem aw_seek (w : World) : Calls Try.prog 16 #[.int .u64 9, .int .i64 0, .int .u64 1, .int .u64 9] w fun e w' => e = .returned (.tuple #[.agg #[.int .u64 281474976710655, .int .u64 9, .int .i64 0, .int .i64 1, .int .i64 0, .string ⟨#[0, 0, 0, 0, 0, 1, 0, 0, 0, 0, 0, 9]⟩], .int .i64 0]) ∧ Below w.heap.size w w' := by
  refine (discover_any 9 0 1 9 w (by decide) (by decide) (by decide) (by decide)).mono ?_
  rintro e w' ⟨m, n, rfl, h, hb⟩
  have h := h.out
  rw [ex_seek] at h
  simp only [Prod.mk.injEq] at h
  obtain ⟨rfl, rfl⟩ := h
  exact ⟨rfl, hb⟩
theorem aw_found (w : World) : Calls Try.prog 13 #[.agg #[.int .u64 5, .int .i64 4, .int .i64 1, .string ⟨#[]⟩, .int .i64 0, .bool false, .bool false], .agg #[.int .u64 281474976710655, .int .u64 9, .int .i64 0, .int .i64 1, .int .i64 0, .string ⟨#[0, 0, 0, 0, 0, 1, 0, 0, 0, 0, 0, 9]⟩]] w fun e w' => e = .returned (.tuple #[.agg #[.int .u64 5, .int .i64 4, .int .i64 1, .string ⟨#[]⟩, .int .i64 0, .bool false, .bool false], .agg #[.int .u64 9, .int .u64 5, .int .i64 0, .int .i64 6, .int .i64 0, .string ⟨#[0, 0, 0, 0, 0, 5]⟩], .bool true, .int .i64 0]) ∧ Below w.heap.size w w' :=
  receive_is _ _ _ _ _ _ w ex_found
theorem aw_mute (w : World) : Calls Try.prog 13 #[.agg #[.int .u64 5, .int .i64 4, .int .i64 1, .string ⟨#[]⟩, .int .i64 0, .bool false, .bool false], .agg #[.int .u64 281474976710655, .int .u64 9, .int .i64 0, .int .i64 2, .int .i64 0, .string ⟨#[]⟩]] w fun e w' => e = .returned (.tuple #[.agg #[.int .u64 5, .int .i64 4, .int .i64 1, .string ⟨#[]⟩, .int .i64 0, .bool true, .bool false], .agg #[.int .u64 0, .int .u64 0, .int .i64 0, .int .i64 0, .int .i64 0, .string ⟨#[]⟩], .bool false, .int .i64 0]) ∧ Below w.heap.size w w' :=
  receive_is _ _ _ _ _ _ w ex_mute
theorem aw_quiet (w : World) : Calls Try.prog 13 #[.agg #[.int .u64 5, .int .i64 4, .int .i64 1, .string ⟨#[]⟩, .int .i64 0, .bool true, .bool false], .agg #[.int .u64 281474976710655, .int .u64 9, .int .i64 0, .int .i64 1, .int .i64 0, .string ⟨#[0, 0, 0, 0, 0, 1, 0, 0, 0, 0, 0, 9]⟩]] w fun e w' => e = .returned (.tuple #[.agg #[.int .u64 5, .int .i64 4, .int .i64 1, .string ⟨#[]⟩, .int .i64 0, .bool true, .bool false], .agg #[.int .u64 0, .int .u64 0, .int .i64 0, .int .i64 0, .int .i64 0, .string ⟨#[]⟩], .bool false, .int .i64 0]) ∧ Below w.heap.size w w' :=
  receive_is _ _ _ _ _ _ w ex_quiet
theorem aw_far (w : World) : Calls Try.prog 13 #[.agg #[.int .u64 5, .int .i64 4, .int .i64 1, .string ⟨#[]⟩, .int .i64 0, .bool false, .bool false], .agg #[.int .u64 5, .int .u64 9, .int .i64 0, .int .i64 5, .int .i64 240, .string ⟨#[1, 253]⟩]] w fun e w' => e = .returned (.tuple #[.agg #[.int .u64 5, .int .i64 4, .int .i64 509, .string ⟨#[]⟩, .int .i64 0, .bool false, .bool false], .agg #[.int .u64 9, .int .u64 5, .int .i64 0, .int .i64 6, .int .i64 240, .string ⟨#[]⟩], .bool true, .int .i64 0]) ∧ Below w.heap.size w w' :=
  receive_is _ _ _ _ _ _ w ex_far
theorem aw_info (w : World) : Calls Try.prog 18 #[.agg #[.int .u64 5, .int .i64 4, .int .i64 509, .string ⟨#[]⟩, .int .i64 0, .bool false, .bool false], .int .i64 96] w fun e w' => e = .returned (.tuple #[.string ⟨#[0, 4, 1, 253]⟩, .int .i64 (-1), .int .i64 0]) ∧ Below w.heap.size w w' := by
  have := read_top 5 4 509 0 96 ⟨#[]⟩ false false w
  rw [show (⟨5, 4, 509, ⟨#[]⟩, 0, false, false⟩ : Dev) = exFar from rfl, ex_info] at this
  exact this
theorem aw_slots (w : World) : Calls Try.prog 30 #[.agg #[.int .u64 5, .int .i64 4, .int .i64 509, .string ⟨#[]⟩, .int .i64 0, .bool false, .bool false], .string (str exAll)] w fun e w' => e = .returned (.tuple #[.string ⟨#[7, 0, 0, 8]⟩, .int .i64 0]) ∧ Below w.heap.size w w' := by
  have := slots_top 5 4 509 0 ⟨#[]⟩ (str exAll) false false w
  rw [show (⟨5, 4, 509, ⟨#[]⟩, 0, false, false⟩ : Dev) = exFar from rfl, ex_slots] at this
  exact this
theorem aw_ref1 (w : World) : Calls Try.prog 38 #[.agg #[.int .u64 5, .int .i64 4, .int .i64 1, .string ⟨#[]⟩, .int .i64 0, .bool false, .bool false], .int .i64 240, .string ⟨#[1, 254]⟩, .int .i64 3] w fun e w' => e = .returned (.bool true) ∧ Below w.heap.size w w' :=
  refused_nat 5 4 1 0 240 3 ⟨#[]⟩ ⟨#[1, 254]⟩ ⟨#[3]⟩ false false w rfl ex_ref1
theorem aw_ref2 (w : World) : Calls Try.prog 38 #[.agg #[.int .u64 5, .int .i64 4, .int .i64 1, .string ⟨#[]⟩, .int .i64 0, .bool false, .bool false], .int .i64 240, .string ⟨#[1]⟩, .int .i64 2] w fun e w' => e = .returned (.bool true) ∧ Below w.heap.size w w' :=
  refused_nat 5 4 1 0 240 2 ⟨#[]⟩ ⟨#[1]⟩ ⟨#[2]⟩ false false w rfl ex_ref2
theorem aw_ref3 (w : World) : Calls Try.prog 38 #[.agg #[.int .u64 5, .int .i64 4, .int .i64 1, .string ⟨#[]⟩, .int .i64 0, .bool false, .bool false], .int .i64 1024, .string ⟨#[]⟩, .int .i64 1] w fun e w' => e = .returned (.bool true) ∧ Below w.heap.size w w' :=
  refused_nat 5 4 1 0 1024 1 ⟨#[]⟩ ⟨#[]⟩ ⟨#[1]⟩ false false w rfl ex_ref3

/-- The cells of new slots. -/
def zeros (n : Nat) : Array Value := u8s (List.replicate n 0)
theorem zeros_size (n : Nat) : (zeros n).size = n := by simp [zeros, u8s]
theorem zeros_get (n k : Nat) (h : k < n) : (zeros n)[k]? = some (.int .u8 0) := by
  simp [zeros, u8s, h]
theorem zeros_set (n i j : Nat) (a b : UInt8) : ((zeros n).setIfInBounds i (.int .u8 (a.toNat : Int))).setIfInBounds j (.int .u8 (b.toNat : Int)) = u8s (((List.replicate n 0).set i a).set j b) := by
  rw [zeros, u8s_set, u8s_set]
theorem made_n (n : Nat) (hn : n ≤ 1000) (w : World) : (Instr.makeSlice 82 (.int .i64 (n : Int)) (.int .i64 (n : Int))).run Try.prog w = .ok (.slice (some ⟨w.heap.size, 0, none⟩) n n) (w.alloc (.cells (zeros n) 5)) := by
  obtain ⟨i, hi, hz0, hz1, hz2⟩ := info_parts Try.info_u8
  have h := run_make (P := Try.prog) w 82 5 i _ Try.underlying82 hi hz0 .i64 .i64 n n (by omega) (by omega) (by rw [hz2]; omega) (by omega)
  rw [h]
  have e : madeCells (Value.int IntKind.u8 0).cells ((n : Int).toNat * i.size) = zeros n := by
    apply Array.toList_inj.1
    rw [hz1]
    show (madeCells #[Value.int IntKind.u8 0] _).toList = _
    rw [toList_madeCells_one]
    simp [u8s, zeros]
  rw [e]
  rfl
/-- The cells of the example's slots, as they are made. -/
def zeros512 : Array Value := zeros 512
theorem zeros512_size : zeros512.size = 512 := zeros_size 512
theorem zeros512_508 : zeros512[508]? = some (.int .u8 0) := zeros_get 512 508 (by decide)
theorem zeros512_511 : zeros512[511]? = some (.int .u8 0) := zeros_get 512 511 (by decide)
theorem made_512 (w : World) : (Instr.makeSlice 82 (.int .i64 512) (.int .i64 512)).run Try.prog w = .ok (.slice (some ⟨w.heap.size, 0, none⟩) 512 512) (w.alloc (.cells zeros512 5)) := made_n 512 (by decide) w
theorem exAll_eq : ((List.replicate 512 0).set 508 7).set 511 8 = exAll := by kernel_rfl
theorem exAll_length : exAll.length = 512 := by kernel_rfl
theorem conv_512 (w : World) : (convert 82 9 (.slice (some ⟨w.heap.size, 0, none⟩) 512 512)).run Try.prog (w.alloc (.cells ((zeros512.setIfInBounds 508 (.int .u8 7)).setIfInBounds 511 (.int .u8 8)) 5)) = .ok (.string (str exAll)) (w.alloc (.cells ((zeros512.setIfInBounds 508 (.int .u8 7)).setIfInBounds 511 (.int .u8 8)) 5)) := by
  have e : (zeros512.setIfInBounds 508 (.int .u8 7)).setIfInBounds 511 (.int .u8 8) = u8s exAll := (zeros_set 512 508 511 7 8).trans (congrArg u8s exAll_eq)
  rw [e]
  exact conv_new w exAll 512 exAll_length

end Go.Proofs.Ytnckalgljfplhaa
