/-
  Contracts of the two checks of messages.
-/
import Derived.Test.YtdklpmaeajpacaaDoorMap
import Derived.Deep.QuietTactic
import Derived.BigQuiet
import Derived.Deep.DeepCutAuto
namespace Go.Proofs.YtdklpmaeajpacaaDoor
open Go.RowKit

theorem bcell {W w1 : World} (hb : Below W.heap.size W w1) : (∀ b o, b < W.heap.size → w1.cell? ⟨b, o, none⟩ = W.cell? ⟨b, o, none⟩) ∧ (∀ b o, b < W.heap.size → w1.frozen? ⟨b, o, none⟩ = W.frozen? ⟨b, o, none⟩) :=
  ⟨fun b o h => hb.cell (p := ⟨b, o, none⟩) h, fun b o h => hb.frozen (p := ⟨b, o, none⟩) h⟩

/-- What a call that leaves old memory alone says of the cells, the marks and the numbers of blocks. -/
theorem bfacts {W w1 : World} {n : Nat} (hb : Below W.heap.size W w1) (hn : n ≤ W.heap.size) :
    (∀ b o, b < n → w1.cell? ⟨b, o, none⟩ = W.cell? ⟨b, o, none⟩) ∧ (∀ b o, b < n → w1.frozen? ⟨b, o, none⟩ = W.frozen? ⟨b, o, none⟩) ∧
    (∀ g, g < n → g < w1.heap.size) ∧ (∀ g, g < n → g ≤ w1.heap.size) ∧ (∀ g, g < n → ¬ g = w1.heap.size) ∧ (∀ g, g < n → ¬ w1.heap.size = g) ∧ n ≤ w1.heap.size := by
  have := hb.size
  obtain ⟨h1, h2⟩ := bcell hb
  refine ⟨fun b o h => h1 b o (by omega), fun b o h => h2 b o (by omega), fun g h => ?_, fun g h => ?_, fun g h => ?_, fun g h => ?_, ?_⟩ <;> omega

theorem bfactsB {W w1 : World} {n B : Nat} (hb : Below B W w1) (hB : n ≤ B) (hn : n ≤ W.heap.size) :
    (∀ b o, b < n → w1.cell? ⟨b, o, none⟩ = W.cell? ⟨b, o, none⟩) ∧ (∀ b o, b < n → w1.frozen? ⟨b, o, none⟩ = W.frozen? ⟨b, o, none⟩) ∧
    (∀ g, g < n → g < w1.heap.size) ∧ (∀ g, g < n → g ≤ w1.heap.size) ∧ (∀ g, g < n → ¬ g = w1.heap.size) ∧ (∀ g, g < n → ¬ w1.heap.size = g) ∧ n ≤ w1.heap.size := by
  have := hb.size
  refine ⟨fun b o h => hb.cell (p := ⟨b, o, none⟩) (Nat.lt_of_lt_of_le h hB), fun b o h => hb.frozen (p := ⟨b, o, none⟩) (Nat.lt_of_lt_of_le h hB), fun g h => ?_, fun g h => ?_, fun g h => ?_, fun g h => ?_, ?_⟩ <;> omega

theorem quiet_left {P : Program} {f : FuncId} {args : Array Value} {w : World} {n : Nat} {v : Value}
    (h : Calls P f args (w.drewN n) fun e w' => e = .returned v ∧ w.drewN n = w') : Calls P f args (w.drewN n) fun e w'' => e = .returned v ∧ ∃ m, w'' = w.drewN m :=
  h.mono fun _ _ ⟨he, hw⟩ => ⟨he, n, hw.symm⟩

theorem below_after {B B' : Nat} {a w w' : World} (h : Below B a w) (hB : B ≤ B') (hb : Below B' w w') : Below B a w' := h.trans (hb.mono hB)

theorem below_drewN {B : Nat} {a w : World} (h : Below B a w) (n : Nat) : Below B a (w.drewN n) := ⟨h.os, h.tape, h.output, h.size, h.block⟩

theorem below_after1 {w w' : World} {o : Obj} (hb : Below (w.alloc o).heap.size (w.alloc o) w') : Below w.heap.size w w' :=
  below_after ((Below.refl _ _).alloc (Nat.le_refl _) _) (by simp) hb

theorem take_extract (s : ByteArray) (n : Nat) : (s.extract 0 n).data.toList = s.data.toList.take n := by
  have h := ByteArray.extract_mk s.data.toList 0 n
  simp at h
  rw [h]
theorem drop_extract (s : ByteArray) (n : Nat) : (s.extract n s.size).data.toList = s.data.toList.drop n := by
  have h := ByteArray.extract_mk s.data.toList n s.size
  simp at h
  rw [h]
  exact List.take_of_length_le (by simp)

/-- The head of a message is bad. -/
def headBad (dst src seq : Int) : Bool := decide ((isId dst || decide (dst = 281474976710655)) = false ∨ isId src = false ∨ seq < 0 ∨ 255 < seq)

set_option maxHeartbeats 1000000 in
set_option maxRecDepth 100000 in
theorem chk_any (dst src seq kind par : Int) (dat : ByteArray) (w : World) :
    Calls Tryd.prog 16 #[.agg #[.int .u64 dst, .int .u64 src, .int .i64 seq, .int .i64 kind, .int .i64 par, .string dat]] w
      fun e w' => e = .returned (.int .i64 (chk ⟨dst, src, seq, kind, par, dat⟩)) ∧ Below w.heap.size w w' := by
  obtain ⟨bq, hq⟩ : ∃ b, (dst != 281474976710655) = b := ⟨_, rfl⟩
  go_enter Tryd.func16, Tryd.ntmps16
  go_upto_region 1 with fail
  go_cut [7] (fun s7 wx => s7 = .bool (headBad dst src seq) ∧ wx = w.alloc (.cells #[.int .u64 dst, .int .u64 src, .int .i64 seq, .int .i64 kind, .int .i64 par, .string dat] 24))
  case first =>
    go_wp2_with (first | (go_at_call 55; refine (is_any _ _).mono ?_; rintro e w' ⟨rfl, rfl⟩))
    all_goals go_meet
    all_goals exact ⟨by congr 1; grind [headBad], rfl⟩
  case rest =>
    obtain ⟨rfl, rfl⟩ := hcut
    go_wp2_with (first | (go_at_call 55; refine (is_any _ _).mono ?_; rintro e w' ⟨rfl, rfl⟩) | (go_at_call 56; refine (lengths_any _ _).mono ?_; rintro e w1 ⟨rfl, hb⟩; obtain ⟨hc, hf⟩ := bcell hb))
    all_goals first
      | (go_ret; refine ⟨ret_int ?_, ?_⟩)
      | (exfalso; grind [lenVal, lenHas, lenOf])
      | (have hs : dat.size = 12 := by grind [lenVal, lenHas, lenOf]
         have hk : kind = 1 := by grind
         have s1 : (6 : Int) ≤ (dat.size : Int) := by omega
         have z1 : (dat.extract 0 6).size ≤ 7 := by simp [ByteArray.size_extract]; omega
         have z2 : (dat.extract 6 dat.size).size ≤ 7 := by simp [ByteArray.size_extract]; omega
         have HS := Lib.hid hs
         have HK := Lib.hid hk
         clear hs hk
         go_quiet ((go_at_call 57; refine quiet_left (number_any _ _ ?_); assumption))
         go_wp2_with (go_at_call 55; refine (is_any _ _).mono ?_; rintro e w' ⟨rfl, rfl⟩))
    all_goals try (go_ret; refine ⟨ret_int ?_, ?_⟩)
    all_goals first
      | exact below_after1 hb
      | exact (Below.refl _ _).alloc (Nat.le_refl _) _
      | exact below_drewN (below_after1 hb) _
      | skip
    all_goals try clear hb hc hf
    all_goals try clear s1 z1 z2
    all_goals try have HE : List.take (dat.size - 6) (List.drop 6 dat.data.toList) = List.drop 6 dat.data.toList := List.take_of_length_le (by simp)
    all_goals try have HS' := HS.out
    all_goals try have HK' := HK.out
    all_goals try simp only [HE] at *
    all_goals grind [chk, lenVal, lenHas, lenOf, headBad]

end Go.Proofs.YtdklpmaeajpacaaDoor
