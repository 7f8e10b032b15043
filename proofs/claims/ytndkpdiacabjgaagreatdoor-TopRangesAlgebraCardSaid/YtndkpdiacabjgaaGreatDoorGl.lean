/-
  The fixed example on numbers and ranges.
-/
import Derived.Test.YtndkpdiacabjgaaGreatDoorM5
import Derived.Test.YtndkpdiacabjgaaGreatDoorGj
import Derived.Test.YtndkpdiacabjgaaGreatDoorGk
namespace Go.Proofs.YtndkpdiacabjgaaGreatDoor
open Go.RowKit

theorem of5_1010 : of5 1010 = ([49, 46, 48, 49], 0) := by
  have h1 : Lib.decDigits 1 = [49] := Lib.decDigits_one (by decide)
  have h2 : Lib.trimRightB [48, 49, 48] 48 = [48, 49] := by decide
  simp [of5, named, h1, three, h2]
theorem bet5_play : bet5 [49] [49, 46, 49] = ([49, 46, 48, 49], 0) := by
  have h1 : chk5 [49] = 0 := by decide
  have h2 : chk5 [49, 46, 49] = 0 := by decide
  have v1 : val5 [49] = 1000 := by decide
  have v2 : val5 [49, 46, 49] = 1100 := by decide
  rw [bet_ab h1 h2, v1, v2, if_neg (by decide), betV, if_neg (by decide), if_neg (by decide), if_pos (by decide)]
  exact of5_1010
theorem bet_play (w : World) (hp : Pow w) : Calls Tryz.prog 9 #[.string ⟨#[49]⟩, .string ⟨#[49, 46, 49]⟩] w fun e w' => e = .returned (.tuple #[.string ⟨#[49, 46, 48, 49]⟩, .int .i64 0]) ∧ Below w.heap.size w w' := by
  have := bet5_any ⟨#[49]⟩ ⟨#[49, 46, 49]⟩ w (by decide) (by decide) hp
  rw [show (⟨#[49]⟩ : ByteArray).data.toList = [49] from rfl, show (⟨#[49, 46, 49]⟩ : ByteArray).data.toList = [49, 46, 49] from rfl, bet5_play] at this
  exact this

theorem dd3 : Lib.decDigits 3 = [51] := Lib.decDigits_one (by decide)
theorem dd4 : Lib.decDigits 4 = [52] := Lib.decDigits_one (by decide)
theorem dd5 : Lib.decDigits 5 = [53] := Lib.decDigits_one (by decide)
theorem text_play : fmtG ((3 : Int), (5 : Int)) ++ moreG [(false, ((4 : Int), (4 : Int)))] = [51, 32, 116, 104, 114, 117, 32, 53, 32, 45, 32, 52] := by
  simp [fmtG, moreG, dd3, dd4, dd5]
theorem out_play : textG [((3 : Int), (3 : Int)), ((5 : Int), (5 : Int))] = [51, 32, 43, 32, 53] := by
  rw [textG_cons]
  simp [fmtG, moreG, termsG, dd3, dd5]
theorem canon_play : Canon [((3 : Int), (3 : Int)), ((5 : Int), (5 : Int))] := (chkG_none _).1 (by decide)
theorem list_play {l : List (Int × Int)} (h : SetOf (runG ((true, ((3 : Int), (5 : Int))) :: [(false, ((4 : Int), (4 : Int)))]) fun _ => false) l) : l = [((3 : Int), (3 : Int)), ((5 : Int), (5 : Int))] := by
  refine set_eq h (set_self canon_play) fun c h1 h2 => ?_
  show putG false (putG true (fun _ => false) (3, 5)) (4, 4) c = _
  unfold putG
  match c with
  | 0 => decide
  | 1 => decide
  | 2 => decide
  | 3 => decide
  | 4 => decide
  | 5 => decide
  | n + 6 =>
    have e1 : hasG ((4 : Int), (4 : Int)) (n + 6) = false := by rw [Bool.eq_false_iff]; intro x; have := hasG_iff.1 x; dsimp only at this; omega
    have e2 : hasG ((3 : Int), (5 : Int)) (n + 6) = false := by rw [Bool.eq_false_iff]; intro x; have := hasG_iff.1 x; dsimp only at this; omega
    have e3 : memG [((3 : Int), (3 : Int)), ((5 : Int), (5 : Int))] (n + 6) = false := by
      rw [Bool.eq_false_iff]; intro x
      obtain ⟨r, hr, h3, h4⟩ := memG_iff.1 x
      simp at hr
      rcases hr with rfl | rfl <;> (dsimp only at h3 h4; omega)
    rw [e1, e2, e3]
    rfl
theorem parse_play (w : World) : Calls Tryz.prog 15 #[.string ⟨#[51, 32, 116, 104, 114, 117, 32, 53, 32, 45, 32, 52]⟩] w fun e w' => ∃ a c, e = .returned (.tuple #[.slice a 2 c, .int .i64 0, .int .i64 0]) ∧ RngsAt w' (.slice a 2 c) [((3 : Int), (3 : Int)), ((5 : Int), (5 : Int))] ∧ Below w.heap.size w w' := by
  refine (gparse_any _ (3, 5) [(false, (4, 4))] w (by decide) text_play.symm (by decide) (by simp [rightG])).mono ?_
  rintro e w' ⟨a, c, l, rfl, hl, hs, _, hb⟩
  have := list_play hs
  subst this
  exact ⟨a, c, rfl, hl, hb⟩
theorem format_play (a : Option Addr) (c : Nat) (w : World) (h : RngsAt w (.slice a 2 c) [((3 : Int), (3 : Int)), ((5 : Int), (5 : Int))]) (hp : Pow w) :
    Calls Tryz.prog 13 #[.slice a 2 c] w fun e w' => e = .returned (.tuple #[.string ⟨#[51, 32, 43, 32, 53]⟩, .int .i64 0]) ∧ Below w.heap.size w w' := by
  have := gformat_any _ _ w h canon_play (by decide) hp
  rw [out_play] at this
  exact this

set_option maxHeartbeats 2000000 in
set_option maxRecDepth 100000 in
theorem playN_any (w : World) (hp : Pow w) : Calls Tryz.prog 8 #[] w fun e w' => e = .returned (.bool true) ∧ Below w.heap.size w w' := by
  have HP := Lib.hid hp
  clear hp
  go_enter Tryz.func8, Tryz.ntmps8
  go_wp2_with fail
  refine (bet_play w HP.out).mono ?_
  rintro e w1 ⟨rfl, hb1⟩
  go_wp2_with fail
  refine (parse_play w1).mono ?_
  rintro e w2 ⟨a, c, rfl, hl, hb2⟩
  have HB2 := Lib.hid (below_run hb1 hb2)
  have HL := Lib.hid hl
  clear hb1 hb2 hl
  go_wp2_with fail
  refine (format_play a c w2 HL.out (HP.out.run HB2.out)).mono ?_
  rintro e w3 ⟨rfl, hb3⟩
  go_wp2
  go_ret
  exact ⟨rfl, below_run HB2.out hb3⟩
end Go.Proofs.YtndkpdiacabjgaaGreatDoor
