/-
  show.Check: the parts, one behind the other.
  show's title.
  show.Check of an empty show.
-/
import Derived.Shelf.Abstract
import Derived.Laws.EntriesVeiled
import Derived.Test.YtjeigphhepngmaaGreatDoorBas
import Derived.Test.YtjeigphhepngmaaGreatDoorOwn
import Derived.Test.YtjeigphhepngmaaGreatDoorYm
namespace Go.Proofs.YtjeigphhepngmaaGreatDoor
open Go.RowKit

/-- The first error of some. -/
def firstOf : List Int → Int
  | [] => 0
  | e :: l => if e ≠ 0 then e else firstOf l
theorem firstOf_cons0 (l : List Int) : firstOf (0 :: l) = firstOf l := by simp [firstOf]
theorem firstOf_cons {e : Int} (h : e ≠ 0) (l : List Int) : firstOf (e :: l) = e := by simp [firstOf, h]

/-- The parts of the check. -/
def partsA : Array Value := #[.func (.func 184) #[] #[], .func (.func 185) #[] #[], .func (.func 188) #[] #[], .func (.func 190) #[] #[], .func (.func 192) #[] #[], .func (.func 193) #[] #[], .func (.func 195) #[] #[]]

set_option maxHeartbeats 1000000 in
set_option maxRecDepth 100000 in
theorem parts_any (w : World) : Calls Tryz.prog 82 #[] w fun e w' => ∃ g, e = .returned (.slice (some ⟨g, 0, none⟩) 7 7) ∧ RowAt w' g 166 partsA ∧ Below w.heap.size w w' := by
  go_enter Tryz.func82, Tryz.ntmps82
  go_wp2
  go_ret
  exact ⟨_, rfl, RowAt.new _ _ _, by (repeat' (first | (with_reducible exact Below.refl _ _) | (with_reducible assumption) | (with_reducible refine below_run ?_ (by assumption)) | (with_reducible refine below_of_upd ?_ (by assumption) ?_) | (with_reducible refine below_drewN ?_ _) | (with_reducible refine Below.drew ?_) | (with_reducible refine below_seven ?_ ?_) | (with_reducible refine below_six ?_ ?_) | (with_reducible refine below_one ?_ ?_) | (with_reducible refine Below.alloc ?_ ?_ _) | (with_reducible refine below_after ?_ ?_ (by assumption)) | (show _ ≤ _; first | omega | (simp; done) | (simp; omega))))⟩

/-- A part says an error. -/
def PartE (K : Nat) (a : Array Value) (w : World) (x : Int) : Prop := ∀ W, Below w.heap.size w W → Calls Tryz.prog K #[.agg a] W fun e w' => e = .returned (.int .i64 x) ∧ Below W.heap.size W w'

def partF : Nat → Nat
  | 0 => 184
  | 1 => 185
  | 2 => 188
  | 3 => 190
  | 4 => 192
  | 5 => 193
  | _ => 195

theorem part_at (k : Nat) (h : k < 7) : partsA[k]? = some (.func (.func (partF k)) #[] #[]) := by
  have : k = 0 ∨ k = 1 ∨ k = 2 ∨ k = 3 ∨ k = 4 ∨ k = 5 ∨ k = 6 := by omega
  rcases this with rfl | rfl | rfl | rfl | rfl | rfl | rfl <;> rfl
theorem part_enters0 : ∀ args W, (callFunc 184 args).run Tryz.prog W = .ok (.enter 184 args) W := enters_of Tryz.func184 (by kernel_rfl) rfl
theorem part_enters1 : ∀ args W, (callFunc 185 args).run Tryz.prog W = .ok (.enter 185 args) W := enters_of Tryz.func185 (by kernel_rfl) rfl
theorem part_enters2 : ∀ args W, (callFunc 188 args).run Tryz.prog W = .ok (.enter 188 args) W := enters_of Tryz.func188 (by kernel_rfl) rfl
theorem part_enters3 : ∀ args W, (callFunc 190 args).run Tryz.prog W = .ok (.enter 190 args) W := enters_of Tryz.func190 (by kernel_rfl) rfl
theorem part_enters4 : ∀ args W, (callFunc 192 args).run Tryz.prog W = .ok (.enter 192 args) W := enters_of Tryz.func192 (by kernel_rfl) rfl
theorem part_enters5 : ∀ args W, (callFunc 193 args).run Tryz.prog W = .ok (.enter 193 args) W := enters_of Tryz.func193 (by kernel_rfl) rfl
theorem part_enters6 : ∀ args W, (callFunc 195 args).run Tryz.prog W = .ok (.enter 195 args) W := enters_of Tryz.func195 (by kernel_rfl) rfl
theorem part_enters (k : Nat) (h : k < 7) : ∀ args W, (callFunc (partF k) args).run Tryz.prog W = .ok (.enter (partF k) args) W := by
  have : k = 0 ∨ k = 1 ∨ k = 2 ∨ k = 3 ∨ k = 4 ∨ k = 5 ∨ k = 6 := by omega
  rcases this with rfl | rfl | rfl | rfl | rfl | rfl | rfl
  · exact part_enters0
  · exact part_enters1
  · exact part_enters2
  · exact part_enters3
  · exact part_enters4
  · exact part_enters5
  · exact part_enters6
theorem firstOf_at (E : Nat → Int) (k : Nat) (hk : k < 7) (h0 : ∀ j, j < k → E j = 0) (h1 : E k ≠ 0) : firstOf [E 0, E 1, E 2, E 3, E 4, E 5, E 6] = E k := by
  have : k = 0 ∨ k = 1 ∨ k = 2 ∨ k = 3 ∨ k = 4 ∨ k = 5 ∨ k = 6 := by omega
  rcases this with rfl | rfl | rfl | rfl | rfl | rfl | rfl <;> simp [firstOf, h1, h0]

set_option maxHeartbeats 4000000 in
set_option maxRecDepth 100000 in
theorem scheck_any (t : ByteArray) (v1 v2 v3 v4 v5 v6 v7 v8 : Value) (E : Nat → Int) (w : World)
    (H : ∀ k, k < 7 → PartE (partF k) #[.string t, v1, v2, v3, v4, v5, v6, v7, v8] w (E k)) :
    Calls Tryz.prog 43 #[.agg #[.string t, v1, v2, v3, v4, v5, v6, v7, v8]] w fun e w' => e = .returned (.int .i64 (firstOf [E 0, E 1, E 2, E 3, E 4, E 5, E 6])) ∧ Below w.heap.size w w' := by
  have hst : ∀ (W : World) (a : Addr) (fn : Fn) (x y : Array Value), (store a (.func fn x y)).run Tryz.prog W = stored Tryz.prog W a (.func fn x y) .plain := fun W a fn x y => run_store Tryz.prog W a _ .plain rfl
  have HP := Lib.hid H
  clear H
  go_enter Tryz.func43, Tryz.ntmps43
  go_wp2_with fail
  have s0 : RowAt (w.alloc (.cells #[.string t, v1, v2, v3, v4, v5, v6, v7, v8] 31)) w.heap.size 31 #[.string t, v1, v2, v3, v4, v5, v6, v7, v8] := RowAt.new _ _ _
  have b0 : Below w.heap.size w (w.alloc (.cells #[.string t, v1, v2, v3, v4, v5, v6, v7, v8] 31)) := by (repeat' (first | (with_reducible exact Below.refl _ _) | (with_reducible assumption) | (with_reducible refine below_run ?_ (by assumption)) | (with_reducible refine below_of_upd ?_ (by assumption) ?_) | (with_reducible refine below_drewN ?_ _) | (with_reducible refine Below.drew ?_) | (with_reducible refine below_seven ?_ ?_) | (with_reducible refine below_six ?_ ?_) | (with_reducible refine below_one ?_ ?_) | (with_reducible refine Below.alloc ?_ ?_ _) | (with_reducible refine below_after ?_ ?_ (by assumption)) | (show _ ≤ _; first | omega | (simp; done) | (simp; omega))))
  have H0 := Lib.hid (And.intro s0 b0)
  clear s0 b0
  refine (parts_any _).mono ?_
  rintro e w1 ⟨g, rfl, hg, hb1⟩
  have H1 := Lib.hid (And.intro (H0.out.1.run hb1) (And.intro hg (H0.out.2.trans (hb1.mono H0.out.2.size))))
  clear hg hb1
  go_wp2
  go_loopw [8] (fun i wr => ∃ k : Nat, k ≤ 7 ∧ i = .int .i64 k ∧ Hid ((∀ j, j < k → E j = 0) ∧ RowAt wr w.heap.size 31 #[.string t, v1, v2, v3, v4, v5, v6, v7, v8] ∧ RowAt wr g 166 partsA ∧ Below w.heap.size w wr)) (fun i _ => 7 - (intOf i).toNat)
  case atStart => exact ⟨0, Nat.zero_le _, rfl, Lib.hid ⟨fun j hj => absurd hj (by omega), H1.out⟩⟩
  case round =>
    obtain ⟨k, hk, rfl, hh⟩ := hrel
    obtain ⟨hz, hs, hg, hb⟩ := hh.out
    by_cases hlt : k < 7
    · have hlt3 : (k : Int) < 7 := by omega
      obtain ⟨x, hx⟩ : ∃ x, E k = x := ⟨_, rfl⟩
      have P := Lib.hid (fun (W : World) (hW : Below w.heap.size w W) => hx ▸ HP.out k hlt W hW)
      have HH := Lib.hid (And.intro hs (And.intro hg hb))
      have HZ := Lib.hid (And.intro hz hx)
      have HK := Lib.hid (firstOf_at E k hlt hz)
      have he := part_enters k hlt
      obtain ⟨x1, x2, x3, x4, x5, x6⟩ := row_facts hs
      obtain ⟨y1, y2, y3, y4, y5, y6⟩ := row_facts hg
      have yk := y1 k
      rw [part_at k hlt] at yk
      have hbs := hb.size
      generalize partF k = K at he yk P
      clear y1 hz hx hs hg hb hh
      by_cases hx0 : x = 0
      · subst hx0
        go_wp2_with fail
        refine (P.out _ (HH.out.2.2.alloc hbs _)).mono ?_
        rintro e w2 ⟨rfl, hb2⟩
        have hb3 : Below wr.heap.size wr w2 := by (repeat' (first | (with_reducible exact Below.refl _ _) | (with_reducible assumption) | (with_reducible refine below_run ?_ (by assumption)) | (with_reducible refine below_of_upd ?_ (by assumption) ?_) | (with_reducible refine below_drewN ?_ _) | (with_reducible refine Below.drew ?_) | (with_reducible refine below_seven ?_ ?_) | (with_reducible refine below_six ?_ ?_) | (with_reducible refine below_one ?_ ?_) | (with_reducible refine Below.alloc ?_ ?_ _) | (with_reducible refine below_after ?_ ?_ (by assumption)) | (show _ ≤ _; first | omega | (simp; done) | (simp; omega))))
        have H3 := Lib.hid (And.intro (HH.out.1.run hb3) (And.intro (HH.out.2.1.run hb3) (HH.out.2.2.trans (hb3.mono hbs))))
        clear hb2 hb3
        go_wp2
        go_roundw
        case rel =>
          refine ⟨k + 1, by omega, by go_num, Lib.hid ⟨fun j hj => ?_, H3.out⟩⟩
          by_cases hjk : j = k
          · subst hjk; exact HZ.out.2
          · exact HZ.out.1 j (by omega)
        case measure => simp [intOf]; omega
      · have hx1 : (x == 0) = false := by simpa using hx0
        go_wp2_with fail
        refine (P.out _ (HH.out.2.2.alloc hbs _)).mono ?_
        rintro e w2 ⟨rfl, hb2⟩
        have hb3 : Below wr.heap.size wr w2 := by (repeat' (first | (with_reducible exact Below.refl _ _) | (with_reducible assumption) | (with_reducible refine below_run ?_ (by assumption)) | (with_reducible refine below_of_upd ?_ (by assumption) ?_) | (with_reducible refine below_drewN ?_ _) | (with_reducible refine Below.drew ?_) | (with_reducible refine below_seven ?_ ?_) | (with_reducible refine below_six ?_ ?_) | (with_reducible refine below_one ?_ ?_) | (with_reducible refine Below.alloc ?_ ?_ _) | (with_reducible refine below_after ?_ ?_ (by assumption)) | (show _ ≤ _; first | omega | (simp; done) | (simp; omega))))
        go_wp2
        go_ret
        exact ⟨ret_int (by rw [HK.out (by rw [HZ.out.2]; exact hx0), HZ.out.2]), HH.out.2.2.trans (hb3.mono hbs)⟩
    · obtain rfl : k = 7 := by omega
      go_wp2
      go_ret
      refine ⟨?_, hb⟩
      simp [firstOf, hz]

end Go.Proofs.YtjeigphhepngmaaGreatDoor

namespace Go.Proofs.YtjeigphhepngmaaGreatDoor
open Go.RowKit

set_option maxHeartbeats 1000000 in
set_option maxRecDepth 100000 in
theorem title_any (s : ByteArray) (v1 v2 v3 v4 v5 v6 v7 v8 : Value) (w : World) (hs : s.size ≤ 9223372036854775807) :
    Calls Tryz.prog 184 #[.agg #[.string s, v1, v2, v3, v4, v5, v6, v7, v8]] w fun e w' => e = .returned (.int .i64 (labE s)) ∧ Below w.heap.size w w' := by
  by_cases h : 24 < s.size
  · have h2 : (24 : Int) < (s.size : Int) := by omega
    rw [labE, if_pos h]
    go_enter Tryz.func184, Tryz.ntmps184
    go_wp2
    go_ret
    exact ⟨rfl, by (repeat' (first | (with_reducible exact Below.refl _ _) | (with_reducible assumption) | (with_reducible refine below_run ?_ (by assumption)) | (with_reducible refine below_of_upd ?_ (by assumption) ?_) | (with_reducible refine below_drewN ?_ _) | (with_reducible refine Below.drew ?_) | (with_reducible refine below_seven ?_ ?_) | (with_reducible refine below_six ?_ ?_) | (with_reducible refine below_one ?_ ?_) | (with_reducible refine Below.alloc ?_ ?_ _) | (with_reducible refine below_after ?_ ?_ (by assumption)) | (show _ ≤ _; first | omega | (simp; done) | (simp; omega))))⟩
  · have h2 : ¬ (24 : Int) < (s.size : Int) := by omega
    have h3 : (s.size : Int) ≤ 24 := by omega
    obtain ⟨W1, cap, hc1, hcel, hb, hlt⟩ := conv_bytes s (w.alloc (.cells #[.string s, v1, v2, v3, v4, v5, v6, v7, v8] 31))
    have HL := Lib.hid (show labE s = if s.data.toList.all okCh then 0 else 3 from by rw [labE, if_neg h])
    simp only [show (w.alloc (.cells #[.string s, v1, v2, v3, v4, v5, v6, v7, v8] 31)).heap.size = w.heap.size + 1 from by simp] at hcel hc1
    have HC := Lib.hid hcel
    have HB := Lib.hid (show Below w.heap.size w W1 from by (repeat' (first | (with_reducible exact Below.refl _ _) | (with_reducible assumption) | (with_reducible refine below_run ?_ (by assumption)) | (with_reducible refine below_of_upd ?_ (by assumption) ?_) | (with_reducible refine below_drewN ?_ _) | (with_reducible refine Below.drew ?_) | (with_reducible refine below_seven ?_ ?_) | (with_reducible refine below_six ?_ ?_) | (with_reducible refine below_one ?_ ?_) | (with_reducible refine Below.alloc ?_ ?_ _) | (with_reducible refine below_after ?_ ?_ (by assumption)) | (show _ ≤ _; first | omega | (simp; done) | (simp; omega)))))
    clear hcel hb
    go_enter Tryz.func184, Tryz.ntmps184
    go_wp2
    go_loopw [4, 13] (fun _ i wr => ∃ k : Nat, k ≤ s.size ∧ i = .int .i64 k ∧ Hid ((s.data.toList.take k).all okCh = true) ∧ wr = W1) (fun _ i _ => s.size - (intOf i).toNat)
    case atStart => exact ⟨0, Nat.zero_le _, rfl, by simp [Hid], rfl⟩
    case round =>
      obtain ⟨k, hk, rfl, hf, rfl⟩ := hrel
      by_cases hlt2 : k < s.size
      · have hlt3 : (k : Int) < (s.size : Int) := by omega
        obtain ⟨c0, -⟩ := HC.out k hlt2
        rw [byte_at s k hlt2] at c0
        obtain ⟨x, hx⟩ : ∃ x, s[k] = x := ⟨_, rfl⟩
        rw [hx] at c0
        have HX := Lib.hid hx
        clear hx hc1
        obtain ⟨y, hy⟩ : ∃ y : Int, (x.toNat : Int) = y := ⟨_, rfl⟩
        rw [hy] at c0
        have HY := Lib.hid hy
        clear hy
        by_cases hq : okCh x = true
        · have q1 : ¬ y < 32 := by have := HY.out; simp [okCh] at hq; omega
          have q2 : ¬ 126 < y := by have := HY.out; simp [okCh] at hq; omega
          have q3 : (y == 34) = false := by have := HY.out; simp [okCh] at hq; simp; omega
          have HQ := Lib.hid hq
          clear hq
          go_wp2
          go_roundw
          case rel => exact ⟨k + 1, by omega, by go_num, okTo_succ hlt2 hf.out (by rw [HX.out]; exact HQ.out), (by first | rfl | trivial)⟩
          case measure => simp [intOf]; omega
        · have hq2 : okCh x = false := by simpa using hq
          have q1 : y < 32 ∨ 126 < y ∨ y = 34 := by have := HY.out; simp [okCh] at hq2; omega
          have HQ := Lib.hid hq2
          clear hq hq2
          by_cases r1 : y < 32
          · go_wp2
            go_ret
            exact ⟨ret_int (by rw [HL.out, okTo_bad hlt2 (by rw [HX.out]; exact HQ.out)]; rfl), HB.out⟩
          · by_cases r2 : 126 < y
            · go_wp2
              go_ret
              exact ⟨ret_int (by rw [HL.out, okTo_bad hlt2 (by rw [HX.out]; exact HQ.out)]; rfl), HB.out⟩
            · obtain rfl : y = 34 := by omega
              go_wp2
              go_ret
              exact ⟨ret_int (by rw [HL.out, okTo_bad hlt2 (by rw [HX.out]; exact HQ.out)]; rfl), HB.out⟩
      · obtain rfl : k = s.size := by omega
        go_wp2
        go_ret
        exact ⟨ret_int (by rw [HL.out, okTo_all hf.out]; rfl), HB.out⟩

end Go.Proofs.YtjeigphhepngmaaGreatDoor

namespace Go.Proofs.YtjeigphhepngmaaGreatDoor
open Go.RowKit

set_option maxHeartbeats 1000000 in
set_option maxRecDepth 100000 in
theorem z_group (w : World) : Calls Tryz.prog 189 #[.slice none 0 0] w fun e w' => e = .returned (.int .i64 0) ∧ Below w.heap.size w w' := by
  go_enter Tryz.func189, Tryz.ntmps189
  go_wp2
  go_loopw [11] (fun i wr => i = .int .i64 0 ∧ Below w.heap.size w wr) (fun _ _ => 0)
  case atStart => exact ⟨rfl, by (repeat' (first | (with_reducible exact Below.refl _ _) | (with_reducible assumption) | (with_reducible refine below_run ?_ (by assumption)) | (with_reducible refine below_of_upd ?_ (by assumption) ?_) | (with_reducible refine below_drewN ?_ _) | (with_reducible refine Below.drew ?_) | (with_reducible refine below_seven ?_ ?_) | (with_reducible refine below_six ?_ ?_) | (with_reducible refine below_one ?_ ?_) | (with_reducible refine Below.alloc ?_ ?_ _) | (with_reducible refine below_after ?_ ?_ (by assumption)) | (show _ ≤ _; first | omega | (simp; done) | (simp; omega))))⟩
  case round =>
    obtain ⟨rfl, hb⟩ := hrel
    go_wp2
    go_ret
    exact ⟨rfl, by (repeat' (first | (with_reducible exact Below.refl _ _) | (with_reducible assumption) | (with_reducible refine below_run ?_ (by assumption)) | (with_reducible refine below_of_upd ?_ (by assumption) ?_) | (with_reducible refine below_drewN ?_ _) | (with_reducible refine Below.drew ?_) | (with_reducible refine below_seven ?_ ?_) | (with_reducible refine below_six ?_ ?_) | (with_reducible refine below_one ?_ ?_) | (with_reducible refine Below.alloc ?_ ?_ _) | (with_reducible refine below_after ?_ ?_ (by assumption)) | (show _ ≤ _; first | omega | (simp; done) | (simp; omega))))⟩

set_option maxHeartbeats 1000000 in
set_option maxRecDepth 100000 in
theorem z_palette (w : World) : Calls Tryz.prog 191 #[.slice none 0 0] w fun e w' => e = .returned (.int .i64 0) ∧ Below w.heap.size w w' := by
  go_enter Tryz.func191, Tryz.ntmps191
  go_wp2
  go_loopw [11] (fun i wr => i = .int .i64 0 ∧ Below w.heap.size w wr) (fun _ _ => 0)
  case atStart => exact ⟨rfl, by (repeat' (first | (with_reducible exact Below.refl _ _) | (with_reducible assumption) | (with_reducible refine below_run ?_ (by assumption)) | (with_reducible refine below_of_upd ?_ (by assumption) ?_) | (with_reducible refine below_drewN ?_ _) | (with_reducible refine Below.drew ?_) | (with_reducible refine below_seven ?_ ?_) | (with_reducible refine below_six ?_ ?_) | (with_reducible refine below_one ?_ ?_) | (with_reducible refine Below.alloc ?_ ?_ _) | (with_reducible refine below_after ?_ ?_ (by assumption)) | (show _ ≤ _; first | omega | (simp; done) | (simp; omega))))⟩
  case round =>
    obtain ⟨rfl, hb⟩ := hrel
    go_wp2
    go_ret
    exact ⟨rfl, by (repeat' (first | (with_reducible exact Below.refl _ _) | (with_reducible assumption) | (with_reducible refine below_run ?_ (by assumption)) | (with_reducible refine below_of_upd ?_ (by assumption) ?_) | (with_reducible refine below_drewN ?_ _) | (with_reducible refine Below.drew ?_) | (with_reducible refine below_seven ?_ ?_) | (with_reducible refine below_six ?_ ?_) | (with_reducible refine below_one ?_ ?_) | (with_reducible refine Below.alloc ?_ ?_ _) | (with_reducible refine below_after ?_ ?_ (by assumption)) | (show _ ≤ _; first | omega | (simp; done) | (simp; omega))))⟩

set_option maxHeartbeats 1000000 in
set_option maxRecDepth 100000 in
theorem z_subs (w : World) : Calls Tryz.prog 194 #[.slice none 0 0] w fun e w' => e = .returned (.int .i64 0) ∧ Below w.heap.size w w' := by
  go_enter Tryz.func194, Tryz.ntmps194
  go_wp2
  go_loopw [12] (fun i wr => i = .int .i64 0 ∧ Below w.heap.size w wr) (fun _ _ => 0)
  case atStart => exact ⟨rfl, by (repeat' (first | (with_reducible exact Below.refl _ _) | (with_reducible assumption) | (with_reducible refine below_run ?_ (by assumption)) | (with_reducible refine below_of_upd ?_ (by assumption) ?_) | (with_reducible refine below_drewN ?_ _) | (with_reducible refine Below.drew ?_) | (with_reducible refine below_seven ?_ ?_) | (with_reducible refine below_six ?_ ?_) | (with_reducible refine below_one ?_ ?_) | (with_reducible refine Below.alloc ?_ ?_ _) | (with_reducible refine below_after ?_ ?_ (by assumption)) | (show _ ≤ _; first | omega | (simp; done) | (simp; omega))))⟩
  case round =>
    obtain ⟨rfl, hb⟩ := hrel
    go_wp2
    go_ret
    exact ⟨rfl, by (repeat' (first | (with_reducible exact Below.refl _ _) | (with_reducible assumption) | (with_reducible refine below_run ?_ (by assumption)) | (with_reducible refine below_of_upd ?_ (by assumption) ?_) | (with_reducible refine below_drewN ?_ _) | (with_reducible refine Below.drew ?_) | (with_reducible refine below_seven ?_ ?_) | (with_reducible refine below_six ?_ ?_) | (with_reducible refine below_one ?_ ?_) | (with_reducible refine Below.alloc ?_ ?_ _) | (with_reducible refine below_after ?_ ?_ (by assumption)) | (show _ ≤ _; first | omega | (simp; done) | (simp; omega))))⟩

set_option maxHeartbeats 1000000 in
set_option maxRecDepth 100000 in
theorem z_ordered (w : World) : Calls Tryz.prog 273 #[.slice none 0 0, .func (.func 274) #[] #[], .func (.func 275) #[] #[]] w fun e w' => e = .returned (.int .i64 0) ∧ Below w.heap.size w w' := by
  go_enter Tryz.func273, Tryz.ntmps273
  go_wp2
  go_loopw [15] (fun i wr => i = .int .i64 0 ∧ Below w.heap.size w wr) (fun _ _ => 0)
  case atStart => exact ⟨rfl, by (repeat' (first | (with_reducible exact Below.refl _ _) | (with_reducible assumption) | (with_reducible refine below_run ?_ (by assumption)) | (with_reducible refine below_of_upd ?_ (by assumption) ?_) | (with_reducible refine below_drewN ?_ _) | (with_reducible refine Below.drew ?_) | (with_reducible refine below_seven ?_ ?_) | (with_reducible refine below_six ?_ ?_) | (with_reducible refine below_one ?_ ?_) | (with_reducible refine Below.alloc ?_ ?_ _) | (with_reducible refine below_after ?_ ?_ (by assumption)) | (show _ ≤ _; first | omega | (simp; done) | (simp; omega))))⟩
  case round =>
    obtain ⟨rfl, hb⟩ := hrel
    go_wp2
    go_ret
    exact ⟨rfl, by (repeat' (first | (with_reducible exact Below.refl _ _) | (with_reducible assumption) | (with_reducible refine below_run ?_ (by assumption)) | (with_reducible refine below_of_upd ?_ (by assumption) ?_) | (with_reducible refine below_drewN ?_ _) | (with_reducible refine Below.drew ?_) | (with_reducible refine below_seven ?_ ?_) | (with_reducible refine below_six ?_ ?_) | (with_reducible refine below_one ?_ ?_) | (with_reducible refine Below.alloc ?_ ?_ _) | (with_reducible refine below_after ?_ ?_ (by assumption)) | (show _ ≤ _; first | omega | (simp; done) | (simp; omega))))⟩

set_option maxHeartbeats 1000000 in
set_option maxRecDepth 100000 in
theorem z_effects (w : World) : Calls Tryz.prog 196 #[.slice none 0 0] w fun e w' => e = .returned (.int .i64 0) ∧ Below w.heap.size w w' := by
  go_enter Tryz.func196, Tryz.ntmps196
  go_wp2_with fail
  refine (z_ordered _).mono ?_
  rintro e w1 ⟨rfl, hb⟩
  go_wp2
  go_ret
  exact ⟨rfl, by (repeat' (first | (with_reducible exact Below.refl _ _) | (with_reducible assumption) | (with_reducible refine below_run ?_ (by assumption)) | (with_reducible refine below_of_upd ?_ (by assumption) ?_) | (with_reducible refine below_drewN ?_ _) | (with_reducible refine Below.drew ?_) | (with_reducible refine below_seven ?_ ?_) | (with_reducible refine below_six ?_ ?_) | (with_reducible refine below_one ?_ ?_) | (with_reducible refine Below.alloc ?_ ?_ _) | (with_reducible refine below_after ?_ ?_ (by assumption)) | (show _ ≤ _; first | omega | (simp; done) | (simp; omega))))⟩

set_option maxHeartbeats 1000000 in
set_option maxRecDepth 100000 in
theorem z_lists (w : World) : Calls Tryz.prog 192 #[.agg #[.string ⟨#[]⟩, .slice none 0 0, .slice none 0 0, .slice none 0 0, .slice none 0 0, .slice none 0 0, .slice none 0 0, .slice none 0 0, .slice none 0 0]] w fun e w' => e = .returned (.int .i64 0) ∧ Below w.heap.size w w' := by
  go_enter Tryz.func192, Tryz.ntmps192
  go_wp2
  go_loopw [13] (fun i wr => i = .int .i64 0 ∧ Below w.heap.size w wr) (fun _ _ => 0)
  case atStart => exact ⟨rfl, by (repeat' (first | (with_reducible exact Below.refl _ _) | (with_reducible assumption) | (with_reducible refine below_run ?_ (by assumption)) | (with_reducible refine below_of_upd ?_ (by assumption) ?_) | (with_reducible refine below_drewN ?_ _) | (with_reducible refine Below.drew ?_) | (with_reducible refine below_seven ?_ ?_) | (with_reducible refine below_six ?_ ?_) | (with_reducible refine below_one ?_ ?_) | (with_reducible refine Below.alloc ?_ ?_ _) | (with_reducible refine below_after ?_ ?_ (by assumption)) | (show _ ≤ _; first | omega | (simp; done) | (simp; omega))))⟩
  case round =>
    obtain ⟨rfl, hb⟩ := hrel
    go_wp2
    go_ret
    exact ⟨rfl, by (repeat' (first | (with_reducible exact Below.refl _ _) | (with_reducible assumption) | (with_reducible refine below_run ?_ (by assumption)) | (with_reducible refine below_of_upd ?_ (by assumption) ?_) | (with_reducible refine below_drewN ?_ _) | (with_reducible refine Below.drew ?_) | (with_reducible refine below_seven ?_ ?_) | (with_reducible refine below_six ?_ ?_) | (with_reducible refine below_one ?_ ?_) | (with_reducible refine Below.alloc ?_ ?_ _) | (with_reducible refine below_after ?_ ?_ (by assumption)) | (show _ ≤ _; first | omega | (simp; done) | (simp; omega))))⟩

set_option maxHeartbeats 1000000 in
set_option maxRecDepth 100000 in
theorem z_rig (w : World) : Calls Tryz.prog 187 #[.agg #[.string ⟨#[]⟩, .slice none 0 0, .slice none 0 0, .slice none 0 0, .slice none 0 0, .slice none 0 0, .slice none 0 0, .slice none 0 0, .slice none 0 0]] w fun e w' => e = .returned (.agg #[.slice none 0 0, .slice none 0 0, .slice none 0 0]) ∧ Below w.heap.size w w' := by
  go_enter Tryz.func187, Tryz.ntmps187
  go_wp2
  refine bodyPost_ret (v := .agg #[.slice none 0 0, .slice none 0 0, .slice none 0 0]) ?_ rfl ⟨rfl, by (repeat' (first | (with_reducible exact Below.refl _ _) | (with_reducible assumption) | (with_reducible refine below_run ?_ (by assumption)) | (with_reducible refine below_of_upd ?_ (by assumption) ?_) | (with_reducible refine below_drewN ?_ _) | (with_reducible refine Below.drew ?_) | (with_reducible refine below_seven ?_ ?_) | (with_reducible refine below_six ?_ ?_) | (with_reducible refine below_one ?_ ?_) | (with_reducible refine Below.alloc ?_ ?_ _) | (with_reducible refine below_after ?_ ?_ (by assumption)) | (show _ ≤ _; first | omega | (simp; done) | (simp; omega))))⟩
  simp [results, Tryz.results187, go_sem]
set_option maxHeartbeats 1000000 in
set_option maxRecDepth 100000 in
theorem z_newRig (w : World) : Calls Tryz.prog 306 #[.slice none 0 0, .slice none 0 0] w fun e w' => ∃ g : Nat, e = .returned (.agg #[.slice none 0 0, .map (some g)]) ∧ Below w.heap.size w w' := by
  have hmm := @run_makeMap Tryz.prog
  go_enter Tryz.func306, Tryz.ntmps306
  go_wp2
  go_loopw [15] (fun i wr => i = .int .i64 0 ∧ RowAt wr w.heap.size 382 #[.slice none 0 0, .map none] ∧ RowAt wr (w.heap.size + 2) 382 #[.slice none 0 0, .map (some (w.heap.size + 1))] ∧ Below w.heap.size w wr) (fun _ _ => 0)
  case atStart =>
    refine ⟨rfl, RowAt.alloc (RowAt.alloc (RowAt.new _ _ _) _) _, ?_, by (repeat' (first | (with_reducible exact Below.refl _ _) | (with_reducible assumption) | (with_reducible refine below_run ?_ (by assumption)) | (with_reducible refine below_of_upd ?_ (by assumption) ?_) | (with_reducible refine below_drewN ?_ _) | (with_reducible refine Below.drew ?_) | (with_reducible refine below_seven ?_ ?_) | (with_reducible refine below_six ?_ ?_) | (with_reducible refine below_one ?_ ?_) | (with_reducible refine Below.alloc ?_ ?_ _) | (with_reducible refine below_after ?_ ?_ (by assumption)) | (show _ ≤ _; first | omega | (simp; done) | (simp; omega))))⟩
    exact RowAt.mk (by simp) rfl
  case round =>
    obtain ⟨rfl, hr1, hr2, hb⟩ := hrel
    obtain ⟨x1, x2, x3, x4, x5, x6⟩ := row_facts hr1
    obtain ⟨y1, y2, y3, y4, y5, y6⟩ := row_facts hr2
    go_wp2
    refine bodyPost_ret (v := .agg #[.slice none 0 0, .map (some (w.heap.size + 1))]) ?_ rfl ⟨_, rfl, by (repeat' (first | (with_reducible exact Below.refl _ _) | (with_reducible assumption) | (with_reducible refine below_run ?_ (by assumption)) | (with_reducible refine below_of_upd ?_ (by assumption) ?_) | (with_reducible refine below_drewN ?_ _) | (with_reducible refine Below.drew ?_) | (with_reducible refine below_seven ?_ ?_) | (with_reducible refine below_six ?_ ?_) | (with_reducible refine below_one ?_ ?_) | (with_reducible refine Below.alloc ?_ ?_ _) | (with_reducible refine below_after ?_ ?_ (by assumption)) | (show _ ≤ _; first | omega | (simp; done) | (simp; omega))))⟩
    simp [results, Tryz.results306, go_sem, *]
set_option maxHeartbeats 1000000 in
set_option maxRecDepth 100000 in
theorem z_patch (w : World) : Calls Tryz.prog 268 #[.slice none 0 0, .slice none 0 0] w fun e w' => e = .returned (.int .i64 0) ∧ Below w.heap.size w w' := by
  go_enter Tryz.func268, Tryz.ntmps268
  go_wp2_with fail
  refine (z_newRig _).mono ?_
  rintro e w1 ⟨g, rfl, hb⟩
  have hbs := hb.size
  go_wp2
  go_loopw [21] (fun i wr => i = .int .i64 0 ∧ Below w.heap.size w wr) (fun _ _ => 0)
  case atStart => exact ⟨rfl, by (repeat' (first | (with_reducible exact Below.refl _ _) | (with_reducible assumption) | (with_reducible refine below_run ?_ (by assumption)) | (with_reducible refine below_of_upd ?_ (by assumption) ?_) | (with_reducible refine below_drewN ?_ _) | (with_reducible refine Below.drew ?_) | (with_reducible refine below_seven ?_ ?_) | (with_reducible refine below_six ?_ ?_) | (with_reducible refine below_one ?_ ?_) | (with_reducible refine Below.alloc ?_ ?_ _) | (with_reducible refine below_after ?_ ?_ (by assumption)) | (show _ ≤ _; first | omega | (simp; done) | (simp; omega))))⟩
  case round =>
    obtain ⟨rfl, hb⟩ := hrel
    go_wp2
    go_ret
    exact ⟨rfl, by (repeat' (first | (with_reducible exact Below.refl _ _) | (with_reducible assumption) | (with_reducible refine below_run ?_ (by assumption)) | (with_reducible refine below_of_upd ?_ (by assumption) ?_) | (with_reducible refine below_drewN ?_ _) | (with_reducible refine Below.drew ?_) | (with_reducible refine below_seven ?_ ?_) | (with_reducible refine below_six ?_ ?_) | (with_reducible refine below_one ?_ ?_) | (with_reducible refine Below.alloc ?_ ?_ _) | (with_reducible refine below_after ?_ ?_ (by assumption)) | (show _ ≤ _; first | omega | (simp; done) | (simp; omega))))⟩

set_option maxHeartbeats 1000000 in
set_option maxRecDepth 100000 in
theorem z_universe (w : World) : Calls Tryz.prog 186 #[.agg #[.slice none 0 0, .slice none 0 0, .slice none 0 0]] w fun e w' => e = .returned (.int .i64 0) ∧ Below w.heap.size w w' := by
  have hmm := @run_makeMap Tryz.prog
  go_enter Tryz.func186, Tryz.ntmps186
  go_wp2
  go_loopw [17] (fun i wr => i = .int .i64 0 ∧ wr = w.alloc (.cells #[.slice none 0 0, .slice none 0 0, .slice none 0 0] 255)) (fun _ _ => 0)
  case atStart => exact ⟨rfl, rfl⟩
  case round =>
    obtain ⟨rfl, rfl⟩ := hrel
    go_wp2
    go_loopw [35] (fun i wr => i = .int .i64 0 ∧ RowAt wr w.heap.size 255 #[.slice none 0 0, .slice none 0 0, .slice none 0 0] ∧ Below w.heap.size w wr) (fun _ _ => 0)
    case atStart => exact ⟨rfl, RowAt.alloc (RowAt.new _ _ _) _, by (repeat' (first | (with_reducible exact Below.refl _ _) | (with_reducible assumption) | (with_reducible refine below_run ?_ (by assumption)) | (with_reducible refine below_of_upd ?_ (by assumption) ?_) | (with_reducible refine below_drewN ?_ _) | (with_reducible refine Below.drew ?_) | (with_reducible refine below_seven ?_ ?_) | (with_reducible refine below_six ?_ ?_) | (with_reducible refine below_one ?_ ?_) | (with_reducible refine Below.alloc ?_ ?_ _) | (with_reducible refine below_after ?_ ?_ (by assumption)) | (show _ ≤ _; first | omega | (simp; done) | (simp; omega))))⟩
    case round =>
      obtain ⟨rfl, hr, hb⟩ := hrel
      obtain ⟨x1, x2, x3, x4, x5, x6⟩ := row_facts hr
      go_wp2_with fail
      refine (z_patch _).mono ?_
      rintro e w1 ⟨rfl, hb1⟩
      go_wp2
      go_ret
      exact ⟨rfl, by (repeat' (first | (with_reducible exact Below.refl _ _) | (with_reducible assumption) | (with_reducible refine below_run ?_ (by assumption)) | (with_reducible refine below_of_upd ?_ (by assumption) ?_) | (with_reducible refine below_drewN ?_ _) | (with_reducible refine Below.drew ?_) | (with_reducible refine below_seven ?_ ?_) | (with_reducible refine below_six ?_ ?_) | (with_reducible refine below_one ?_ ?_) | (with_reducible refine Below.alloc ?_ ?_ _) | (with_reducible refine below_after ?_ ?_ (by assumption)) | (show _ ≤ _; first | omega | (simp; done) | (simp; omega))))⟩

set_option maxHeartbeats 1000000 in
set_option maxRecDepth 100000 in
theorem z_part1 (w : World) : Calls Tryz.prog 185 #[.agg #[.string ⟨#[]⟩, .slice none 0 0, .slice none 0 0, .slice none 0 0, .slice none 0 0, .slice none 0 0, .slice none 0 0, .slice none 0 0, .slice none 0 0]] w fun e w' => e = .returned (.int .i64 0) ∧ Below w.heap.size w w' := by
  go_enter Tryz.func185, Tryz.ntmps185
  go_wp2_with fail
  refine (z_rig _).mono ?_
  rintro e w1 ⟨rfl, hb⟩
  go_wp2_with fail
  refine (z_universe _).mono ?_
  rintro e w2 ⟨rfl, hb2⟩
  go_wp2
  go_ret
  exact ⟨rfl, by (repeat' (first | (with_reducible exact Below.refl _ _) | (with_reducible assumption) | (with_reducible refine below_run ?_ (by assumption)) | (with_reducible refine below_of_upd ?_ (by assumption) ?_) | (with_reducible refine below_drewN ?_ _) | (with_reducible refine Below.drew ?_) | (with_reducible refine below_seven ?_ ?_) | (with_reducible refine below_six ?_ ?_) | (with_reducible refine below_one ?_ ?_) | (with_reducible refine Below.alloc ?_ ?_ _) | (with_reducible refine below_after ?_ ?_ (by assumption)) | (show _ ≤ _; first | omega | (simp; done) | (simp; omega))))⟩

set_option maxHeartbeats 1000000 in
set_option maxRecDepth 100000 in
theorem z_part2 (w : World) : Calls Tryz.prog 188 #[.agg #[.string ⟨#[]⟩, .slice none 0 0, .slice none 0 0, .slice none 0 0, .slice none 0 0, .slice none 0 0, .slice none 0 0, .slice none 0 0, .slice none 0 0]] w fun e w' => e = .returned (.int .i64 0) ∧ Below w.heap.size w w' := by
  go_enter Tryz.func188, Tryz.ntmps188
  go_wp2_with fail
  refine (z_group _).mono ?_
  rintro e w1 ⟨rfl, hb⟩
  go_wp2
  go_ret
  exact ⟨rfl, by (repeat' (first | (with_reducible exact Below.refl _ _) | (with_reducible assumption) | (with_reducible refine below_run ?_ (by assumption)) | (with_reducible refine below_of_upd ?_ (by assumption) ?_) | (with_reducible refine below_drewN ?_ _) | (with_reducible refine Below.drew ?_) | (with_reducible refine below_seven ?_ ?_) | (with_reducible refine below_six ?_ ?_) | (with_reducible refine below_one ?_ ?_) | (with_reducible refine Below.alloc ?_ ?_ _) | (with_reducible refine below_after ?_ ?_ (by assumption)) | (show _ ≤ _; first | omega | (simp; done) | (simp; omega))))⟩

set_option maxHeartbeats 1000000 in
set_option maxRecDepth 100000 in
theorem z_part3 (w : World) : Calls Tryz.prog 190 #[.agg #[.string ⟨#[]⟩, .slice none 0 0, .slice none 0 0, .slice none 0 0, .slice none 0 0, .slice none 0 0, .slice none 0 0, .slice none 0 0, .slice none 0 0]] w fun e w' => e = .returned (.int .i64 0) ∧ Below w.heap.size w w' := by
  go_enter Tryz.func190, Tryz.ntmps190
  go_wp2_with fail
  refine (z_palette _).mono ?_
  rintro e w1 ⟨rfl, hb⟩
  go_wp2
  go_ret
  exact ⟨rfl, by (repeat' (first | (with_reducible exact Below.refl _ _) | (with_reducible assumption) | (with_reducible refine below_run ?_ (by assumption)) | (with_reducible refine below_of_upd ?_ (by assumption) ?_) | (with_reducible refine below_drewN ?_ _) | (with_reducible refine Below.drew ?_) | (with_reducible refine below_seven ?_ ?_) | (with_reducible refine below_six ?_ ?_) | (with_reducible refine below_one ?_ ?_) | (with_reducible refine Below.alloc ?_ ?_ _) | (with_reducible refine below_after ?_ ?_ (by assumption)) | (show _ ≤ _; first | omega | (simp; done) | (simp; omega))))⟩

set_option maxHeartbeats 1000000 in
set_option maxRecDepth 100000 in
theorem z_part4 (w : World) : Calls Tryz.prog 193 #[.agg #[.string ⟨#[]⟩, .slice none 0 0, .slice none 0 0, .slice none 0 0, .slice none 0 0, .slice none 0 0, .slice none 0 0, .slice none 0 0, .slice none 0 0]] w fun e w' => e = .returned (.int .i64 0) ∧ Below w.heap.size w w' := by
  go_enter Tryz.func193, Tryz.ntmps193
  go_wp2_with fail
  refine (z_subs _).mono ?_
  rintro e w1 ⟨rfl, hb⟩
  go_wp2
  go_ret
  exact ⟨rfl, by (repeat' (first | (with_reducible exact Below.refl _ _) | (with_reducible assumption) | (with_reducible refine below_run ?_ (by assumption)) | (with_reducible refine below_of_upd ?_ (by assumption) ?_) | (with_reducible refine below_drewN ?_ _) | (with_reducible refine Below.drew ?_) | (with_reducible refine below_seven ?_ ?_) | (with_reducible refine below_six ?_ ?_) | (with_reducible refine below_one ?_ ?_) | (with_reducible refine Below.alloc ?_ ?_ _) | (with_reducible refine below_after ?_ ?_ (by assumption)) | (show _ ≤ _; first | omega | (simp; done) | (simp; omega))))⟩

set_option maxHeartbeats 1000000 in
set_option maxRecDepth 100000 in
theorem z_part5 (w : World) : Calls Tryz.prog 195 #[.agg #[.string ⟨#[]⟩, .slice none 0 0, .slice none 0 0, .slice none 0 0, .slice none 0 0, .slice none 0 0, .slice none 0 0, .slice none 0 0, .slice none 0 0]] w fun e w' => e = .returned (.int .i64 0) ∧ Below w.heap.size w w' := by
  go_enter Tryz.func195, Tryz.ntmps195
  go_wp2_with fail
  refine (z_effects _).mono ?_
  rintro e w1 ⟨rfl, hb⟩
  go_wp2
  go_ret
  exact ⟨rfl, by (repeat' (first | (with_reducible exact Below.refl _ _) | (with_reducible assumption) | (with_reducible refine below_run ?_ (by assumption)) | (with_reducible refine below_of_upd ?_ (by assumption) ?_) | (with_reducible refine below_drewN ?_ _) | (with_reducible refine Below.drew ?_) | (with_reducible refine below_seven ?_ ?_) | (with_reducible refine below_six ?_ ?_) | (with_reducible refine below_one ?_ ?_) | (with_reducible refine Below.alloc ?_ ?_ _) | (with_reducible refine below_after ?_ ?_ (by assumption)) | (show _ ≤ _; first | omega | (simp; done) | (simp; omega))))⟩

theorem check_ex (w : World) : Calls Tryz.prog 43 #[.agg #[.string ⟨#[]⟩, .slice none 0 0, .slice none 0 0, .slice none 0 0, .slice none 0 0, .slice none 0 0, .slice none 0 0, .slice none 0 0, .slice none 0 0]] w fun e w' => e = .returned (.int .i64 0) ∧ Below w.heap.size w w' := by
  refine (scheck_any ⟨#[]⟩ _ _ _ _ _ _ _ _ (fun _ => 0) w fun k hk => ?_).mono fun e w' h => ⟨h.1, h.2⟩
  have : k = 0 ∨ k = 1 ∨ k = 2 ∨ k = 3 ∨ k = 4 ∨ k = 5 ∨ k = 6 := by omega
  rcases this with rfl | rfl | rfl | rfl | rfl | rfl | rfl
  · exact fun W _ => title_any ⟨#[]⟩ _ _ _ _ _ _ _ _ W (by decide)
  · exact fun W _ => z_part1 W
  · exact fun W _ => z_part2 W
  · exact fun W _ => z_part3 W
  · exact fun W _ => z_lists W
  · exact fun W _ => z_part4 W
  · exact fun W _ => z_part5 W

end Go.Proofs.YtjeigphhepngmaaGreatDoor
