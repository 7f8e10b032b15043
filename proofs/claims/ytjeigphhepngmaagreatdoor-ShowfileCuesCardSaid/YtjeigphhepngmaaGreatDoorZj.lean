/-
  The reference's comparing of cues: equal cues are the same; what is small.
-/
import Derived.Laws.StructEq
import Derived.Test.YtjeigphhepngmaaGreatDoorZi
namespace Go.Proofs.YtjeigphhepngmaaGreatDoor
open Go.RowKit

set_option maxHeartbeats 1000000 in
set_option maxRecDepth 100000 in
theorem samemoves_any (v u : Value) (l : List Mv) (w : World) (hv : ListAt 5 mvA w v l) (hu : ListAt 5 mvA w u l) :
    Calls Tryz.prog 78 #[v, u] w fun e w' => e = .returned (.bool true) ∧ Below w.heap.size w w' := by
  rcases hv with ⟨h0, a, cap, rfl⟩ | ⟨h0, h1, b, off, cap, rfl, hlt, hc⟩
  · have hl : l = [] := List.eq_nil_of_length_eq_zero h0
    subst hl
    rcases hu with ⟨_, a', cap', rfl⟩ | ⟨g0, _⟩
    · go_enter Tryz.func78, Tryz.ntmps78
      go_wp2
      refine wp_loop_rounds 1 ?_
      rw [rounds_succ]
      go_wp2
      go_ret
      exact ⟨rfl, by (repeat' (first | (with_reducible exact Below.refl _ _) | (with_reducible assumption) | (with_reducible refine below_run ?_ (by assumption)) | (with_reducible refine below_of_upd ?_ (by assumption) ?_) | (with_reducible refine below_drewN ?_ _) | (with_reducible refine Below.drew ?_) | (with_reducible refine below_seven ?_ ?_) | (with_reducible refine below_six ?_ ?_) | (with_reducible refine below_one ?_ ?_) | (with_reducible refine Below.alloc ?_ ?_ _) | (with_reducible refine below_after ?_ ?_ (by assumption)) | (show _ ≤ _; first | omega | (simp; done) | (simp; omega))))⟩
    · simp at g0
  · rcases hu with ⟨g0, _⟩ | ⟨_, _, b', off', cap', rfl, hlt', hc'⟩
    · omega
    · have h3 : (l.length : Int) ≤ 140737488351232 := by omega
      have h4 : (0 : Int) < (l.length : Int) := by omega
      have h5 : ((l.length : Int) != (l.length : Int)) = false := by simp
      go_enter Tryz.func78, Tryz.ntmps78
      go_wp2
      go_loopw [5] (fun i wr => ∃ k : Nat, k ≤ l.length ∧ i = .int .i64 k ∧ Below w.heap.size w wr) (fun i _ => l.length - (intOf i).toNat)
      case atStart => exact ⟨0, Nat.zero_le _, rfl, Below.refl _ _⟩
      case round =>
        obtain ⟨k, hk, rfl, hb0⟩ := hrel
        by_cases hlt2 : k < l.length
        · have hlt3 : (k : Int) < (l.length : Int) := by omega
          have hk0 : (0 : Int) ≤ (k : Int) := by omega
          have hw1 : ∀ j, j < l.length * 5 → wr.cell? ⟨b, off + j, none⟩ = genC 5 mvA l j := fun j hj => (hb0.cell (p := ⟨b, off + j, none⟩) hlt).trans (hc j hj)
          have hw2 : ∀ j, j < l.length * 5 → wr.cell? ⟨b', off' + j, none⟩ = genC 5 mvA l j := fun j hj => (hb0.cell (p := ⟨b', off' + j, none⟩) hlt').trans (hc' j hj)
          obtain ⟨d, hd⟩ : ∃ d, l[k]? = some d := ⟨l[k], List.getElem?_eq_getElem hlt2⟩
          obtain ⟨e0, e1, e2, e3, e4⟩ := mv_cells hw1 k d hd
          obtain ⟨f0, f1, f2, f3, f4⟩ := mv_cells hw2 k d hd
          clear hc hc' hw1 hw2 hd
          go_wp2
          go_quiet (fail)
          go_wp2
          go_roundw
          case rel => exact ⟨k + 1, by omega, by go_num, by (repeat' (first | (with_reducible exact Below.refl _ _) | (with_reducible assumption) | (with_reducible refine below_run ?_ (by assumption)) | (with_reducible refine below_of_upd ?_ (by assumption) ?_) | (with_reducible refine below_drewN ?_ _) | (with_reducible refine Below.drew ?_) | (with_reducible refine below_seven ?_ ?_) | (with_reducible refine below_six ?_ ?_) | (with_reducible refine below_one ?_ ?_) | (with_reducible refine Below.alloc ?_ ?_ _) | (with_reducible refine below_after ?_ ?_ (by assumption)) | (show _ ≤ _; first | omega | (simp; done) | (simp; omega))))⟩
          case measure => simp [intOf]; omega
        · obtain rfl : k = l.length := by omega
          go_wp2
          go_ret
          exact ⟨rfl, hb0⟩

theorem bne_refl_str (x : ByteArray) : (x != x) = false := by
  obtain ⟨x⟩ := x
  show (!(x == x)) = false
  simp

set_option maxHeartbeats 1000000 in
set_option maxRecDepth 100000 in
theorem same_any (c : CueD) (v1 v2 u1 u2 : Value) (w : World) (hv : CueAt w v1 v2 c) (hu : CueAt w u1 u2 c) :
    Calls Tryz.prog 32 #[.agg #[.string c.num, .string c.lab, v1, v2, .bool c.block, .bool c.mark, .int .i64 c.follow, .string c.link, .int .i64 c.loops], .agg #[.string c.num, .string c.lab, u1, u2, .bool c.block, .bool c.mark, .int .i64 c.follow, .string c.link, .int .i64 c.loops]] w fun e w' => e = .returned (.bool true) ∧ Below w.heap.size w w' := by
  obtain ⟨a1, p1, rfl⟩ := hv.moves.shape
  obtain ⟨a3, p3, rfl⟩ := hu.moves.shape
  obtain ⟨nu, la, ms, l, bl, mk, fo, li, lo⟩ := c
  simp only at hv hu ⊢
  have C := Lib.hid (fun (W : World) (hb : Below w.heap.size w W) => samemoves_any _ _ ms W (hv.moves.run hb) (hu.moves.run hb))
  have q1 : (nu != nu) = false := bne_refl_str nu
  have q2 : (la != la) = false := bne_refl_str la
  have q3 : (bl != bl) = false := by simp
  have q4 : (mk != mk) = false := by simp
  have q5 : (fo != fo) = false := by simp
  have q6 : (li != li) = false := bne_refl_str li
  have q7 : (lo != lo) = false := by simp
  have hvp := hv.parts
  have hup := hu.parts
  simp only at hvp hup
  clear hv hu
  obtain ⟨W0, hW0⟩ : ∃ W, (w.alloc (.cells #[.string nu, .string la, .slice a1 ms.length p1, v2, .bool bl, .bool mk, .int .i64 fo, .string li, .int .i64 lo] 64)).alloc (.cells #[.string nu, .string la, .slice a3 ms.length p3, u2, .bool bl, .bool mk, .int .i64 fo, .string li, .int .i64 lo] 64) = W := ⟨_, rfl⟩
  have k0 : RowAt W0 w.heap.size 64 #[.string nu, .string la, .slice a1 ms.length p1, v2, .bool bl, .bool mk, .int .i64 fo, .string li, .int .i64 lo] := by rw [← hW0]; exact RowAt.alloc (RowAt.new _ _ _) _
  have r0 : RowAt W0 (w.heap.size + 1) 64 #[.string nu, .string la, .slice a3 ms.length p3, u2, .bool bl, .bool mk, .int .i64 fo, .string li, .int .i64 lo] := by rw [← hW0]; exact RowAt.mk (by simp) rfl
  have B0 : Below w.heap.size w W0 := by rw [← hW0]; (repeat' (first | (with_reducible exact Below.refl _ _) | (with_reducible assumption) | (with_reducible refine below_run ?_ (by assumption)) | (with_reducible refine below_of_upd ?_ (by assumption) ?_) | (with_reducible refine below_drewN ?_ _) | (with_reducible refine Below.drew ?_) | (with_reducible refine below_seven ?_ ?_) | (with_reducible refine below_six ?_ ?_) | (with_reducible refine below_one ?_ ?_) | (with_reducible refine Below.alloc ?_ ?_ _) | (with_reducible refine below_after ?_ ?_ (by assumption)) | (show _ ≤ _; first | omega | (simp; done) | (simp; omega))))
  rcases hvp with ⟨h0, a, cap, rfl⟩ | ⟨h0, h1, b, off, cap, rfl, hlt, hc⟩
  · have hl : l = [] := List.eq_nil_of_length_eq_zero h0
    subst hl
    rcases hup with ⟨_, a', cap', rfl⟩ | ⟨g0, _⟩
    · obtain ⟨x1, x2, x3, x4, x5, x6⟩ := row_facts k0
      obtain ⟨y1, y2, y3, y4, y5, y6⟩ := row_facts r0
      have HB := Lib.hid B0
      go_enter Tryz.func32, Tryz.ntmps32
      go_wp2_with fail
      clear hW0
      refine (C.out _ HB.out).mono ?_
      rintro e w1 ⟨rfl, hb1⟩
      have HC := Lib.hid (HB.out.trans (hb1.mono HB.out.size))
      obtain ⟨g1, g2, g3, g4, g5, g6⟩ := row_facts (RowAt.run k0 hb1)
      obtain ⟨f1, f2, f3, f4, f5, f6⟩ := row_facts (RowAt.run r0 hb1)
      clear x1 x2 x3 x4 x5 x6 y1 y2 y3 y4 y5 y6 k0 r0 B0 hb1
      go_wp2
      refine wp_loop_rounds 1 ?_
      rw [rounds_succ]
      go_wp2
      go_ret
      exact ⟨rfl, HC.out⟩
    · simp at g0
  · rcases hup with ⟨g0, _⟩ | ⟨_, _, b', off', cap', rfl, hlt', hc'⟩
    · omega
    · have h3 : (l.length : Int) ≤ 140737488351232 := by omega
      have h4 : (0 : Int) < (l.length : Int) := by omega
      have h5 : ((l.length : Int) != (l.length : Int)) = false := by simp
      obtain ⟨x1, x2, x3, x4, x5, x6⟩ := row_facts k0
      obtain ⟨y1, y2, y3, y4, y5, y6⟩ := row_facts r0
      have HB := Lib.hid B0
      go_enter Tryz.func32, Tryz.ntmps32
      go_wp2_with fail
      clear hW0
      refine (C.out _ HB.out).mono ?_
      rintro e w1 ⟨rfl, hb1⟩
      have HC := Lib.hid (HB.out.trans (hb1.mono HB.out.size))
      have HR := Lib.hid (And.intro (RowAt.run k0 hb1) (RowAt.run r0 hb1))
      obtain ⟨g1, g2, g3, g4, g5, g6⟩ := row_facts HR.out.1
      obtain ⟨f1, f2, f3, f4, f5, f6⟩ := row_facts HR.out.2
      clear x1 x2 x3 x4 x5 x6 y1 y2 y3 y4 y5 y6 k0 r0 B0 hb1
      go_wp2
      clear g1 g2 g3 g4 g5 g6 f1 f2 f3 f4 f5 f6
      go_loopw [5] (fun i wr => ∃ k : Nat, k ≤ l.length ∧ i = .int .i64 k ∧ Hid (Below w1.heap.size w1 wr)) (fun i _ => l.length - (intOf i).toNat)
      case atStart => exact ⟨0, Nat.zero_le _, rfl, Lib.hid (Below.refl _ _)⟩
      case round =>
        obtain ⟨k, hk, rfl, hh⟩ := hrel
        obtain ⟨g1, g2, g3, g4, g5, g6⟩ := row_facts (RowAt.run HR.out.1 hh.out)
        obtain ⟨f1, f2, f3, f4, f5, f6⟩ := row_facts (RowAt.run HR.out.2 hh.out)
        have hb0 : Below w.heap.size w wr := HC.out.trans (hh.out.mono HC.out.size)
        by_cases hlt2 : k < l.length
        · have hlt3 : (k : Int) < (l.length : Int) := by omega
          have hk0 : (0 : Int) ≤ (k : Int) := by omega
          have hw1 : ∀ j, j < l.length * 6 → wr.cell? ⟨b, off + j, none⟩ = genC 6 timA l j := fun j hj => (hb0.cell (p := ⟨b, off + j, none⟩) hlt).trans (hc j hj)
          have hw2 : ∀ j, j < l.length * 6 → wr.cell? ⟨b', off' + j, none⟩ = genC 6 timA l j := fun j hj => (hb0.cell (p := ⟨b', off' + j, none⟩) hlt').trans (hc' j hj)
          obtain ⟨d, hd⟩ : ∃ d, l[k]? = some d := ⟨l[k], List.getElem?_eq_getElem hlt2⟩
          obtain ⟨e0, e1, e2, e3, e4, e5⟩ := tim_cells hw1 k d hd
          obtain ⟨d0, d1, d2, d3, d4, d5⟩ := tim_cells hw2 k d hd
          clear hc hc' hw1 hw2 hd hb0
          go_wp2
          go_quiet (fail)
          go_wp2
          go_roundw
          case rel => exact ⟨k + 1, by omega, by go_num, Lib.hid (by have := hh.out; (repeat' (first | (with_reducible exact Below.refl _ _) | (with_reducible assumption) | (with_reducible refine below_run ?_ (by assumption)) | (with_reducible refine below_of_upd ?_ (by assumption) ?_) | (with_reducible refine below_drewN ?_ _) | (with_reducible refine Below.drew ?_) | (with_reducible refine below_seven ?_ ?_) | (with_reducible refine below_six ?_ ?_) | (with_reducible refine below_one ?_ ?_) | (with_reducible refine Below.alloc ?_ ?_ _) | (with_reducible refine below_after ?_ ?_ (by assumption)) | (show _ ≤ _; first | omega | (simp; done) | (simp; omega)))))⟩
          case measure => simp [intOf]; omega
        · obtain rfl : k = l.length := by omega
          have HB0 := Lib.hid hb0
          clear hb0 hh
          go_wp2
          go_ret
          exact ⟨rfl, HB0.out⟩

/-- What Few says. -/
def FewPost (c : CueD) (w : World) (e : Ending) (w' : World) : Prop := ∃ t, e = .returned (.bool t) ∧ (t = true → c.num.size ≤ 40 ∧ c.lab.size ≤ 100 ∧ c.link.size ≤ 40 ∧ c.parts.length ≤ 10 ∧ c.moves.length ≤ 300) ∧ Below w.heap.size w w'

set_option maxHeartbeats 1000000 in
set_option maxRecDepth 100000 in
theorem few_any (c : CueD) (a1 a2 : Option Addr) (p1 p2 : Nat) (w : World) :
    Calls Tryz.prog 27 #[.agg #[.string c.num, .string c.lab, .slice a1 c.moves.length p1, .slice a2 c.parts.length p2, .bool c.block, .bool c.mark, .int .i64 c.follow, .string c.link, .int .i64 c.loops]] w fun e w' => FewPost c w e w' := by
  obtain ⟨nu, la, ms, l, bl, mk, fo, li, lo⟩ := c
  simp only
  have b1 : Below w.heap.size w (w.alloc (.cells #[.string nu, .string la, .slice a1 ms.length p1, .slice a2 l.length p2, .bool bl, .bool mk, .int .i64 fo, .string li, .int .i64 lo] 64)) := by (repeat' (first | (with_reducible exact Below.refl _ _) | (with_reducible assumption) | (with_reducible refine below_run ?_ (by assumption)) | (with_reducible refine below_of_upd ?_ (by assumption) ?_) | (with_reducible refine below_drewN ?_ _) | (with_reducible refine Below.drew ?_) | (with_reducible refine below_seven ?_ ?_) | (with_reducible refine below_six ?_ ?_) | (with_reducible refine below_one ?_ ?_) | (with_reducible refine Below.alloc ?_ ?_ _) | (with_reducible refine below_after ?_ ?_ (by assumption)) | (show _ ≤ _; first | omega | (simp; done) | (simp; omega))))
  have HB := Lib.hid b1
  clear b1
  by_cases h1 : (nu.size : Int) ≤ 40
  · by_cases h2 : (la.size : Int) ≤ 100
    · by_cases h3 : (li.size : Int) ≤ 40
      · by_cases h4 : (l.length : Int) ≤ 10
        · go_enter Tryz.func27, Tryz.ntmps27
          go_wp2
          go_ret
          exact ⟨_, rfl, (fun h => by
            show nu.size ≤ 40 ∧ la.size ≤ 100 ∧ li.size ≤ 40 ∧ l.length ≤ 10 ∧ ms.length ≤ 300
            have h5 := h
            simp at h5
            omega), HB.out⟩
        · go_enter Tryz.func27, Tryz.ntmps27
          go_wp2
          go_ret
          exact ⟨false, rfl, (fun h => by cases h), HB.out⟩
      · go_enter Tryz.func27, Tryz.ntmps27
        go_wp2
        go_ret
        exact ⟨false, rfl, (fun h => by cases h), HB.out⟩
    · go_enter Tryz.func27, Tryz.ntmps27
      go_wp2
      go_ret
      exact ⟨false, rfl, (fun h => by cases h), HB.out⟩
  · go_enter Tryz.func27, Tryz.ntmps27
    go_wp2
    go_ret
    exact ⟨false, rfl, (fun h => by cases h), HB.out⟩

end Go.Proofs.YtjeigphhepngmaaGreatDoor
