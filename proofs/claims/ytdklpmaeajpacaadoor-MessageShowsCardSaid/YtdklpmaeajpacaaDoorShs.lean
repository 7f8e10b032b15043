/-
  The search in a list of texts for one that a test picks.
-/
import Derived.Test.YtdklpmaeajpacaaDoorSeqs
import Derived.Shelf.Abstract
namespace Go.Proofs.YtdklpmaeajpacaaDoor
open Go.RowKit

set_option maxHeartbeats 4000000 in
set_option maxRecDepth 100000 in
theorem index_any (g : Nat) (p : ByteArray → Bool) (eg : ∀ args w, (callFunc g args).run Tryd.prog w = .ok (.enter g args) w)
    (hp : ∀ W s, Calls Tryd.prog g #[.string s] W fun e w' => e = .returned (.bool (p s)) ∧ W = w') (v : Value) (l : List ByteArray) (w : World) (hv : StrsAt w v l) :
    Calls Tryd.prog 70 #[v, .func (.func g) #[] #[]] w fun e w' => ∃ n : Int, e = .returned (.int .i64 n) ∧ Hid (decide (0 ≤ n) = l.any p) ∧ Below w.heap.size w w' := by
  rcases hv with ⟨h0, a, cap, rfl⟩ | ⟨h0, h1, b, off, cap, rfl, hlt, hc⟩
  · have hl : l = [] := List.eq_nil_of_length_eq_zero h0
    subst hl
    go_enter Tryd.func70, Tryd.ntmps70
    go_wp2
    refine wp_loop_rounds 1 ?_
    rw [rounds_succ]
    go_wp2
    go_ret
    exact ⟨_, rfl, by simp [Hid], by (repeat' (first | (with_reducible exact Below.refl _ _) | (with_reducible assumption) | (with_reducible refine below_drewN ?_ _) | (with_reducible refine Below.drew ?_) | (with_reducible refine Below.setCell ?_ ?_ _) | (with_reducible refine Below.alloc ?_ ?_ _) | (with_reducible refine below_after ?_ ?_ (by assumption)) | (show _ ≤ _; first | omega | (simp; done) | (simp; omega))))⟩
  · have h4 : (0 : Int) < (l.length : Int) := by omega
    go_enter Tryd.func70, Tryd.ntmps70
    go_wp2
    go_loopw [5, 8] (fun _ i wr => ∃ k : Nat, k ≤ l.length ∧ i = .int .i64 k ∧ (l.take k).any p = false ∧ Below w.heap.size w wr) (fun _ i _ => l.length - (intOf i).toNat)
    case atStart => exact ⟨0, Nat.zero_le _, rfl, rfl, by (repeat' (first | (with_reducible exact Below.refl _ _) | (with_reducible assumption) | (with_reducible refine below_drewN ?_ _) | (with_reducible refine Below.drew ?_) | (with_reducible refine Below.setCell ?_ ?_ _) | (with_reducible refine Below.alloc ?_ ?_ _) | (with_reducible refine below_after ?_ ?_ (by assumption)) | (show _ ≤ _; first | omega | (simp; done) | (simp; omega))))⟩
    case round =>
      obtain ⟨k, hk, rfl, hany, hb0⟩ := hrel
      by_cases hlt2 : k < l.length
      · have hlt3 : (k : Int) < (l.length : Int) := by omega
        have hc' : ∀ j, j < l.length * 1 → wr.cell? ⟨b, off + j, none⟩ = strsC l j := fun j hj => (hb0.cell (p := ⟨b, off + j, none⟩) hlt).trans (hc j hj)
        obtain ⟨s, hs, e0⟩ := str_cell hc' k hlt2
        have HS := Lib.hid hs
        have HT := Lib.hid (take_succ_some hs)
        have hcall := hp wr s
        have HA := Lib.hid hany
        clear hc hc' hs hp hany
        obtain ⟨q, hq⟩ : ∃ q, p s = q := ⟨_, rfl⟩
        rw [hq] at hcall
        have HQ := Lib.hid hq
        have HC := Lib.hid hcall
        clear hq hcall
        cases q with
        | true =>
          go_wp2_with fail
          refine HC.out.mono ?_
          rintro e w' ⟨rfl, rfl⟩
          go_wp2
          go_ret
          refine ⟨_, rfl, ?_, by (repeat' (first | (with_reducible exact Below.refl _ _) | (with_reducible assumption) | (with_reducible refine below_drewN ?_ _) | (with_reducible refine Below.drew ?_) | (with_reducible refine Below.setCell ?_ ?_ _) | (with_reducible refine Below.alloc ?_ ?_ _) | (with_reducible refine below_after ?_ ?_ (by assumption)) | (show _ ≤ _; first | omega | (simp; done) | (simp; omega))))⟩
          have hx : l.any p = true := List.any_eq_true.2 ⟨s, List.mem_of_getElem? HS.out, HQ.out⟩
          simp only [Hid, hx]
          exact decide_eq_true (by omega)
        | false =>
          go_wp2_with fail
          refine HC.out.mono ?_
          rintro e w' ⟨rfl, rfl⟩
          go_wp2
          go_roundw
          case rel => exact ⟨k + 1, by omega, by go_num, by rw [HT.out, List.any_append, HA.out]; simp [HQ.out], by (repeat' (first | (with_reducible exact Below.refl _ _) | (with_reducible assumption) | (with_reducible refine below_drewN ?_ _) | (with_reducible refine Below.drew ?_) | (with_reducible refine Below.setCell ?_ ?_ _) | (with_reducible refine Below.alloc ?_ ?_ _) | (with_reducible refine below_after ?_ ?_ (by assumption)) | (show _ ≤ _; first | omega | (simp; done) | (simp; omega))))⟩
          case measure => simp [intOf]; omega
      · have hlt3 : ¬ (k : Int) < (l.length : Int) := by omega
        obtain rfl : k = l.length := by omega
        rw [List.take_length] at hany
        have HA := Lib.hid hany
        clear hany
        go_wp2
        go_ret
        exact ⟨_, rfl, by simp [Hid, HA.out], by (repeat' (first | (with_reducible exact Below.refl _ _) | (with_reducible assumption) | (with_reducible refine below_drewN ?_ _) | (with_reducible refine Below.drew ?_) | (with_reducible refine Below.setCell ?_ ?_ _) | (with_reducible refine Below.alloc ?_ ?_ _) | (with_reducible refine below_after ?_ ?_ (by assumption)) | (show _ ≤ _; first | omega | (simp; done) | (simp; omega))))⟩

set_option maxHeartbeats 4000000 in
set_option maxRecDepth 100000 in
theorem contains_any (g : Nat) (p : ByteArray → Bool) (eg : ∀ args w, (callFunc g args).run Tryd.prog w = .ok (.enter g args) w)
    (hp : ∀ W s, Calls Tryd.prog g #[.string s] W fun e w' => e = .returned (.bool (p s)) ∧ W = w') (v : Value) (l : List ByteArray) (w : World) (hv : StrsAt w v l) :
    Calls Tryd.prog 28 #[v, .func (.func g) #[] #[]] w fun e w' => e = .returned (.bool (l.any p)) ∧ Below w.heap.size w w' := by
  have C := Lib.hid (index_any g p eg hp v l w hv)
  clear hp eg hv
  obtain ⟨q, hq⟩ : ∃ q, l.any p = q := ⟨_, rfl⟩
  rw [hq] at C
  rw [hq]
  clear hq
  go_enter Tryd.func28, Tryd.ntmps28
  go_wp2_with fail
  refine C.out.mono ?_
  rintro e w1 ⟨n, rfl, hn, hb⟩
  have hn2 := hn.out
  clear hn
  cases q with
  | true =>
    have h : (0 : Int) ≤ n := of_decide_eq_true hn2
    clear hn2
    go_wp2
    go_ret
    exact ⟨by simp, by (repeat' (first | (with_reducible exact Below.refl _ _) | (with_reducible assumption) | (with_reducible refine below_drewN ?_ _) | (with_reducible refine Below.drew ?_) | (with_reducible refine Below.setCell ?_ ?_ _) | (with_reducible refine Below.alloc ?_ ?_ _) | (with_reducible refine below_after ?_ ?_ (by assumption)) | (show _ ≤ _; first | omega | (simp; done) | (simp; omega))))⟩
  | false =>
    have h : ¬ (0 : Int) ≤ n := of_decide_eq_false hn2
    clear hn2
    go_wp2
    go_ret
    exact ⟨by simp [h], by (repeat' (first | (with_reducible exact Below.refl _ _) | (with_reducible assumption) | (with_reducible refine below_drewN ?_ _) | (with_reducible refine Below.drew ?_) | (with_reducible refine Below.setCell ?_ ?_ _) | (with_reducible refine Below.alloc ?_ ?_ _) | (with_reducible refine below_after ?_ ?_ (by assumption)) | (show _ ≤ _; first | omega | (simp; done) | (simp; omega))))⟩

def longS (s : ByteArray) : Bool := decide (400 < s.size)
def oddS (s : ByteArray) : Bool := decide (400 < s.size) && decide (s.size ≤ 4096)

theorem odd_any (W : World) (s : ByteArray) : Calls Tryd.prog 29 #[.string s] W fun e w' => e = .returned (.bool (oddS s)) ∧ W = w' := by
  by_cases h : 400 < s.size
  · have h1 : (400 : Int) < (s.size : Int) := by omega
    by_cases h2 : s.size ≤ 4096
    · have h3 : (s.size : Int) ≤ 4096 := by omega
      have e : oddS s = true := by simp [oddS, h, h2]
      rw [e]
      clear h h2 e
      go_enter Tryd.func29, Tryd.ntmps29
      go_wp2
      go_ret
      exact ⟨rfl, rfl⟩
    · have h3 : ¬ (s.size : Int) ≤ 4096 := by omega
      have e : oddS s = false := by simp [oddS, h2]
      rw [e]
      clear h h2 e
      go_enter Tryd.func29, Tryd.ntmps29
      go_wp2
      go_ret
      exact ⟨rfl, rfl⟩
  · have h1 : ¬ (400 : Int) < (s.size : Int) := by omega
    have e : oddS s = false := by simp [oddS, h]
    rw [e]
    clear h e
    go_enter Tryd.func29, Tryd.ntmps29
    go_wp2
    go_ret
    exact ⟨rfl, rfl⟩

theorem long_any (W : World) (s : ByteArray) : Calls Tryd.prog 33 #[.string s] W fun e w' => e = .returned (.bool (longS s)) ∧ W = w' := by
  by_cases h : 400 < s.size
  · have h1 : (400 : Int) < (s.size : Int) := by omega
    have e : longS s = true := by simp [longS, h]
    rw [e]
    clear h e
    go_enter Tryd.func33, Tryd.ntmps33
    go_wp2
    go_ret
    exact ⟨rfl, rfl⟩
  · have h1 : ¬ (400 : Int) < (s.size : Int) := by omega
    have e : longS s = false := by simp [longS, h]
    rw [e]
    clear h e
    go_enter Tryd.func33, Tryd.ntmps33
    go_wp2
    go_ret
    exact ⟨rfl, rfl⟩

theorem hasOdd_any (v : Value) (l : List ByteArray) (w : World) (hv : StrsAt w v l) :
    Calls Tryd.prog 28 #[v, .func (.func 29) #[] #[]] w fun e w' => e = .returned (.bool (l.any oddS)) ∧ Below w.heap.size w w' :=
  contains_any _ _ (enters_of Tryd.func29 (by kernel_rfl) rfl) odd_any v l w hv

theorem hasLong_any (v : Value) (l : List ByteArray) (w : World) (hv : StrsAt w v l) :
    Calls Tryd.prog 28 #[v, .func (.func 33) #[] #[]] w fun e w' => e = .returned (.bool (l.any longS)) ∧ Below w.heap.size w w' :=
  contains_any _ _ (enters_of Tryd.func33 (by kernel_rfl) rfl) long_any v l w hv

end Go.Proofs.YtdklpmaeajpacaaDoor
