/-
  The manager's checks: devices, wires, managers.
  The manager's errors of devices, wires, requests.
-/
import Derived.Test.YtpkhcehddfmhpaaGreatMa
import Derived.Test.YtpkhcehddfmhpaaGreatIx
import Derived.Test.YtpkhcehddfmhpaaGreatBus
import Derived.Test.YtpkhcehddfmhpaaGreatTop
namespace Go.Proofs.YtpkhcehddfmhpaaGreat
open Go.RowKit

theorem Tryz.info_i64 : (Tryz.prog.info? 3).map (fun i => (i.zero, i.size, i.bytes)) = some (some (.int .i64 0), 1, 8) := by kernel_rfl

/-- The numbers of a list, in a row; and a slice that holds them. -/
def i64L (l : List Int) : List Value := l.map (Value.int .i64)
def i64C (l : List Int) (j : Nat) : Option Value := (l[j]?).map (Value.int .i64)
def IntsAt (w : World) (v : Value) (l : List Int) : Prop := SeqAt w 1 v l.length (i64C l)
theorem i64L_get (l : List Int) (j : Nat) : (i64L l)[j]? = i64C l j := by simp [i64L, i64C]
theorem i64L_length (l : List Int) : (i64L l).length = l.length := by simp [i64L]
theorem own_ints {w : World} {B T n : Nat} {v : Value} {l : List Int} (h : w.ownsRow B T 1 v n (i64L l)) (hn : n = l.length) (h2 : n ≤ 140737488351232) : IntsAt w v l := by
  subst hn
  exact own_seq h h2 (i64L_get l)
theorem IntsAt.run {w w' : World} {v : Value} {l : List Int} (h : IntsAt w v l) (hb : Below w.heap.size w w') : IntsAt w' v l := SeqAt.below h hb
theorem int_cell {w : World} {b off : Nat} {l : List Int} (hc : ∀ j, j < l.length * 1 → w.cell? ⟨b, off + j, none⟩ = i64C l j) (k : Nat) (hk : k < l.length) :
    ∃ x, l[k]? = some x ∧ w.cell? ⟨b, off + k, none⟩ = some (.int .i64 x) := by
  refine ⟨l[k], List.getElem?_eq_getElem hk, ?_⟩
  rw [hc k (by omega), i64C, List.getElem?_eq_getElem hk]
  rfl
/-- A part of a list of devices. -/
theorem DevsAt.part {w : World} {b off cap n : Nat} {l : List Dev} (hlt : b < w.heap.size) (hl : l.length ≤ 140737488351232) (hc : ∀ j, j < l.length * 7 → w.cell? ⟨b, off + j, none⟩ = devsC l j) (hn : n ≤ l.length) : DevsAt w (.slice (some ⟨b, off, none⟩) n cap) (l.take n) := by
  have hln : (l.take n).length = n := by simp; omega
  by_cases h0 : n = 0
  · subst h0
    exact .inl ⟨by simp, _, _, rfl⟩
  · refine .inr ⟨by omega, by omega, b, off, cap, by rw [hln], hlt, fun j hj => ?_⟩
    rw [hln] at hj
    rw [hc j (by omega)]
    unfold devsC
    rw [List.getElem?_take_of_lt (by omega)]

set_option maxHeartbeats 1000000 in
set_option maxRecDepth 100000 in
theorem mright_any (id seq tries : Int) (q : Int) (hq : mgrE ⟨id, seq, tries⟩ = q) (w : World) :
    Calls Tryz.prog 80 #[.agg #[.int .u64 id, .int .i64 seq, .int .i64 tries]] w fun e w' => e = .returned (.int .i64 q) ∧ Below w.heap.size w w' := by
  have HQ := Lib.hid hq
  have hb : Below w.heap.size w (w.alloc (.cells #[.int .u64 id, .int .i64 seq, .int .i64 tries] 24)) := (Below.refl _ _).alloc (Nat.le_refl _) _
  clear hq
  by_cases g : isId id = false ∨ seq < 0 ∨ 255 < seq ∨ tries < 1 ∨ 16 < tries
  · have HE : Hid (q = 2) := by show q = 2; rw [← HQ.out, mgrE, if_pos g]
    have hs : (id < 1) ∨ (¬ id < 1 ∧ 281474976710655 ≤ id) ∨ (¬ id < 1 ∧ ¬ 281474976710655 ≤ id ∧ seq < 0) ∨ (¬ id < 1 ∧ ¬ 281474976710655 ≤ id ∧ ¬ seq < 0 ∧ 255 < seq) ∨
        (¬ id < 1 ∧ ¬ 281474976710655 ≤ id ∧ ¬ seq < 0 ∧ ¬ 255 < seq ∧ tries < 1) ∨ (¬ id < 1 ∧ ¬ 281474976710655 ≤ id ∧ ¬ seq < 0 ∧ ¬ 255 < seq ∧ ¬ tries < 1 ∧ 16 < tries) := by
      simp only [isId, decide_eq_false_iff_not] at g
      omega
    have HS := Lib.hid hs
    clear g hs
    rcases HS.out with g | ⟨g1, g2⟩ | ⟨g1, g2, g3⟩ | ⟨g1, g2, g3, g4⟩ | ⟨g1, g2, g3, g4, g5⟩ | ⟨g1, g2, g3, g4, g5, g6⟩
    all_goals
      go_enter Tryz.func80, Tryz.ntmps80
      go_wp2
      go_ret
      exact ⟨ret_int (by rw [HE.out]), hb⟩
  · have HE : Hid (q = 0) := by show q = 0; rw [← HQ.out, mgrE, if_neg g]
    have hs : ¬ id < 1 ∧ ¬ 281474976710655 ≤ id ∧ ¬ seq < 0 ∧ ¬ 255 < seq ∧ ¬ tries < 1 ∧ ¬ 16 < tries := by
      have hi : isId id = true := by
        cases h : isId id
        · exact absurd (.inl h) g
        · rfl
      have := of_decide_eq_true (show decide (0 < id ∧ id < 281474976710655) = true from hi)
      refine ⟨by omega, by omega, ?_, ?_, ?_, ?_⟩ <;> (intro h; exact g (by simp [h]))
    obtain ⟨g1, g2, g3, g4, g5, g6⟩ := hs
    clear g
    go_enter Tryz.func80, Tryz.ntmps80
    go_wp2
    go_ret
    exact ⟨ret_int (by rw [HE.out]), hb⟩

set_option maxHeartbeats 1000000 in
set_option maxRecDepth 100000 in
theorem mof_any (id seq tries dst kind par : Int) (dat : ByteArray) (w : World) :
    Calls Tryz.prog 67 #[.agg #[.int .u64 id, .int .i64 seq, .int .i64 tries], .agg #[.int .u64 dst, .int .i64 kind, .int .i64 par, .string dat]] w
      fun e w' => e = .returned (.agg #[.int .u64 dst, .int .u64 id, .int .i64 seq, .int .i64 kind, .int .i64 par, .string dat]) ∧ Below w.heap.size w w' := by
  go_enter Tryz.func67, Tryz.ntmps67
  go_wp2
  refine bodyPost_ret (v := .agg #[.int .u64 dst, .int .u64 id, .int .i64 seq, .int .i64 kind, .int .i64 par, .string dat]) ?_ rfl ⟨rfl, by (repeat' (first | (with_reducible exact Below.refl _ _) | (with_reducible assumption) | (with_reducible refine below_run ?_ (by assumption)) | (with_reducible refine below_of_upd ?_ (by assumption) ?_) | (with_reducible refine below_drewN ?_ _) | (with_reducible refine Below.drew ?_) | (with_reducible refine below_seven ?_ ?_) | (with_reducible refine below_six ?_ ?_) | (with_reducible refine below_one ?_ ?_) | (with_reducible refine Below.alloc ?_ ?_ _) | (with_reducible refine below_after ?_ ?_ (by assumption)) | (show _ ≤ _; first | omega | (simp; done) | (simp; omega))))⟩
  simp [results, Tryz.results67, go_sem]

/-! ### slices.ContainsFunc, with a function that captures nothing -/
set_option maxHeartbeats 2000000 in
set_option maxRecDepth 100000 in
theorem fault_one (x : Int) (q : Bool) (hq : badFault x = q) (w : World) : Calls Tryz.prog 117 #[.int .i64 x] w fun e w' => e = .returned (.bool q) ∧ w = w' := by
  have HQ := Lib.hid hq
  clear hq
  by_cases h1 : x < 0
  · go_enter Tryz.func117, Tryz.ntmps117
    go_wp2
    go_ret
    exact ⟨ret_bool (by rw [← HQ.out]; simp [badFault, h1]), rfl⟩
  · by_cases h2 : 4 < x
    · go_enter Tryz.func117, Tryz.ntmps117
      go_wp2
      go_ret
      exact ⟨ret_bool (by rw [← HQ.out]; simp [badFault, h2]), rfl⟩
    · go_enter Tryz.func117, Tryz.ntmps117
      go_wp2
      go_ret
      exact ⟨ret_bool (by rw [← HQ.out]; simp [badFault, h1, h2]), rfl⟩
set_option maxHeartbeats 2000000 in
set_option maxRecDepth 100000 in
theorem long_one (s : ByteArray) (q : Bool) (hq : longText s = q) (w : World) : Calls Tryz.prog 119 #[.string s] w fun e w' => e = .returned (.bool q) ∧ w = w' := by
  have HQ := Lib.hid hq
  clear hq
  by_cases h1 : (4096 : Int) < (s.size : Int)
  · go_enter Tryz.func119, Tryz.ntmps119
    go_wp2
    go_ret
    exact ⟨ret_bool (by rw [← HQ.out]; simp [longText]; omega), rfl⟩
  · go_enter Tryz.func119, Tryz.ntmps119
    go_wp2
    go_ret
    exact ⟨ret_bool (by rw [← HQ.out]; simp [longText]; omega), rfl⟩

set_option maxHeartbeats 4000000 in
set_option maxRecDepth 100000 in
theorem index_ints (v : Value) (l : List Int) (w : World) (hv : IntsAt w v l) :
    Calls Tryz.prog 155 #[v, .func (.func 117) #[] #[]] w fun e w' => ∃ n : Int, e = .returned (.int .i64 n) ∧ Hid (decide (0 ≤ n) = l.any badFault) ∧ Below w.heap.size w w' := by
  rcases hv with ⟨h0, a, cap, rfl⟩ | ⟨h0, h1, b, off, cap, rfl, hlt, hc⟩
  · have hl : l = [] := List.eq_nil_of_length_eq_zero h0
    subst hl
    go_enter Tryz.func155, Tryz.ntmps155
    go_wp2
    refine wp_loop_rounds 1 ?_
    rw [rounds_succ]
    go_wp2
    go_ret
    exact ⟨_, rfl, by simp [Hid], by (repeat' (first | (with_reducible exact Below.refl _ _) | (with_reducible assumption) | (with_reducible refine below_drewN ?_ _) | (with_reducible refine Below.drew ?_) | (with_reducible refine Below.setCell ?_ ?_ _) | (with_reducible refine Below.alloc ?_ ?_ _) | (with_reducible refine below_after ?_ ?_ (by assumption)) | (show _ ≤ _; first | omega | (simp; done) | (simp; omega))))⟩
  · have h4 : (0 : Int) < (l.length : Int) := by omega
    go_enter Tryz.func155, Tryz.ntmps155
    go_wp2
    go_loopw [5, 8] (fun _ i wr => ∃ k : Nat, k ≤ l.length ∧ i = .int .i64 k ∧ (l.take k).any badFault = false ∧ Below w.heap.size w wr) (fun _ i _ => l.length - (intOf i).toNat)
    case atStart => exact ⟨0, Nat.zero_le _, rfl, rfl, by (repeat' (first | (with_reducible exact Below.refl _ _) | (with_reducible assumption) | (with_reducible refine below_drewN ?_ _) | (with_reducible refine Below.drew ?_) | (with_reducible refine Below.setCell ?_ ?_ _) | (with_reducible refine Below.alloc ?_ ?_ _) | (with_reducible refine below_after ?_ ?_ (by assumption)) | (show _ ≤ _; first | omega | (simp; done) | (simp; omega))))⟩
    case round =>
      obtain ⟨j, hj, rfl, hany, hb0⟩ := hrel
      by_cases hlt2 : j < l.length
      · have hlt3 : (j : Int) < (l.length : Int) := by omega
        have hc' : ∀ i, i < l.length * 1 → wr.cell? ⟨b, off + i, none⟩ = i64C l i := fun i hi => (hb0.cell (p := ⟨b, off + i, none⟩) hlt).trans (hc i hi)
        obtain ⟨x, hx, e0⟩ := int_cell hc' j hlt2
        have HA := Lib.hid hany
        have HS := Lib.hid hx
        have HT := Lib.hid (take_succ_some hx)
        obtain ⟨q, hq⟩ : ∃ q, badFault x = q := ⟨_, rfl⟩
        have C := Lib.hid (fault_one x q hq wr)
        have HQ := Lib.hid hq
        clear hc hc' hx hany hq
        cases q with
        | true =>
          go_wp2_with fail
          refine C.out.mono ?_
          rintro e w' ⟨rfl, rfl⟩
          go_wp2
          go_ret
          refine ⟨_, rfl, ?_, hb0⟩
          have hx : l.any badFault = true := List.any_eq_true.2 ⟨x, List.mem_of_getElem? HS.out, HQ.out⟩
          simp only [Hid, hx]
          exact decide_eq_true (by omega)
        | false =>
          go_wp2_with fail
          refine C.out.mono ?_
          rintro e w' ⟨rfl, rfl⟩
          go_wp2
          go_roundw
          case rel => exact ⟨j + 1, by omega, by go_num, by rw [HT.out, List.any_append, HA.out]; simp [HQ.out], hb0⟩
          case measure => simp [intOf]; omega
      · have hlt3 : ¬ (j : Int) < (l.length : Int) := by omega
        obtain rfl : j = l.length := by omega
        rw [List.take_length] at hany
        have HA := Lib.hid hany
        clear hany
        go_wp2
        go_ret
        exact ⟨_, rfl, by simp [Hid, HA.out], hb0⟩
set_option maxHeartbeats 4000000 in
set_option maxRecDepth 100000 in
theorem index_strs (v : Value) (l : List ByteArray) (w : World) (hv : StrsAt w v l) :
    Calls Tryz.prog 156 #[v, .func (.func 119) #[] #[]] w fun e w' => ∃ n : Int, e = .returned (.int .i64 n) ∧ Hid (decide (0 ≤ n) = l.any longText) ∧ Below w.heap.size w w' := by
  rcases hv with ⟨h0, a, cap, rfl⟩ | ⟨h0, h1, b, off, cap, rfl, hlt, hc⟩
  · have hl : l = [] := List.eq_nil_of_length_eq_zero h0
    subst hl
    go_enter Tryz.func156, Tryz.ntmps156
    go_wp2
    refine wp_loop_rounds 1 ?_
    rw [rounds_succ]
    go_wp2
    go_ret
    exact ⟨_, rfl, by simp [Hid], by (repeat' (first | (with_reducible exact Below.refl _ _) | (with_reducible assumption) | (with_reducible refine below_drewN ?_ _) | (with_reducible refine Below.drew ?_) | (with_reducible refine Below.setCell ?_ ?_ _) | (with_reducible refine Below.alloc ?_ ?_ _) | (with_reducible refine below_after ?_ ?_ (by assumption)) | (show _ ≤ _; first | omega | (simp; done) | (simp; omega))))⟩
  · have h4 : (0 : Int) < (l.length : Int) := by omega
    go_enter Tryz.func156, Tryz.ntmps156
    go_wp2
    go_loopw [5, 8] (fun _ i wr => ∃ k : Nat, k ≤ l.length ∧ i = .int .i64 k ∧ (l.take k).any longText = false ∧ Below w.heap.size w wr) (fun _ i _ => l.length - (intOf i).toNat)
    case atStart => exact ⟨0, Nat.zero_le _, rfl, rfl, by (repeat' (first | (with_reducible exact Below.refl _ _) | (with_reducible assumption) | (with_reducible refine below_drewN ?_ _) | (with_reducible refine Below.drew ?_) | (with_reducible refine Below.setCell ?_ ?_ _) | (with_reducible refine Below.alloc ?_ ?_ _) | (with_reducible refine below_after ?_ ?_ (by assumption)) | (show _ ≤ _; first | omega | (simp; done) | (simp; omega))))⟩
    case round =>
      obtain ⟨j, hj, rfl, hany, hb0⟩ := hrel
      by_cases hlt2 : j < l.length
      · have hlt3 : (j : Int) < (l.length : Int) := by omega
        have hc' : ∀ i, i < l.length * 1 → wr.cell? ⟨b, off + i, none⟩ = strsC l i := fun i hi => (hb0.cell (p := ⟨b, off + i, none⟩) hlt).trans (hc i hi)
        obtain ⟨x, hx, e0⟩ := str_cell hc' j hlt2
        have HA := Lib.hid hany
        have HS := Lib.hid hx
        have HT := Lib.hid (take_succ_some hx)
        obtain ⟨q, hq⟩ : ∃ q, longText x = q := ⟨_, rfl⟩
        have C := Lib.hid (long_one x q hq wr)
        have HQ := Lib.hid hq
        clear hc hc' hx hany hq
        cases q with
        | true =>
          go_wp2_with fail
          refine C.out.mono ?_
          rintro e w' ⟨rfl, rfl⟩
          go_wp2
          go_ret
          refine ⟨_, rfl, ?_, hb0⟩
          have hx : l.any longText = true := List.any_eq_true.2 ⟨x, List.mem_of_getElem? HS.out, HQ.out⟩
          simp only [Hid, hx]
          exact decide_eq_true (by omega)
        | false =>
          go_wp2_with fail
          refine C.out.mono ?_
          rintro e w' ⟨rfl, rfl⟩
          go_wp2
          go_roundw
          case rel => exact ⟨j + 1, by omega, by go_num, by rw [HT.out, List.any_append, HA.out]; simp [HQ.out], hb0⟩
          case measure => simp [intOf]; omega
      · have hlt3 : ¬ (j : Int) < (l.length : Int) := by omega
        obtain rfl : j = l.length := by omega
        rw [List.take_length] at hany
        have HA := Lib.hid hany
        clear hany
        go_wp2
        go_ret
        exact ⟨_, rfl, by simp [Hid, HA.out], hb0⟩
set_option maxHeartbeats 1000000 in
set_option maxRecDepth 100000 in
theorem contains_ints (q : Bool) (v : Value) (l : List Int) (w : World) (hv : IntsAt w v l) (hq : l.any badFault = q) :
    Calls Tryz.prog 116 #[v, .func (.func 117) #[] #[]] w fun e w' => e = .returned (.bool q) ∧ Below w.heap.size w w' := by
  have C := Lib.hid (index_ints v l w hv)
  clear hv
  rw [hq] at C
  clear hq
  go_enter Tryz.func116, Tryz.ntmps116
  go_wp2_with fail
  refine C.out.mono ?_
  rintro e w1 ⟨n, rfl, hn, hb⟩
  have hn2 := hn.out
  clear hn
  cases q with
  | true =>
    have h : (0 : Int) ≤ n := of_decide_eq_true hn2
    clear hn2
    go_wp2
    go_ret
    exact ⟨by simp, by (repeat' (first | (with_reducible exact Below.refl _ _) | (with_reducible assumption) | (with_reducible refine below_drewN ?_ _) | (with_reducible refine Below.drew ?_) | (with_reducible refine Below.setCell ?_ ?_ _) | (with_reducible refine Below.alloc ?_ ?_ _) | (with_reducible refine below_after ?_ ?_ (by assumption)) | (show _ ≤ _; first | omega | (simp; done) | (simp; omega))))⟩
  | false =>
    have h : ¬ (0 : Int) ≤ n := of_decide_eq_false hn2
    clear hn2
    go_wp2
    go_ret
    exact ⟨by simp [h], by (repeat' (first | (with_reducible exact Below.refl _ _) | (with_reducible assumption) | (with_reducible refine below_drewN ?_ _) | (with_reducible refine Below.drew ?_) | (with_reducible refine Below.setCell ?_ ?_ _) | (with_reducible refine Below.alloc ?_ ?_ _) | (with_reducible refine below_after ?_ ?_ (by assumption)) | (show _ ≤ _; first | omega | (simp; done) | (simp; omega))))⟩
set_option maxHeartbeats 1000000 in
set_option maxRecDepth 100000 in
theorem contains_strs (q : Bool) (v : Value) (l : List ByteArray) (w : World) (hv : StrsAt w v l) (hq : l.any longText = q) :
    Calls Tryz.prog 118 #[v, .func (.func 119) #[] #[]] w fun e w' => e = .returned (.bool q) ∧ Below w.heap.size w w' := by
  have C := Lib.hid (index_strs v l w hv)
  clear hv
  rw [hq] at C
  clear hq
  go_enter Tryz.func118, Tryz.ntmps118
  go_wp2_with fail
  refine C.out.mono ?_
  rintro e w1 ⟨n, rfl, hn, hb⟩
  have hn2 := hn.out
  clear hn
  cases q with
  | true =>
    have h : (0 : Int) ≤ n := of_decide_eq_true hn2
    clear hn2
    go_wp2
    go_ret
    exact ⟨by simp, by (repeat' (first | (with_reducible exact Below.refl _ _) | (with_reducible assumption) | (with_reducible refine below_drewN ?_ _) | (with_reducible refine Below.drew ?_) | (with_reducible refine Below.setCell ?_ ?_ _) | (with_reducible refine Below.alloc ?_ ?_ _) | (with_reducible refine below_after ?_ ?_ (by assumption)) | (show _ ≤ _; first | omega | (simp; done) | (simp; omega))))⟩
  | false =>
    have h : ¬ (0 : Int) ≤ n := of_decide_eq_false hn2
    clear hn2
    go_wp2
    go_ret
    exact ⟨by simp [h], by (repeat' (first | (with_reducible exact Below.refl _ _) | (with_reducible assumption) | (with_reducible refine below_drewN ?_ _) | (with_reducible refine Below.drew ?_) | (with_reducible refine Below.setCell ?_ ?_ _) | (with_reducible refine Below.alloc ?_ ?_ _) | (with_reducible refine below_after ?_ ?_ (by assumption)) | (show _ ≤ _; first | omega | (simp; done) | (simp; omega))))⟩
end Go.Proofs.YtpkhcehddfmhpaaGreat

namespace Go.Proofs.YtpkhcehddfmhpaaGreat
open Go.RowKit

set_option maxHeartbeats 2000000 in
set_option maxRecDepth 100000 in
theorem samedev_one (k : Nat) (d a : Dev) (q : Bool) (hq : (a.id == d.id) = q) (w : World) (hr : RowAt w k 91 (devA d)) :
    Calls Tryz.prog 154 #[.agg #[.int .u64 a.id, .int .i64 a.ft, .int .i64 a.ad, .string a.lb, .int .i64 a.hr, .bool a.mu, .bool a.idf], .pointer (some ⟨k, 0, none⟩)] w
      fun e w' => e = .returned (.bool q) ∧ Below w.heap.size w w' := by
  have hr1 : RowAt (w.alloc (.cells (devA a) 91)) k 91 (devA d) := hr.alloc _
  have c0 := cell_fact hr 0
  have hlt := lt_of_block hr
  have HQ := Lib.hid hq
  have hb : Below w.heap.size w (w.alloc (.cells (devA a) 91)) := (Below.refl _ _).alloc (Nat.le_refl _) _
  have c00 : w.cell? ⟨k, 0, none⟩ = some (.int .u64 d.id) := c0
  clear hr hr1 c0 hq
  go_enter Tryz.func154, Tryz.ntmps154
  go_wp2
  go_ret
  exact ⟨ret_bool (by rw [← HQ.out]), hb⟩

set_option maxHeartbeats 4000000 in
set_option maxRecDepth 100000 in
theorem index_devs (k : Nat) (d : Dev) (v : Value) (l : List Dev) (w : World) (hv : DevsAt w v l) (hr : RowAt w k 91 (devA d)) :
    Calls Tryz.prog 177 #[v, .func (.func 154) #[] #[.pointer (some ⟨k, 0, none⟩)]] w
      fun e w' => ∃ n : Int, e = .returned (.int .i64 n) ∧ Hid (decide (0 ≤ n) = l.any fun a => a.id == d.id) ∧ Below w.heap.size w w' := by
  rcases hv with ⟨h0, a, cap, rfl⟩ | ⟨h0, h1, b, off, cap, rfl, hlt, hc⟩
  · have hl : l = [] := List.eq_nil_of_length_eq_zero h0
    subst hl
    go_enter Tryz.func177, Tryz.ntmps177
    go_wp2
    refine wp_loop_rounds 1 ?_
    rw [rounds_succ]
    go_wp2
    go_ret
    exact ⟨_, rfl, by simp [Hid], by (repeat' (first | (with_reducible exact Below.refl _ _) | (with_reducible assumption) | (with_reducible refine below_drewN ?_ _) | (with_reducible refine Below.drew ?_) | (with_reducible refine Below.setCell ?_ ?_ _) | (with_reducible refine Below.alloc ?_ ?_ _) | (with_reducible refine below_after ?_ ?_ (by assumption)) | (show _ ≤ _; first | omega | (simp; done) | (simp; omega))))⟩
  · have h4 : (0 : Int) < (l.length : Int) := by omega
    have hklt : k < w.heap.size := lt_of_block hr
    go_enter Tryz.func177, Tryz.ntmps177
    go_wp2
    go_loopw [5, 8] (fun _ i wr => ∃ k : Nat, k ≤ l.length ∧ i = .int .i64 k ∧ ((l.take k).any fun a => a.id == d.id) = false ∧ Below w.heap.size w wr) (fun _ i _ => l.length - (intOf i).toNat)
    case atStart => exact ⟨0, Nat.zero_le _, rfl, rfl, by (repeat' (first | (with_reducible exact Below.refl _ _) | (with_reducible assumption) | (with_reducible refine below_drewN ?_ _) | (with_reducible refine Below.drew ?_) | (with_reducible refine Below.setCell ?_ ?_ _) | (with_reducible refine Below.alloc ?_ ?_ _) | (with_reducible refine below_after ?_ ?_ (by assumption)) | (show _ ≤ _; first | omega | (simp; done) | (simp; omega))))⟩
    case round =>
      obtain ⟨j, hj, rfl, hany, hb0⟩ := hrel
      by_cases hlt2 : j < l.length
      · have hlt3 : (j : Int) < (l.length : Int) := by omega
        have hc' : ∀ i, i < l.length * 7 → wr.cell? ⟨b, off + i, none⟩ = devsC l i := fun i hi => (hb0.cell (p := ⟨b, off + i, none⟩) hlt).trans (hc i hi)
        obtain ⟨a, ha, e0, e1, e2, e3, e4, e5, e6⟩ := dev_cells hc' j hlt2
        have hrr := hr.run hb0
        have HA := Lib.hid hany
        have HS := Lib.hid ha
        have HT := Lib.hid (take_succ_some ha)
        obtain ⟨q, hq⟩ : ∃ q, (a.id == d.id) = q := ⟨_, rfl⟩
        have C := Lib.hid (samedev_one k d a q hq wr hrr)
        have HQ := Lib.hid hq
        have HR := Lib.hid hr
        clear hc hc' ha hany hrr hq hr
        cases q with
        | true =>
          go_wp2_with fail
          refine C.out.mono ?_
          rintro e w' ⟨rfl, hb⟩
          go_wp2
          go_ret
          refine ⟨_, rfl, ?_, below_run hb0 hb⟩
          have hx : (l.any fun a => a.id == d.id) = true := List.any_eq_true.2 ⟨a, List.mem_of_getElem? HS.out, HQ.out⟩
          simp only [Hid, hx]
          exact decide_eq_true (by omega)
        | false =>
          go_wp2_with fail
          refine C.out.mono ?_
          rintro e w' ⟨rfl, hb⟩
          have hb2 := below_run hb0 hb
          clear hb hb0
          go_wp2
          go_roundw
          case rel => exact ⟨j + 1, by omega, by go_num, by rw [HT.out, List.any_append, HA.out]; simp [HQ.out], hb2⟩
          case measure => simp [intOf]; omega
      · have hlt3 : ¬ (j : Int) < (l.length : Int) := by omega
        obtain rfl : j = l.length := by omega
        rw [List.take_length] at hany
        have HA := Lib.hid hany
        clear hany
        go_wp2
        go_ret
        exact ⟨_, rfl, by simp [Hid, HA.out], hb0⟩
set_option maxHeartbeats 4000000 in
set_option maxRecDepth 100000 in
theorem contains_devs (p : Bool) (k : Nat) (d : Dev) (v : Value) (l : List Dev) (w : World) (hv : DevsAt w v l) (hr : RowAt w k 91 (devA d)) (hp : decide (d.id ∈ l.map (·.id)) = p) :
    Calls Tryz.prog 153 #[v, .func (.func 154) #[] #[.pointer (some ⟨k, 0, none⟩)]] w
      fun e w' => e = .returned (.bool p) ∧ Below w.heap.size w w' := by
  have C := Lib.hid (index_devs k d v l w hv hr)
  have hany : (l.any fun a => a.id == d.id) = p := by
    rw [← hp]
    rw [Bool.eq_iff_iff]
    simp only [List.any_eq_true, beq_iff_eq, decide_eq_true_eq, List.mem_map]
  rw [hany] at C
  clear hv hr hp hany
  go_enter Tryz.func153, Tryz.ntmps153
  go_wp2_with fail
  refine C.out.mono ?_
  rintro e w1 ⟨n, rfl, hn, hb⟩
  have hn2 := hn.out
  clear hn
  cases p with
  | true =>
    have h : (0 : Int) ≤ n := of_decide_eq_true hn2
    clear hn2
    go_wp2
    go_ret
    exact ⟨by simp, by (repeat' (first | (with_reducible exact Below.refl _ _) | (with_reducible assumption) | (with_reducible refine below_drewN ?_ _) | (with_reducible refine Below.drew ?_) | (with_reducible refine Below.setCell ?_ ?_ _) | (with_reducible refine Below.alloc ?_ ?_ _) | (with_reducible refine below_after ?_ ?_ (by assumption)) | (show _ ≤ _; first | omega | (simp; done) | (simp; omega))))⟩
  | false =>
    have h : ¬ (0 : Int) ≤ n := of_decide_eq_false hn2
    clear hn2
    go_wp2
    go_ret
    exact ⟨by simp [h], by (repeat' (first | (with_reducible exact Below.refl _ _) | (with_reducible assumption) | (with_reducible refine below_drewN ?_ _) | (with_reducible refine Below.drew ?_) | (with_reducible refine Below.setCell ?_ ?_ _) | (with_reducible refine Below.alloc ?_ ?_ _) | (with_reducible refine below_after ?_ ?_ (by assumption)) | (show _ ≤ _; first | omega | (simp; done) | (simp; omega))))⟩

set_option maxHeartbeats 4000000 in
set_option maxRecDepth 100000 in
theorem mdevices_any (n : Int) (v : Value) (l : List Dev) (w : World) (hv : DevsAt w v l) (hcap : RoomOk v) (hn : devsE l = n) :
    Calls Tryz.prog 115 #[v] w fun e w' => e = .returned (.int .i64 n) ∧ Below w.heap.size w w' := by
  have HN := Lib.hid hn
  clear hn
  rcases hv with ⟨h0, a, cap, rfl⟩ | ⟨h0, h1, b, off, cap, rfl, hlt, hc⟩
  · have hl : l = [] := List.eq_nil_of_length_eq_zero h0
    subst hl
    go_enter Tryz.func115, Tryz.ntmps115
    go_wp2
    refine wp_loop_rounds 1 ?_
    rw [rounds_succ]
    go_wp2
    go_ret
    exact ⟨ret_int (by rw [← HN.out]; rfl), Below.refl _ _⟩
  · by_cases h64 : 64 < l.length
    · have h64' : (64 : Int) < (l.length : Int) := by omega
      have HE : Hid (n = 5) := by show n = 5; rw [← HN.out, devsE, if_pos h64]
      clear h64
      go_enter Tryz.func115, Tryz.ntmps115
      go_wp2
      go_ret
      exact ⟨ret_int (by rw [HE.out]), Below.refl _ _⟩
    · have h64' : (l.length : Int) ≤ 64 := by omega
      have h4 : (0 : Int) < (l.length : Int) := by omega
      have HE : Hid (n = dErr [] l) := by show n = _; rw [← HN.out, devsE, if_neg h64]
      have hlc : l.length ≤ cap := hcap _ _ _ rfl
      clear h64
      go_enter Tryz.func115, Tryz.ntmps115
      go_wp2_with fail
      go_loopw [3, 4, 5, 11] (fun _ _ _ i wr => ∃ j : Nat, j ≤ l.length ∧ i = .int .i64 j ∧ Hid (dErr [] l = dErr ((l.take j).map (·.id)) (l.drop j)) ∧ Below w.heap.size w wr) (fun _ _ _ i _ => l.length - (intOf i).toNat)
      case atStart => exact ⟨0, Nat.zero_le _, rfl, rfl, Below.refl _ _⟩
      case round =>
        obtain ⟨j, hj, rfl, hE2, hbr⟩ := hrel
        by_cases hlt2 : j < l.length
        · have hlt3 : (j : Int) < (l.length : Int) := by omega
          have hj0 : (0 : Int) ≤ (j : Int) := by omega
          have hj1 : (j : Int) ≤ (cap : Int) := by omega
          have hblt : b < wr.heap.size := by have := hbr.size; omega
          have hcel : ∀ i, i < l.length * 7 → wr.cell? ⟨b, off + i, none⟩ = devsC l i := fun i hi => (hbr.cell (p := ⟨b, off + i, none⟩) hlt).trans (hc i hi)
          obtain ⟨d, hd, e0, e1, e2, e3, e4, e5, e6⟩ := dev_cells hcel j hlt2
          have HD := Lib.hid hd
          have HPT := Lib.hid (fun (W : World) (h : Below wr.heap.size wr W) (cp : Nat) => (DevsAt.part (cap := cp) hblt (by omega) hcel (show j ≤ l.length by omega)).below h)
          obtain ⟨m, hm⟩ : ∃ m, chkD d = m := ⟨_, rfl⟩
          have HM := Lib.hid hm
          have hrz := hbr.size
          have HBR := Lib.hid hbr
          clear hd hcel hm hc hbr
          go_upto_region 6 with fail
          have rD : RowAt (wr.alloc (.cells #[.int .u64 d.id, .int .i64 d.ft, .int .i64 d.ad, .string d.lb, .int .i64 d.hr, .bool d.mu, .bool d.idf] 91)) wr.heap.size 91 (devA d) ∧ Below wr.heap.size wr (wr.alloc (.cells #[.int .u64 d.id, .int .i64 d.ft, .int .i64 d.ad, .string d.lb, .int .i64 d.hr, .bool d.mu, .bool d.idf] 91)) := ⟨RowAt.new _ _ _, (Below.refl _ _).alloc (Nat.le_refl _) _⟩
          generalize (wr.alloc (.cells #[.int .u64 d.id, .int .i64 d.ft, .int .i64 d.ad, .string d.lb, .int .i64 d.hr, .bool d.mu, .bool d.idf] 91)) = w1 at rD ⊢
          generalize hgk : wr.heap.size = k1 at rD ⊢
          have RD := Lib.hid rD.1
          have HB1 := Lib.hid rD.2
          obtain ⟨x1, x2, x3, x4, x5, x6⟩ := row_facts rD.1
          have HGK := Lib.hid hgk
          clear rD hgk e0 e1 e2 e3 e4 e5 e6
          go_wp2_with fail
          refine (dchk_is m d.id d.ft d.ad d.hr d.lb d.mu d.idf _ HM).mono ?_
          rintro e w2 ⟨rfl, hb2⟩
          have R2 := Lib.hid (RD.out.run hb2)
          have HB2 := Lib.hid (show Below wr.heap.size wr w2 by have h1 := HB1.out; rw [← HGK.out] at h1; exact below_run h1 hb2)
          clear x1 x2 x3 x4 x5 x6 hb2
          by_cases hm0 : m = 0
          · subst hm0
            obtain ⟨p, hp⟩ : ∃ p, decide (d.id ∈ (l.take j).map (·.id)) = p := ⟨_, rfl⟩
            have HP := Lib.hid hp
            have CC := Lib.hid (fun cp => contains_devs p k1 d (.slice (some ⟨b, off, none⟩) j cp) (l.take j) w2 (HPT.out _ HB2.out _) R2.out hp)
            clear hp
            go_wp2_with fail
            refine (CC.out _).mono ?_
            rintro e w3 ⟨rfl, hb3⟩
            have HB3 := Lib.hid (below_run (below_run HBR.out HB2.out) hb3)
            clear hb3
            cases p with
            | true =>
              go_wp2
              go_ret
              exact ⟨ret_int (by rw [HE.out, hE2.out, drop_some HD.out, dErr_twice HM.out (of_decide_eq_true HP.out)]), HB3.out⟩
            | false =>
              go_wp2
              go_roundw
              case rel => exact ⟨j + 1, by omega, by go_num, by show dErr [] l = _; rw [hE2.out, drop_some HD.out, dErr_on HM.out (of_decide_eq_false HP.out), ids_take HD.out], HB3.out⟩
              case measure => simp [intOf]; omega
          · have e9 : (m != 0) = true := by simpa using hm0
            have HZ := Lib.hid hm0
            clear hm0
            go_wp2
            go_ret
            exact ⟨ret_int (by rw [HE.out, hE2.out, drop_some HD.out, dErr_bad HM.out HZ.out]), below_run HBR.out HB2.out⟩
        · obtain rfl : j = l.length := by omega
          go_wp2
          go_ret
          exact ⟨ret_int (by rw [HE.out, hE2.out, List.drop_length]; rfl), hbr⟩

/-- A wire's parts in memory. -/
structure WireAt (w : World) (dv fv lv : Value) (x : Wre) : Prop where
  devs : DevsAt w dv x.devs
  room : RoomOk dv
  faults : IntsAt w fv x.faults
  late : StrsAt w lv x.late
theorem StrsAt.runM {w w' : World} {v : Value} {l : List ByteArray} (h : StrsAt w v l) (hb : Below w.heap.size w w') : StrsAt w' v l := SeqAt.below h hb
theorem WireAt.run {w w' : World} {dv fv lv : Value} {x : Wre} (h : WireAt w dv fv lv x) (hb : Below w.heap.size w w') : WireAt w' dv fv lv x :=
  ⟨h.devs.below hb, h.room, h.faults.run hb, h.late.runM hb⟩

set_option maxHeartbeats 4000000 in
set_option maxRecDepth 100000 in
theorem mcheck_any (n : Int) (da fa la : Option Addr) (dn dc fn fc ln lc : Nat) (x : Wre) (w : World) (h : WireAt w (.slice da dn dc) (.slice fa fn fc) (.slice la ln lc) x) (hn : wireE x = n) :
    Calls Tryz.prog 87 #[.agg #[.slice da dn dc, .slice fa fn fc, .slice la ln lc]] w fun e w' => e = .returned (.int .i64 n) ∧ Below w.heap.size w w' := by
  have hfn : fn = x.faults.length := by rcases h.faults with ⟨h0, _, _, e⟩ | ⟨_, _, _, _, _, e, _⟩ <;> cases e <;> omega
  have hln : ln = x.late.length := by rcases h.late with ⟨h0, _, _, e⟩ | ⟨_, _, _, _, _, e, _⟩ <;> cases e <;> omega
  subst hfn hln
  have HN := Lib.hid hn
  have hb0 : Below w.heap.size w (w.alloc (.cells #[.slice da dn dc, .slice fa x.faults.length fc, .slice la x.late.length lc] 29)) := (Below.refl _ _).alloc (Nat.le_refl _) _
  obtain ⟨m, hm⟩ : ∃ m, devsE x.devs = m := ⟨_, rfl⟩
  obtain ⟨q1, hq1⟩ : ∃ q, x.faults.any badFault = q := ⟨_, rfl⟩
  obtain ⟨q2, hq2⟩ : ∃ q, x.late.any longText = q := ⟨_, rfl⟩
  have CD := Lib.hid (mdevices_any m _ x.devs _ (h.run hb0).devs h.room hm)
  have CI := Lib.hid (fun W hv => contains_ints q1 (.slice fa x.faults.length fc) x.faults W hv hq1)
  have CS := Lib.hid (fun W hv => contains_strs q2 (.slice la x.late.length lc) x.late W hv hq2)
  have HX := Lib.hid (show n = if m ≠ 0 then m else if 4096 < x.faults.length then 5 else if q1 = true then 1 else if 64 < x.late.length then 5 else if q2 = true then 13 else 0 by rw [← hn, wireE, hm, hq1, hq2])
  have HB0 := Lib.hid hb0
  have H := Lib.hid h
  have R0 := Lib.hid (RowAt.new w 29 #[.slice da dn dc, .slice fa x.faults.length fc, .slice la x.late.length lc])
  clear hn hb0 hm hq1 hq2 h
  go_enter Tryz.func87, Tryz.ntmps87
  go_wp2_with fail
  refine CD.out.mono ?_
  rintro e w1 ⟨rfl, hb1⟩
  have r1 := R0.out.run hb1
  have HB1 := Lib.hid (below_run HB0.out hb1)
  obtain ⟨x1, x2, x3, x4, x5, x6⟩ := row_facts r1
  have R1 := Lib.hid r1
  clear r1 hb1 CD
  by_cases hm0 : m = 0
  · subst hm0
    by_cases g1 : 4096 < x.faults.length
    · have g1' : (4096 : Int) < (x.faults.length : Int) := by omega
      have HE : Hid (n = 5) := by show n = 5; rw [HX.out, if_neg (by decide), if_pos g1]
      clear g1
      go_wp2
      go_ret
      exact ⟨ret_int (by rw [HE.out]), HB1.out⟩
    · have g1' : ¬ (4096 : Int) < (x.faults.length : Int) := by omega
      have HX1 := Lib.hid (show n = if q1 = true then 1 else if 64 < x.late.length then 5 else if q2 = true then 13 else 0 by rw [HX.out, if_neg (by decide), if_neg g1])
      clear g1
      go_wp2_with fail
      refine (CI.out _ (H.out.run HB1.out).faults).mono ?_
      rintro e w2 ⟨rfl, hb2⟩
      have r2 := R1.out.run hb2
      have HB2 := Lib.hid (below_run HB1.out hb2)
      obtain ⟨y1, y2, y3, y4, y5, y6⟩ := row_facts r2
      have R2 := Lib.hid r2
      clear r2 hb2 x1 x2 x3 x4 x5 x6
      cases q1 with
      | true =>
        go_wp2
        go_ret
        exact ⟨ret_int (by rw [HX1.out]; rfl), HB2.out⟩
      | false =>
        by_cases g2 : 64 < x.late.length
        · have g2' : (64 : Int) < (x.late.length : Int) := by omega
          have HE : Hid (n = 5) := by show n = 5; rw [HX1.out, if_neg (by decide), if_pos g2]
          clear g2
          go_wp2
          go_ret
          exact ⟨ret_int (by rw [HE.out]), HB2.out⟩
        · have g2' : ¬ (64 : Int) < (x.late.length : Int) := by omega
          have HX2 := Lib.hid (show n = if q2 = true then 13 else 0 by rw [HX1.out, if_neg (by decide), if_neg g2])
          clear g2
          go_wp2_with fail
          refine (CS.out _ (H.out.run HB2.out).late).mono ?_
          rintro e w3 ⟨rfl, hb3⟩
          have HB3 := Lib.hid (below_run HB2.out hb3)
          clear hb3
          cases q2 with
          | true =>
            go_wp2
            go_ret
            exact ⟨ret_int (by rw [HX2.out]; rfl), HB3.out⟩
          | false =>
            go_wp2
            go_ret
            exact ⟨ret_int (by rw [HX2.out]; rfl), HB3.out⟩
  · have e9 : (m != 0) = true := by simpa using hm0
    have HE : Hid (n = m) := by show n = m; rw [HX.out, if_pos hm0]
    clear hm0
    go_wp2
    go_ret
    exact ⟨ret_int (by rw [HE.out]), HB1.out⟩
end Go.Proofs.YtpkhcehddfmhpaaGreat
