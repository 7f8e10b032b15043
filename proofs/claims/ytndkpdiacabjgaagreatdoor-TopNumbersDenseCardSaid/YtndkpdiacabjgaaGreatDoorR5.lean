/-
  Lists of numbers that ascend: both sides.
-/
import Derived.Test.YtndkpdiacabjgaaGreatDoorQ5
import Derived.Test.YtndkpdiacabjgaaGreatDoorSeqs
import Derived.Test.YtndkpdiacabjgaaGreatDoorQt5
namespace Go.Proofs.YtndkpdiacabjgaaGreatDoor
open Go.RowKit

theorem dval_zero : ∀ l : List UInt8, l.all isDig = true → dval l = 0 → ∀ b ∈ l, b = 48
  | [], _, _ => fun b hb => by cases hb
  | a :: l, h, h0 => by
    rw [List.all_cons, Bool.and_eq_true] at h
    rw [dval_cons] at h0
    have ha := isDig_le h.1
    have hp : 0 < 10 ^ l.length := Nat.pow_pos (by decide)
    have h1 : dval l = 0 := by omega
    have h2 : (a.toNat - 48) * 10 ^ l.length = 0 := by omega
    have h3 : a.toNat = 48 := by
      rcases Nat.mul_eq_zero.1 h2 with h | h
      · omega
      · omega
    intro b hb
    rcases List.mem_cons.1 hb with rfl | hb
    · exact UInt8.toNat_inj.1 h3
    · exact dval_zero l h.2 h1 b hb

/-- The thousandths of a number are not 0. -/
theorem val_pos {l : List UInt8} (h : chk5 l = 0) : 0 < val5 l := by
  refine Nat.pos_of_ne_zero fun h0 => ?_
  obtain ⟨h1, h2, h3, h4⟩ := chk_ok h
  have hall : (wholeOf l).all isDig = true := by
    unfold digs at h1
    rw [Bool.and_eq_true] at h1
    exact h1.1
  have ht : ((restOf l ++ [48, 48, 48]).take 3).all isDig = true := all_take _ _ (by rw [List.all_append, h3]; rfl)
  have hz := dval_zero _ (by rw [List.all_append, hall, ht]; rfl) h0
  have hw : ∀ b ∈ wholeOf l, b = 48 := fun b hb => hz b (List.mem_append_left _ hb)
  have hf : formE (wholeOf l) (restOf l) (hasPt l) = true := by
    unfold chk5 at h
    split at h
    · cases h
    · rename_i hh
      simpa using hh
  unfold formE at hf
  rw [Bool.and_eq_true, Bool.and_eq_true] at hf
  have hne : l ≠ [48] := fun e => by
    subst e
    exact absurd h (by decide)
  rcases cut_pt_idx l with ⟨e1, -, e3⟩ | ⟨e1, -, e3, e4⟩
  · have hr := hf.2.1
    rw [e1] at hr
    simp only [Bool.not_true, Bool.false_or, Bool.and_eq_true] at hr
    cases hl : (restOf l).getLast? with
    | none =>
      rw [List.getLast?_eq_none_iff.1 hl] at hr
      simp [digs] at hr
    | some b =>
      have hb : b ∈ restOf l := List.mem_of_getLast? hl
      have hmem : b ∈ (restOf l ++ [48, 48, 48]).take 3 := by
        rw [List.take_append]
        refine List.mem_append_left _ ?_
        rw [List.take_of_length_le h4]
        exact hb
      have := hz b (List.mem_append_right _ hmem)
      rw [hl, this] at hr
      simp at hr
  · have h5 := hf.2.2
    cases hw2 : wholeOf l with
    | nil => rw [hw2] at h1; simp [digs] at h1
    | cons a t =>
      have ha : a = 48 := hw a (by rw [hw2]; exact List.mem_cons_self)
      rw [hw2, ha] at h5
      have ht0 : t = [] := by
        have : t.length = 0 := by simpa using h5
        exact List.eq_nil_of_length_eq_zero this
      apply hne
      rw [← e3, hw2, ha, ht0]

theorem asc_bad {z n : Int} {s : ByteArray} {l : List ByteArray} (h : chk5 s.data.toList = n) (hn : n ≠ 0) : asc5 z (s :: l) = n := by rw [asc5, if_neg (by rw [h]; exact hn), h]
theorem asc_low {z : Int} {s : ByteArray} {l : List ByteArray} (h : chk5 s.data.toList = 0) (h2 : (val5 s.data.toList : Int) ≤ z) : asc5 z (s :: l) = 9 := by rw [asc5, if_pos h, if_pos h2]
theorem asc_on {z : Int} {s : ByteArray} {l : List ByteArray} (h : chk5 s.data.toList = 0) (h2 : ¬ (val5 s.data.toList : Int) ≤ z) : asc5 z (s :: l) = asc5 (val5 s.data.toList) l := by rw [asc5, if_pos h, if_neg h2]
theorem drop_some5 {α : Type} {l : List α} {k : Nat} {d : α} (h : l[k]? = some d) : l.drop k = d :: l.drop (k + 1) := by
  obtain ⟨hk, rfl⟩ := List.getElem?_eq_some_iff.1 h
  exact List.drop_eq_getElem_cons hk

set_option maxHeartbeats 4000000 in
set_option maxRecDepth 100000 in
theorem asc5_any (v : Value) (l : List ByteArray) (w : World) (hv : StrsAt w v l) (hs : ∀ s ∈ l, s.size ≤ 9223372036854775806) :
    Calls Tryz.prog 11 #[v] w fun e w' => e = .returned (.int .i64 (asc5 0 l)) ∧ Below w.heap.size w w' := by
  have HS := Lib.hid hs
  clear hs
  rcases hv with ⟨h0, a, cap, rfl⟩ | ⟨h0, h1, b, off, cap, rfl, hlt, hc⟩
  · have hl : l = [] := List.eq_nil_of_length_eq_zero h0
    subst hl
    go_enter Tryz.func11, Tryz.ntmps11
    go_wp2
    refine wp_loop_rounds 1 ?_
    rw [rounds_succ]
    go_wp2
    go_ret
    exact ⟨rfl, by (repeat' (first | (with_reducible exact Below.refl _ _) | (with_reducible assumption) | (with_reducible refine below_drewN ?_ _) | (with_reducible refine Below.drew ?_) | (with_reducible refine Below.setCell ?_ ?_ _) | (with_reducible refine Below.alloc ?_ ?_ _) | (with_reducible refine below_after ?_ ?_ (by assumption)) | (show _ ≤ _; first | omega | (simp; done) | (simp; omega))))⟩
  · have h4 : (0 : Int) < (l.length : Int) := by omega
    go_enter Tryz.func11, Tryz.ntmps11
    go_wp2
    go_loopw [3, 10] (fun z i wr => ∃ (k : Nat) (zz : Int), k ≤ l.length ∧ i = .int .i64 k ∧ z = .int .i64 zz ∧ Hid (asc5 0 l = asc5 zz (l.drop k)) ∧ Below w.heap.size w wr) (fun _ i _ => l.length - (intOf i).toNat)
    case atStart => exact ⟨0, 0, Nat.zero_le _, rfl, rfl, rfl, by (repeat' (first | (with_reducible exact Below.refl _ _) | (with_reducible assumption) | (with_reducible refine below_drewN ?_ _) | (with_reducible refine Below.drew ?_) | (with_reducible refine Below.setCell ?_ ?_ _) | (with_reducible refine Below.alloc ?_ ?_ _) | (with_reducible refine below_after ?_ ?_ (by assumption)) | (show _ ≤ _; first | omega | (simp; done) | (simp; omega))))⟩
    case round =>
      obtain ⟨k, zz, hk, rfl, rfl, hasc, hb0⟩ := hrel
      by_cases hlt2 : k < l.length
      · have hlt3 : (k : Int) < (l.length : Int) := by omega
        have hc' : ∀ j, j < l.length * 1 → wr.cell? ⟨b, off + j, none⟩ = strsC l j := fun j hj => (hb0.cell (p := ⟨b, off + j, none⟩) hlt).trans (hc j hj)
        obtain ⟨s, hsk, e0⟩ := str_cell hc' k hlt2
        have hsz := HS.out s (List.mem_of_getElem? hsk)
        have HK := Lib.hid hsk
        obtain ⟨n, hn⟩ : ∃ n, chk5 s.data.toList = n := ⟨_, rfl⟩
        by_cases n0 : n = 0
        · subst n0
          have C := fun W => thou5_is (val5 s.data.toList) 0 s W hsz (thou_good hn)
          have HN := Lib.hid hn
          obtain ⟨x, hx⟩ : ∃ x : Int, (val5 s.data.toList : Int) = x := ⟨_, rfl⟩
          rw [hx] at C
          have HC := Lib.hid C
          have HX := Lib.hid hx
          clear hc hc' hsk hsz hn C hx
          go_wp2_with fail
          refine (HC.out _).mono ?_
          rintro e w1 ⟨rfl, hb1⟩
          have hbw := below_run hb0 hb1
          by_cases hle : x ≤ zz
          · go_wp2
            go_ret
            exact ⟨ret_int (by rw [hasc.out, drop_some5 HK.out, asc_low HN.out (by rw [HX.out]; exact hle)]), hbw⟩
          · have HL := Lib.hid hle
            go_wp2
            go_roundw
            case rel => exact ⟨k + 1, x, by omega, by go_num, rfl, by show asc5 0 l = _; rw [hasc.out, drop_some5 HK.out, asc_on HN.out (by rw [HX.out]; have := HL.out; omega), HX.out], hbw⟩
            case measure => simp [intOf]; omega
        · have C := Lib.hid (fun W => thou5_is 0 n s W hsz (thou_bad hn n0))
          have HN := Lib.hid hn
          have e9 : (n != 0) = true := by simpa using n0
          have HN0 := Lib.hid n0
          clear hc hc' hsk hsz hn n0
          go_wp2_with fail
          refine (C.out _).mono ?_
          rintro e w1 ⟨rfl, hb1⟩
          go_wp2
          go_ret
          exact ⟨ret_int (by rw [hasc.out, drop_some5 HK.out, asc_bad HN.out HN0.out]), below_run hb0 hb1⟩
      · have hlt3 : ¬ (k : Int) < (l.length : Int) := by omega
        have hd : l.drop k = [] := List.drop_of_length_le (by omega)
        have HD := Lib.hid hd
        clear hd hc
        go_wp2
        go_ret
        exact ⟨ret_int (by rw [hasc.out, HD.out]; rfl), hb0⟩

/-- What the reference's loop knows. -/
def AscInv (l : List ByteArray) (k : Nat) : Prop := ∃ zz : Int, asc5 0 l = asc5 zz (l.drop k) ∧ (k = 0 → zz = 0) ∧ ∀ j p, k = j + 1 → l[j]? = some p → chk5 p.data.toList = 0 ∧ zz = val5 p.data.toList
theorem asc_next {l : List ByteArray} {k : Nat} {s : ByteArray} (hs : l[k]? = some s) (hn : chk5 s.data.toList = 0) (h : asc5 0 l = asc5 (val5 s.data.toList) (l.drop (k + 1))) : AscInv l (k + 1) :=
  ⟨_, h, fun h => absurd h (by omega), fun j p hj hp => by
    obtain rfl : k = j := by omega
    obtain rfl := Option.some.inj (hs.symm.trans hp)
    exact ⟨hn, rfl⟩⟩

theorem quiet_more {P : Program} {f : FuncId} {args : Array Value} {w : World} {n : Nat} {v : Value}
    (h : Calls P f args (w.drewN n) fun e w' => e = .returned v ∧ ∃ m, w' = (w.drewN n).drewN m) : Calls P f args (w.drewN n) fun e w'' => e = .returned v ∧ ∃ m, w'' = w.drewN m :=
  h.mono fun _ _ ⟨he, m, hm⟩ => ⟨he, n + m, by rw [hm]; simp⟩

theorem rorder_is (o : Int) (a b : ByteArray) (w : World) (ha : a.size ≤ 9223372036854775806) (hb : b.size ≤ 9223372036854775806) (h1 : chk5 a.data.toList = 0) (h2 : chk5 b.data.toList = 0) (ho : ord5 (val5 a.data.toList) (val5 b.data.toList) = o) :
    Calls Tryz.prog 7 #[.string a, .string b] w fun e w' => e = .returned (.int .i64 o) ∧ ∃ n, w' = w.drewN n := by
  have := rorder_quiet a b w ha hb h1 h2
  rw [ho] at this
  exact this

end Go.Proofs.YtndkpdiacabjgaaGreatDoor
