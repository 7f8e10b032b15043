/-
  A map from identities to true: what it holds.
  The checks, with their result as a variable.
  The error of a list of devices: the reference.
-/
import Derived.Test.YtpkhcehddfmhpaaGreatSent
import Derived.Test.YtpkhcehddfmhpaaGreatIds
import Derived.Test.YtpkhcehddfmhpaaGreatDchk
import Derived.Test.YtpkhcehddfmhpaaGreatChk
import Derived.Test.YtpkhcehddfmhpaaGreatRchk
namespace Go.Proofs.YtpkhcehddfmhpaaGreat
open Go.RowKit

/-- The entries of a set of identities, in the order in which they came. -/
def entL : List Int → Nat → List MapEntry
  | [], _ => []
  | a :: l, n => { key := .int .u64 a, val := .bool true, born := n } :: entL l (n + 1)

theorem entL_snoc (l : List Int) (a : Int) (n : Nat) : entL (l ++ [a]) n = entL l n ++ [{ key := .int .u64 a, val := .bool true, born := n + l.length }] := by
  induction l generalizing n with
  | nil => rfl
  | cons b l ih =>
    rw [List.cons_append, entL, entL, ih, List.cons_append, List.length_cons]
    congr 4
    omega

theorem entL_find (l : List Int) (x : Int) (n i : Nat) : ∃ r, Instr.findNow (.int .u64) (.int .u64 x) (entL l n) i = some r ∧ r.map (·.2) = if x ∈ l then some (.bool true) else none := by
  induction l generalizing n i with
  | nil => exact ⟨none, rfl, rfl⟩
  | cons b l ih =>
    by_cases h : x = b
    · subst h
      refine ⟨some (i, .bool true), ?_, by simp⟩
      simp [entL, Instr.findNow, Instr.sameNow]
    · obtain ⟨r, h1, h2⟩ := ih (n + 1) (i + 1)
      refine ⟨r, ?_, by rw [h2]; simp [h]⟩
      have hb : (x == b) = false := by simpa using h
      simp [entL, Instr.findNow, Instr.sameNow, hb, h1]

theorem entL_none (l : List Int) (x : Int) (h : x ∉ l) : Instr.findNow (.int .u64) (.int .u64 x) (entL l 0).toArray.toList 0 = some none := by
  obtain ⟨r, h1, h2⟩ := entL_find l x 0 0
  rw [if_neg h] at h2
  cases r with
  | none => exact h1
  | some p => cases h2

/-- A block is a set of identities. -/
def SeenAt (w : World) (b : Nat) (l : List Int) : Prop := w.heap[b]? = some (.map (entL l 0).toArray l.length)

theorem Tryz.zero_bool (w : World) : (zeroValue 4).run Tryz.prog w = .ok (.bool false) w := by kernel_rfl

theorem seen_look {w : World} {b : Nat} {l : List Int} (h : SeenAt w b l) (x : Int) : (Instr.lookup 149 (.map (some b)) (.int .u64 x) false).run Tryz.prog w = .ok (.bool (decide (x ∈ l))) w := by
  obtain ⟨r, h1, h2⟩ := entL_find l x 0 0
  have h1' : Instr.findNow (.int .u64) (.int .u64 x) (entL l 0).toArray.toList 0 = some r := h1
  have := run_lookup_ok (P := Tryz.prog) x b r (.bool false) (Tryz.zero_bool w) Tryz.underlying149 Tryz.underlying22 h h1' false
  rw [this, h2]
  by_cases hx : x ∈ l <;> simp [hx]

theorem seen_put {w : World} {b : Nat} {l : List Int} (h : SeenAt w b l) (x : Int) (hx : x ∉ l) :
    ∃ w2, (Instr.mapUpdate 149 (.map (some b)) (.int .u64 x) (.bool true)).run Tryz.prog w = .ok () w2 ∧ SeenAt w2 b (l ++ [x]) ∧ Upd b w w2 := by
  have hlt : b < w.heap.size := lt_of_block h
  refine ⟨{ w with heap := w.heap.setIfInBounds b (.map (entL (l ++ [x]) 0).toArray (l ++ [x]).length) }, ?_, ?_, ?_⟩
  · have hg : (getObj b).run Tryz.prog w = .ok (.map (entL l 0).toArray l.length) w := by
      unfold SeenAt at h
      simp only [getObj, Sem.run, h]
    have hs : ∀ o, (setObj b o).run Tryz.prog w = .ok () { w with heap := w.heap.setIfInBounds b o } := by
      intro o
      unfold SeenAt at h
      simp only [setObj, Sem.run, h]
    unfold Instr.mapUpdate
    simp [run_underlying Tryz.underlying149, hg, run_checkKey_int (P := Tryz.prog) (w := w) false 9999 x Tryz.underlying22, run_findKey_int (P := Tryz.prog) (w := w) x (entL l 0).toArray.toList none Tryz.underlying22 (entL_none l x hx), hs, entL_snoc]
  · show (w.heap.setIfInBounds b _)[b]? = _
    rw [Array.getElem?_setIfInBounds]
    simp [hlt]
  · refine ⟨rfl, rfl, rfl, by simp, fun k _ hne => ?_⟩
    show (w.heap.setIfInBounds b _)[k]? = _
    rw [Array.getElem?_setIfInBounds, if_neg (by intro e; exact hne (by rw [e]))]

end Go.Proofs.YtpkhcehddfmhpaaGreat

namespace Go.Proofs.YtpkhcehddfmhpaaGreat
open Go.RowKit

theorem dchk_is (n id ft ad hr : Int) (lb : ByteArray) (mu idf : Bool) (w : World) (h : Hid (chkD ⟨id, ft, ad, lb, hr, mu, idf⟩ = n)) :
    Calls Tryz.prog 86 #[.agg #[.int .u64 id, .int .i64 ft, .int .i64 ad, .string lb, .int .i64 hr, .bool mu, .bool idf]] w fun e w' => e = .returned (.int .i64 n) ∧ Below w.heap.size w w' := by
  have := dchk_any id ft ad hr lb mu idf w
  rw [h.out] at this
  exact this
theorem refdchk_is (n id ft ad hr : Int) (lb : ByteArray) (mu idf : Bool) (w : World) (h : Hid (chkD ⟨id, ft, ad, lb, hr, mu, idf⟩ = n)) (hl : lb.size ≤ 9223372036854775807) :
    Calls Tryz.prog 163 #[.agg #[.int .u64 id, .int .i64 ft, .int .i64 ad, .string lb, .int .i64 hr, .bool mu, .bool idf]] w fun e w' => e = .returned (.int .i64 n) ∧ Below w.heap.size w w' := by
  have := refdchk_any id ft ad hr lb mu idf w hl
  rw [h.out] at this
  exact this
theorem chk_is (n dst src seq kind par : Int) (dat : ByteArray) (w : World) (h : Hid (chk ⟨dst, src, seq, kind, par, dat⟩ = n)) :
    Calls Tryz.prog 36 #[.agg #[.int .u64 dst, .int .u64 src, .int .i64 seq, .int .i64 kind, .int .i64 par, .string dat]] w fun e w' => e = .returned (.int .i64 n) ∧ Below w.heap.size w w' := by
  have := chk_any dst src seq kind par dat w
  rw [h.out] at this
  exact this
theorem refchk_is (n dst src seq kind par : Int) (dat : ByteArray) (w : World) (h : Hid (chk ⟨dst, src, seq, kind, par, dat⟩ = n)) :
    Calls Tryz.prog 95 #[.agg #[.int .u64 dst, .int .u64 src, .int .i64 seq, .int .i64 kind, .int .i64 par, .string dat]] w fun e w' => e = .returned (.int .i64 n) ∧ Below w.heap.size w w' := by
  have := refchk_any dst src seq kind par dat w
  rw [h.out] at this
  exact this

end Go.Proofs.YtpkhcehddfmhpaaGreat

namespace Go.Proofs.YtpkhcehddfmhpaaGreat
open Go.RowKit

/-- The number of the error of a list of devices. -/
def devsE (l : List Dev) : Int := if 64 < l.length then 5 else dErr [] l

theorem drop_some {l : List Dev} {k : Nat} {d : Dev} (h : l[k]? = some d) : l.drop k = d :: l.drop (k + 1) := by
  have hk : k < l.length := (List.getElem?_eq_some_iff.1 h).1
  have he : l[k] = d := (List.getElem?_eq_some_iff.1 h).2
  rw [List.drop_eq_getElem_cons hk, he]

theorem dErr_bad {seen : List Int} {l : List Dev} {d : Dev} {n : Int} (h : chkD d = n) (hn : n ≠ 0) : dErr seen (d :: l) = n := by
  subst h
  rw [dErr, if_pos hn]
theorem dErr_twice {seen : List Int} {l : List Dev} {d : Dev} (h : chkD d = 0) (hm : d.id ∈ seen) : dErr seen (d :: l) = 7 := by
  rw [dErr, if_neg (not_not_intro h), if_pos hm]
theorem dErr_on {seen : List Int} {l : List Dev} {d : Dev} (h : chkD d = 0) (hm : d.id ∉ seen) : dErr seen (d :: l) = dErr (seen ++ [d.id]) l := by
  rw [dErr, if_neg (not_not_intro h), if_neg hm]

theorem ids_take {l : List Dev} {k : Nat} {d : Dev} (h : l[k]? = some d) : (l.take (k + 1)).map (·.id) = (l.take k).map (·.id) ++ [d.id] := by
  rw [take_succ_some h]; simp

theorem ids_not {l : List Dev} {k : Nat} {x : Int} (h : ∀ i d, i < k → l[i]? = some d → d.id ≠ x) : x ∉ (l.take k).map (·.id) := by
  intro hm
  obtain ⟨d, hd, hx⟩ := List.mem_map.1 hm
  obtain ⟨i, hi, he⟩ := List.mem_iff_getElem.1 hd
  have hlen : i < k := by have := List.length_take_le k l; omega
  refine h i d hlen ?_ hx
  rw [List.getElem_take] at he
  exact List.getElem?_eq_some_iff.2 ⟨by simp at hi; omega, he⟩

theorem ids_in {l : List Dev} {i k : Nat} {d : Dev} (hi : i < k) (h : l[i]? = some d) : d.id ∈ (l.take k).map (·.id) := by
  refine List.mem_map.2 ⟨d, ?_, rfl⟩
  refine List.mem_of_getElem? (i := i) ?_
  rw [List.getElem?_take, if_pos hi, h]

set_option maxHeartbeats 4000000 in
set_option maxRecDepth 100000 in
theorem devices_err (v : Value) (l : List Dev) (w : World) (hv : DevsAt w v l) (hlb : ∀ d ∈ l, d.lb.size ≤ 9223372036854775807) :
    Calls Tryz.prog 130 #[v] w fun e w' => e = .returned (.int .i64 (devsE l)) ∧ Below w.heap.size w w' := by
  have HLB := Lib.hid hlb
  clear hlb
  rcases hv with ⟨h0, a, cap, rfl⟩ | ⟨h0, h1, b, off, cap, rfl, hlt, hc⟩
  · have hl : l = [] := List.eq_nil_of_length_eq_zero h0
    subst hl
    go_enter Tryz.func130, Tryz.ntmps130
    go_wp2
    refine wp_loop_rounds 1 ?_
    rw [rounds_succ]
    go_wp2
    go_ret
    exact ⟨rfl, by (repeat' (first | (with_reducible exact Below.refl _ _) | (with_reducible assumption) | (with_reducible refine below_run ?_ (by assumption)) | (with_reducible refine below_of_upd ?_ (by assumption) ?_) | (with_reducible refine below_drewN ?_ _) | (with_reducible refine Below.drew ?_) | (with_reducible refine below_seven ?_ ?_) | (with_reducible refine below_six ?_ ?_) | (with_reducible refine below_one ?_ ?_) | (with_reducible refine Below.alloc ?_ ?_ _) | (with_reducible refine below_after ?_ ?_ (by assumption)) | (show _ ≤ _; first | omega | (simp; done) | (simp; omega))))⟩
  · by_cases h2 : l.length ≤ 64
    · have h3 : (l.length : Int) ≤ 64 := by omega
      have h4 : (0 : Int) < (l.length : Int) := by omega
      have hE : Hid (devsE l = dErr [] l) := by show devsE l = _; rw [devsE, if_neg (by omega)]
      go_enter Tryz.func130, Tryz.ntmps130
      go_wp2
      go_loopw [3] (fun i wr => ∃ k : Nat, k ≤ l.length ∧ i = .int .i64 k ∧ Hid (dErr [] l = dErr ((l.take k).map (·.id)) (l.drop k)) ∧ Below w.heap.size w wr) (fun i _ => l.length - (intOf i).toNat)
      case atStart => exact ⟨0, Nat.zero_le _, rfl, rfl, Below.refl _ _⟩
      case round =>
        obtain ⟨k, hk, rfl, hE2, hb0⟩ := hrel
        by_cases hlt2 : k < l.length
        · have hlt3 : (k : Int) < (l.length : Int) := by omega
          have hk0 : (0 : Int) ≤ (k : Int) := by omega
          have hw1 : ∀ j, j < l.length * 7 → wr.cell? ⟨b, off + j, none⟩ = devsC l j := fun j hj => (hb0.cell (p := ⟨b, off + j, none⟩) hlt).trans (hc j hj)
          obtain ⟨d, hd, e0, e1, e2, e3, e4, e5, e6⟩ := dev_cells hw1 k hlt2
          obtain ⟨n, hn⟩ : ∃ n, chkD d = n := ⟨_, rfl⟩
          have HN := Lib.hid hn
          have HD := Lib.hid hd
          have HW := Lib.hid hw1
          have hdl := HLB.out d (List.mem_of_getElem? hd)
          have hblt : b < wr.heap.size := by have := hb0.size; omega
          clear hn hd hw1 hc
          by_cases z1 : n = 0
          · subst z1
            go_wp2_with fail
            refine (refdchk_is 0 d.id d.ft d.ad d.hr d.lb d.mu d.idf _ HN hdl).mono ?_
            rintro e w1 ⟨rfl, hb⟩
            have hb1 : Below w.heap.size w w1 := by (repeat' (first | (with_reducible exact Below.refl _ _) | (with_reducible assumption) | (with_reducible refine below_run ?_ (by assumption)) | (with_reducible refine below_of_upd ?_ (by assumption) ?_) | (with_reducible refine below_drewN ?_ _) | (with_reducible refine Below.drew ?_) | (with_reducible refine below_seven ?_ ?_) | (with_reducible refine below_six ?_ ?_) | (with_reducible refine below_one ?_ ?_) | (with_reducible refine Below.alloc ?_ ?_ _) | (with_reducible refine below_after ?_ ?_ (by assumption)) | (show _ ≤ _; first | omega | (simp; done) | (simp; omega))))
            have hx0 : w1.cell? ⟨b, off + k * 7, none⟩ = some (.int .u64 d.id) := (hb.cell (p := ⟨b, off + k * 7, none⟩) hblt).trans e0
            have HB := Lib.hid hb
            clear hb e0 e1 e2 e3 e4 e5 e6
            go_wp2
            go_loopw [5] (fun i ws => ∃ j : Nat, j ≤ k ∧ i = .int .i64 j ∧ Hid (∀ i d', i < j → l[i]? = some d' → d'.id ≠ d.id) ∧ Hid (∃ m, ws = w1.drewN m)) (fun i _ => k - (intOf i).toNat)
            case atStart => exact ⟨0, Nat.zero_le _, rfl, fun i d' hi => absurd hi (Nat.not_lt_zero _), ⟨0, rfl⟩⟩
            case round =>
              obtain ⟨j, hj, rfl, hno, hwd⟩ := hrel
              obtain ⟨m, hm⟩ := hwd.out
              subst hm
              clear hwd
              by_cases hj2 : j < k
              · have hj3 : (j : Int) < (k : Int) := by omega
                have hj4 : (j : Int) < (l.length : Int) := by omega
                have hj0 : (0 : Int) ≤ (j : Int) := by omega
                have hw2 : ∀ i, i < l.length * 7 → w1.cell? ⟨b, off + i, none⟩ = devsC l i := fun i hi => (HB.out.cell (p := ⟨b, off + i, none⟩) hblt).trans (HW.out i hi)
                obtain ⟨d', hd', f0, f1, f2, f3, f4, f5, f6⟩ := dev_cells hw2 j (by omega)
                have HD' := Lib.hid hd'
                obtain ⟨q, hq⟩ : ∃ q, (d'.id == d.id) = q := ⟨_, rfl⟩
                clear hw2 hd' f1 f2 f3 f4 f5 f6
                cases q
                · have hne : d'.id ≠ d.id := by simpa using hq
                  have HNE := Lib.hid hne
                  clear hne
                  go_wp2
                  go_quiet (fail)
                  go_wp2
                  go_roundw
                  case rel =>
                    refine ⟨j + 1, by omega, by go_num, ?_, ⟨_, rfl⟩⟩
                    intro i d2 hi hd2
                    by_cases hij : i < j
                    · exact hno.out i d2 hij hd2
                    · have : i = j := by omega
                      subst this
                      have := HD'.out
                      rw [hd2] at this
                      simp only [Option.some.injEq] at this
                      subst this
                      exact HNE.out
                  case measure => simp [intOf]; omega
                · have he : d'.id = d.id := by simpa using hq
                  have HEQ := Lib.hid he
                  clear he
                  go_wp2
                  go_quiet (fail)
                  go_wp2
                  go_ret
                  refine ⟨ret_int ?_, by (repeat' (first | (with_reducible exact Below.refl _ _) | (with_reducible assumption) | (with_reducible refine below_run ?_ (by assumption)) | (with_reducible refine below_of_upd ?_ (by assumption) ?_) | (with_reducible refine below_drewN ?_ _) | (with_reducible refine Below.drew ?_) | (with_reducible refine below_seven ?_ ?_) | (with_reducible refine below_six ?_ ?_) | (with_reducible refine below_one ?_ ?_) | (with_reducible refine Below.alloc ?_ ?_ _) | (with_reducible refine below_after ?_ ?_ (by assumption)) | (show _ ≤ _; first | omega | (simp; done) | (simp; omega))))⟩
                  rw [hE.out, hE2.out, drop_some HD.out, dErr_twice HN.out (by rw [← HEQ.out]; exact ids_in hj2 HD'.out)]
              · obtain rfl : j = k := by omega
                go_wp2
                go_roundw
                case rel => exact ⟨j + 1, by omega, by go_num, by show dErr [] l = _; rw [hE2.out, drop_some HD.out, ids_take HD.out, dErr_on HN.out (ids_not hno.out)], by (repeat' (first | (with_reducible exact Below.refl _ _) | (with_reducible assumption) | (with_reducible refine below_run ?_ (by assumption)) | (with_reducible refine below_of_upd ?_ (by assumption) ?_) | (with_reducible refine below_drewN ?_ _) | (with_reducible refine Below.drew ?_) | (with_reducible refine below_seven ?_ ?_) | (with_reducible refine below_six ?_ ?_) | (with_reducible refine below_one ?_ ?_) | (with_reducible refine Below.alloc ?_ ?_ _) | (with_reducible refine below_after ?_ ?_ (by assumption)) | (show _ ≤ _; first | omega | (simp; done) | (simp; omega))))⟩
                case measure => simp [intOf]; omega
          · have e9 : (n != 0) = true := by simpa using z1
            have HZ := Lib.hid z1
            clear z1
            go_wp2_with fail
            refine (refdchk_is n d.id d.ft d.ad d.hr d.lb d.mu d.idf _ HN hdl).mono ?_
            rintro e w1 ⟨rfl, hb⟩
            go_wp2
            go_ret
            exact ⟨ret_int (by rw [hE.out, hE2.out, drop_some HD.out, dErr_bad HN.out HZ.out]), by (repeat' (first | (with_reducible exact Below.refl _ _) | (with_reducible assumption) | (with_reducible refine below_run ?_ (by assumption)) | (with_reducible refine below_of_upd ?_ (by assumption) ?_) | (with_reducible refine below_drewN ?_ _) | (with_reducible refine Below.drew ?_) | (with_reducible refine below_seven ?_ ?_) | (with_reducible refine below_six ?_ ?_) | (with_reducible refine below_one ?_ ?_) | (with_reducible refine Below.alloc ?_ ?_ _) | (with_reducible refine below_after ?_ ?_ (by assumption)) | (show _ ≤ _; first | omega | (simp; done) | (simp; omega))))⟩
        · obtain rfl : k = l.length := by omega
          go_wp2
          go_ret
          exact ⟨ret_int (by rw [hE.out, hE2.out]; simp [dErr]), hb0⟩
    · have h3 : 64 < (l.length : Int) := by omega
      go_enter Tryz.func130, Tryz.ntmps130
      go_wp2
      go_ret
      exact ⟨ret_int (by rw [devsE, if_pos (by omega)]), by (repeat' (first | (with_reducible exact Below.refl _ _) | (with_reducible assumption) | (with_reducible refine below_run ?_ (by assumption)) | (with_reducible refine below_of_upd ?_ (by assumption) ?_) | (with_reducible refine below_drewN ?_ _) | (with_reducible refine Below.drew ?_) | (with_reducible refine below_seven ?_ ?_) | (with_reducible refine below_six ?_ ?_) | (with_reducible refine below_one ?_ ?_) | (with_reducible refine Below.alloc ?_ ?_ _) | (with_reducible refine below_after ?_ ?_ (by assumption)) | (show _ ≤ _; first | omega | (simp; done) | (simp; omega))))⟩

end Go.Proofs.YtpkhcehddfmhpaaGreat
