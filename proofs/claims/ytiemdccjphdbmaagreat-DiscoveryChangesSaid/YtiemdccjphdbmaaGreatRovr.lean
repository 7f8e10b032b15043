/-
  What the reference shows of texts over each other.
-/
import Derived.Test.YtiemdccjphdbmaaGreatOvr
namespace Go.Proofs.YtiemdccjphdbmaaGreat
open Go.RowKit

/-- Bytes, with zeros behind them up to a length. -/
def padL (n : Nat) (L : List UInt8) : List UInt8 := (List.range n).map fun i => L.getD i 0

theorem padL_length (n : Nat) (L : List UInt8) : (padL n L).length = n := by simp [padL]
theorem padL_getD (n : Nat) (L : List UInt8) (i : Nat) : (padL n L).getD i 0 = if i < n then L.getD i 0 else 0 := by
  rw [List.getD_eq_getElem?_getD, padL, List.getElem?_map]
  by_cases h : i < n
  · rw [List.getElem?_eq_getElem (by simpa using h), if_pos h]; simp
  · rw [List.getElem?_eq_none (by simpa using h), if_neg h]; rfl
theorem padL_nil (n : Nat) : padL n [] = List.replicate n 0 := by
  apply List.ext_getElem
  · simp [padL]
  · intro i h1 h2
    simp [padL]
theorem padL_all (L : List UInt8) : padL L.length L = L := by
  apply ext_getD (padL_length _ _)
  intro i
  rw [padL_getD]
  split
  · rfl
  · rename_i h
    rw [List.getD_eq_getElem?_getD, List.getElem?_eq_none (by omega)]
    rfl
theorem padL_get (n : Nat) (L : List UInt8) (i : Nat) (h : i < n) : (padL n L)[i]? = some (L.getD i 0) := by
  rw [padL, List.getElem?_map, List.getElem?_eq_getElem (by simpa using h)]
  simp
theorem padL_step (n : Nat) (a : List UInt8) (s : ByteArray) (k : Nat) (h : k < s.size) (hn : k < n) :
    (padL n (orL a (s.data.toList.take k))).set k ((orL a (s.data.toList.take k)).getD k 0 ||| s[k]) = padL n (orL a (s.data.toList.take (k + 1))) := by
  have hl : k < s.data.toList.length := by simpa using h
  have e := orL_step a s.data.toList k hl
  apply ext_getD
  · rw [List.length_set, padL_length, padL_length]
  · intro i
    rw [padL_getD, e]
    by_cases hi : k = i
    · subst hi
      rw [if_pos hn]
      have hl1 : k < (padL n (orL a (s.data.toList.take k))).length := by rw [padL_length]; exact hn
      have hk2 : (orL a (s.data.toList.take k)).length = max a.length k := by rw [orL_length, List.length_take]; omega
      rw [List.getD_eq_getElem?_getD, List.getElem?_set, if_pos rfl, if_pos hl1, List.getD_eq_getElem?_getD (l := List.set _ _ _), List.getElem?_set, if_pos rfl, if_pos]
      · rfl
      · split
        · assumption
        · rw [List.length_append, hk2]; simp; omega
    · rw [List.getD_eq_getElem?_getD, List.getElem?_set, if_neg hi, ← List.getD_eq_getElem?_getD, padL_getD]
      split
      · rw [List.getD_eq_getElem?_getD (l := List.set _ _ _), List.getElem?_set, if_neg hi]
        split
        · rw [← List.getD_eq_getElem?_getD]
        · rw [← List.getD_eq_getElem?_getD, List.getD_eq_getElem?_getD, List.getD_eq_getElem?_getD, List.getElem?_append]
          split
          · rfl
          · rename_i hn2
            rw [List.getElem?_eq_none (by omega), List.getElem?_singleton]
            split <;> rfl
      · rfl

theorem made_zeros (w : World) (c : Nat) (hc : c ≤ 100000) : (Instr.makeSlice 160 (.int .i64 (c : Int)) (.int .i64 (c : Int))).run Tryz.prog w = .ok (.slice (some ⟨w.heap.size, 0, none⟩) c c) (w.alloc (.cells (u8s (List.replicate c 0)) 5)) := by
  obtain ⟨i, hi, hz0, hz1, hz2⟩ := info_parts Tryz.info_u8
  have h := run_make (P := Tryz.prog) w 160 5 i _ Tryz.underlying160 hi hz0 .i64 .i64 (c : Int) (c : Int) (by omega) (by omega) (by rw [hz2]; omega) (by omega)
  rw [h]
  have e : madeCells (Value.int IntKind.u8 0).cells ((c : Int).toNat * i.size) = u8s (List.replicate c 0) := by
    apply Array.toList_inj.1
    rw [hz1]
    show (madeCells #[Value.int IntKind.u8 0] _).toList = _
    rw [toList_madeCells_one]
    simp [u8s]
  rw [e]
  rfl

theorem conv_row {w : World} {g : Nat} {L : List UInt8} (h : RowAt w g 5 (u8s L)) : (convert 160 9 (.slice (some ⟨g, 0, none⟩) L.length L.length)).run Tryz.prog w = .ok (.string (str L)) w := by
  rw [← strOfNums_L]
  refine run_convert_bytes_arg w 160 5 Tryz.underlying160 Tryz.underlying5 g 0 L.length L.length _ (by simp) (fun i hi => ?_) 9 Tryz.underlying9
  rw [Nat.zero_add, cell_of_row w g i _ _ _ h]
  simp [u8s, List.getElem?_map, List.getElem?_eq_getElem hi]

set_option maxHeartbeats 8000000 in
set_option maxRecDepth 100000 in
theorem refshown_any (b off cap : Nat) (l : List ByteArray) (w : World) (h0 : 0 < l.length) (hm : l.length ≤ 64) (hlong : l.any tooLong = false) (hlt : b < w.heap.size) (hc : ∀ j, j < l.length * 1 → w.cell? ⟨b, off + j, none⟩ = strsC l j) :
    Calls Tryz.prog 74 #[.slice (some ⟨b, off, none⟩) l.length cap] w fun e w' => e = .returned (.string (str (overL (lists l)))) ∧ Below w.heap.size w w' := by
  have hmi : (l.length : Int) ≤ 64 := by omega
  have h4 : (0 : Int) < (l.length : Int) := by omega
  have hsz : ∀ (k : Nat) (s : ByteArray), l[k]? = some s → s.size ≤ 4096 := fun k s hs => by
    have := List.any_eq_false.1 hlong s (List.mem_of_getElem? hs)
    simp [tooLong] at this
    exact this
  have hall := accL_length l l.length (by rw [List.take_length]; exact hlong)
  go_enter Tryz.func74, Tryz.ntmps74
  go_wp2
  go_loop [3, 4] (fun x i => ∃ k : Nat, k ≤ l.length ∧ i = .int .i64 k ∧ x = .int .i64 ((accL l k).length : Nat) ∧ (accL l k).length ≤ 4096) (fun _ i => l.length - (intOf i).toNat)
  case atStart => exact ⟨0, Nat.zero_le _, rfl, rfl, by rw [accL_zero]; simp⟩
  case round =>
    obtain ⟨k, hk, rfl, rfl, hle⟩ := hrel
    by_cases hlt2 : k < l.length
    · have hlt3 : (k : Int) < (l.length : Int) := by omega
      obtain ⟨s, hs, e0⟩ := str_cell hc k hlt2
      have hs4 := hsz k s hs
      have ha := accL_succ hs
      have hal : (accL l (k + 1)).length = max (accL l k).length s.size := by rw [ha, orL_length, list_sizeO]
      have HA := Lib.hid hal
      clear hal ha hs hsz hc hall
      go_wp2
      go_round
      case rel => exact ⟨k + 1, by omega, by go_num, by rw [HA.out]; congr 1; omega, by rw [HA.out]; omega⟩
      case measure => simp [intOf]; omega
    · obtain rfl : k = l.length := by omega
      clear hle
      obtain ⟨n, hn⟩ : ∃ n, (accL l l.length).length = n := ⟨_, rfl⟩
      rw [hn] at hall ⊢
      have hmk := made_zeros w n (by omega)
      rw [← padL_nil] at hmk
      go_wp2
      go_loopw [6, 7] (fun i _ wr => ∃ k : Nat, k ≤ l.length ∧ i = .int .i64 k ∧ RowAt wr w.heap.size 5 (u8s (padL n (accL l k))) ∧ Below w.heap.size w wr) (fun i _ _ => l.length - (intOf i).toNat)
      case atStart => exact ⟨0, Nat.zero_le _, rfl, RowAt.new _ _ _, by (repeat' (first | (with_reducible exact Below.refl _ _) | (with_reducible assumption) | (with_reducible refine below_drewN ?_ _) | (with_reducible refine Below.drew ?_) | (with_reducible refine Below.setCell ?_ ?_ _) | (with_reducible refine Below.alloc ?_ ?_ _) | (with_reducible refine below_after ?_ ?_ (by assumption)) | (show _ ≤ _; first | omega | (simp; done) | (simp; omega))))⟩
      case round =>
        obtain ⟨k, hk, rfl, hrow, hb0⟩ := hrel
        by_cases hlt2 : k < l.length
        · have hlt3 : (k : Int) < (l.length : Int) := by omega
          obtain ⟨s, hs, e0⟩ := str_cell hc k hlt2
          have hs4 := hsz k s hs
          have hsn : s.size ≤ n := by
            have h1 := overL_length_ge (lists l) s.data.toList (List.mem_map.2 ⟨s, List.mem_of_getElem? hs, rfl⟩)
            rw [← accL_all, hn, list_sizeO] at h1
            exact h1
          have ha := Lib.hid (accL_succ hs)
          clear hs hsz hc
          obtain ⟨wo, rfl⟩ : ∃ wo : World, wo = wr := ⟨_, rfl⟩
          go_wp2
          go_loopw [7] (fun i wr => ∃ j : Nat, j ≤ s.size ∧ i = .int .i64 j ∧ RowAt wr w.heap.size 5 (u8s (padL n (orL (accL l k) (s.data.toList.take j)))) ∧ Below w.heap.size w wr) (fun i _ => s.size - (intOf i).toNat)
          case atStart => exact ⟨0, Nat.zero_le _, rfl, by rw [List.take_zero, orL_nil]; exact hrow, hb0⟩
          case round =>
            obtain ⟨j, hj, rfl, hrow2, hb1⟩ := hrel
            have e1 := (hb1.cell (p := ⟨b, off + k, none⟩) hlt).trans e0
            by_cases hlt4 : j < s.size
            · have hlt5 : (j : Int) < (s.size : Int) := by omega
              have hst := padL_step n (accL l k) s j hlt4 (by omega)
              have hg := padL_get n (orL (accL l k) (s.data.toList.take j)) j (by omega)
              obtain ⟨d, hd⟩ : ∃ d, (orL (accL l k) (s.data.toList.take j)).getD j 0 = d := ⟨_, rfl⟩
              rw [hd] at hst hg
              obtain ⟨c, hcc⟩ : ∃ c, s[j] = c := ⟨_, rfl⟩
              rw [hcc] at hst
              have hln := padL_length n (orL (accL l k) (s.data.toList.take j))
              generalize padL n (orL (accL l k) (s.data.toList.take j)) = L at *
              have c1 : wr.cell? ⟨w.heap.size, j, none⟩ = some (.int .u8 (d.toNat : Int)) := by
                rw [cell_of_row _ _ _ _ _ _ hrow2]
                simp [u8s, hg]
              have c2 := frozen_of_row wr w.heap.size j _ _ hrow2
              have hor := or_bytes d c
              have hjn : (j : Int) < (n : Int) := by omega
              have HST := Lib.hid hst
              clear hst hg hd hrow hb0 e0
              go_wp2
              go_region
              go_wp2
              go_roundw
              case rel => exact ⟨j + 1, by omega, by go_num, by rw [← HST.out, ← u8s_set]; exact (RowAt.set hrow2 rfl).drew, by (repeat' (first | (with_reducible exact Below.refl _ _) | (with_reducible assumption) | (with_reducible refine below_drewN ?_ _) | (with_reducible refine Below.drew ?_) | (with_reducible refine Below.setCell ?_ ?_ _) | (with_reducible refine Below.alloc ?_ ?_ _) | (with_reducible refine below_after ?_ ?_ (by assumption)) | (show _ ≤ _; first | omega | (simp; done) | (simp; omega))))⟩
              case measure => simp [intOf]; omega
            · obtain rfl : j = s.size := by omega
              rw [List.take_of_length_le (by simp)] at hrow2
              go_wp2
              go_roundw
              case rel => exact ⟨k + 1, by omega, by go_num, by rw [ha.out]; exact hrow2, hb1⟩
              case measure => simp [intOf]; omega
        · obtain rfl : k = l.length := by omega
          have hpa := padL_all (accL l l.length)
          rw [hn] at hpa
          rw [hpa] at hrow
          have hcv := conv_row hrow
          rw [hn] at hcv
          go_wp2
          go_ret
          exact ⟨ret_str (by rw [accL_all]), hb0⟩

set_option maxHeartbeats 4000000 in
set_option maxRecDepth 100000 in
theorem refshown_nil (a : Option Addr) (cap : Nat) (w : World) :
    Calls Tryz.prog 74 #[.slice a 0 cap] w fun e w' => e = .returned (.string (str [])) ∧ Below w.heap.size w w' := by
  have hmk : (Instr.makeSlice 160 (.int .i64 0) (.int .i64 0)).run Tryz.prog w = .ok (.slice (some ⟨w.heap.size, 0, none⟩) 0 0) (w.alloc (.cells (u8s []) 5)) := made_zeros w 0 (by omega)
  have hcv : (convert 160 9 (.slice (some ⟨w.heap.size, 0, none⟩) 0 0)).run Tryz.prog (w.alloc (.cells (u8s []) 5)) = .ok (.string (str [])) (w.alloc (.cells (u8s []) 5)) := conv_row (L := []) (RowAt.new _ _ _)
  go_enter Tryz.func74, Tryz.ntmps74
  go_wp2
  refine wp_loop_rounds 1 ?_
  rw [rounds_succ]
  go_wp2
  refine wp_loop_rounds 1 ?_
  rw [rounds_succ]
  go_wp2
  go_ret
  exact ⟨rfl, by (repeat' (first | (with_reducible exact Below.refl _ _) | (with_reducible assumption) | (with_reducible refine below_drewN ?_ _) | (with_reducible refine Below.drew ?_) | (with_reducible refine Below.setCell ?_ ?_ _) | (with_reducible refine Below.alloc ?_ ?_ _) | (with_reducible refine below_after ?_ ?_ (by assumption)) | (show _ ≤ _; first | omega | (simp; done) | (simp; omega))))⟩

end Go.Proofs.YtiemdccjphdbmaaGreat
