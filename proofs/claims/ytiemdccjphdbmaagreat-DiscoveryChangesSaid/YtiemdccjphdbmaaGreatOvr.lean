/-
  What the program shows of texts over each other.
-/
import Derived.Test.YtiemdccjphdbmaaGreatSame
import Derived.Test.YtiemdccjphdbmaaGreatPl46
import Derived.Test.YtiemdccjphdbmaaGreatIds
import Derived.Test.YtiemdccjphdbmaaGreatBas
import Derived.Outline
import Derived.Laws.BitsAllLaws
namespace Go.Proofs.YtiemdccjphdbmaaGreat
open Go.RowKit

/-- The bytes of texts. -/
def lists (l : List ByteArray) : List (List UInt8) := l.map fun s => s.data.toList
/-- A text that is too long. -/
def tooLong (s : ByteArray) : Bool := decide (4096 < s.size)
/-- What is shown, or the number of the error. -/
def overM (l : List ByteArray) : ByteArray × Int := if 64 < l.length then (⟨#[]⟩, 5) else if l.any tooLong then (⟨#[]⟩, 13) else (str (overL (lists l)), 0)
/-- What the first texts show. -/
def accL (l : List ByteArray) (k : Nat) : List UInt8 := overL (lists (l.take k))

theorem accL_zero (l : List ByteArray) : accL l 0 = [] := rfl
theorem accL_succ {l : List ByteArray} {k : Nat} {s : ByteArray} (h : l[k]? = some s) : accL l (k + 1) = orL (accL l k) s.data.toList := by
  rw [accL, take_succ_some h, lists, List.map_append, ← lists]
  exact overL_snoc _ _
theorem accL_all (l : List ByteArray) : accL l l.length = overL (lists l) := by rw [accL, List.take_length]
theorem accL_length (l : List ByteArray) (k : Nat) (h : (l.take k).any tooLong = false) : (accL l k).length ≤ 4096 := by
  refine overL_length_le _ _ fun s hs => ?_
  obtain ⟨a, ha, rfl⟩ := List.mem_map.1 hs
  have := List.any_eq_false.1 h a ha
  simp [tooLong] at this
  simpa using this

theorem list_sizeO (s : ByteArray) : s.data.toList.length = s.size := by simp

theorem or_bytes (a b : UInt8) : bits BinOp.or .u8 (a.toNat : Int) (b.toNat : Int) = ((a ||| b).toNat : Int) := by
  rw [u8_or_nat _ _ a.toNat_lt b.toNat_lt]
  simp

/-- The bytes with room for the one at a place. -/
def wide (L : List UInt8) (i : Nat) : List UInt8 := if i < L.length then L else L ++ [0]

theorem wide_step (a : List UInt8) (s : ByteArray) (i : Nat) (h : i < s.size) : orL a (s.data.toList.take (i + 1)) = (wide (orL a (s.data.toList.take i)) i).set i ((wide (orL a (s.data.toList.take i)) i).getD i 0 ||| s[i]) := by
  have hl : i < s.data.toList.length := by simpa using h
  have e := orL_step a s.data.toList i hl
  rw [e, wide]
  congr 2
  split
  · rfl
  · rename_i hn
    rw [List.getD_eq_getElem?_getD, List.getD_eq_getElem?_getD, List.getElem?_append]
    split
    · rfl
    · rename_i hn2
      rw [List.getElem?_eq_none (by omega : (orL a (List.take i s.data.toList)).length ≤ i), List.getElem?_singleton]
      split <;> rfl

set_option maxHeartbeats 8000000 in
set_option maxRecDepth 100000 in
theorem overlay_any (v : Value) (l : List ByteArray) (w : World) (hv : StrsAt w v l) :
    Calls Tryz.prog 66 #[v] w fun e w' => ∃ s n, e = .returned (.tuple #[.string s, .int .i64 n]) ∧ Hid (overM l = (s, n)) ∧ Below w.heap.size w w' := by
  obtain ⟨i0, hi, hz0, hz1, hz2⟩ := info_parts Tryz.info_byte
  rcases hv with ⟨h0, a, cap, rfl⟩ | ⟨h0, h1, b, off, cap, rfl, hlt, hc⟩
  · have hl : l = [] := List.eq_nil_of_length_eq_zero h0
    subst hl
    have hcv := Tryz.conv_nil
    go_enter Tryz.func66, Tryz.ntmps66
    go_wp2
    refine wp_loop_rounds 1 ?_
    rw [rounds_succ]
    go_wp2
    go_ret2
    exact ⟨_, _, rfl, rfl, Below.refl _ _⟩
  · by_cases hm : 64 < l.length
    · have hmi : (64 : Int) < l.length := by omega
      go_enter Tryz.func66, Tryz.ntmps66
      go_wp2
      go_ret2
      exact ⟨_, _, rfl, by simp [Hid, overM, hm], Below.refl _ _⟩
    · have hmi : ¬ (64 : Int) < l.length := by omega
      have h4 : (0 : Int) < (l.length : Int) := by omega
      go_enter Tryz.func66, Tryz.ntmps66
      go_wp2
      go_loopw [4, 6, 7, 13] (fun o _ _ i wr => ∃ k : Nat, k ≤ l.length ∧ i = .int .i64 k ∧ OwnB wr w.heap.size o (accL l k) ∧ (l.take k).any tooLong = false ∧ Below w.heap.size w wr) (fun _ _ _ i _ => l.length - (intOf i).toNat)
      case atStart => exact ⟨0, Nat.zero_le _, rfl, ownB_nil _ _, rfl, Below.refl _ _⟩
      case round =>
        obtain ⟨k, hk, rfl, hown, hany, hb0⟩ := hrel
        by_cases hlt2 : k < l.length
        · have hlt3 : (k : Int) < (l.length : Int) := by omega
          have hc' : ∀ j, j < l.length * 1 → wr.cell? ⟨b, off + j, none⟩ = strsC l j := fun j hj => (hb0.cell (p := ⟨b, off + j, none⟩) hlt).trans (hc j hj)
          obtain ⟨s, hs, e0⟩ := str_cell hc' k hlt2
          have HS := Lib.hid hs
          have HT := Lib.hid (take_succ_some hs)
          have hacc := accL_length l k hany
          clear hc hc' hs
          by_cases hlong : 4096 < s.size
          · have hli : (4096 : Int) < s.size := by omega
            go_wp2
            go_ret2
            have hm2 : s ∈ l := List.mem_of_getElem? HS.out
            have hx : l.any tooLong = true := List.any_eq_true.2 ⟨s, hm2, by simp [tooLong, hlong]⟩
            exact ⟨_, _, rfl, by simp [Hid, overM, hm, hx], hb0⟩
          · have hli : ¬ (4096 : Int) < s.size := by omega
            obtain ⟨wo, rfl⟩ : ∃ wo : World, wo = wr := ⟨_, rfl⟩
            go_wp2
            go_loopw [4, 7, 22] (fun o _ i wr => ∃ j : Nat, j ≤ s.size ∧ i = .int .i64 j ∧ OwnB wr w.heap.size o (orL (accL l k) (s.data.toList.take j)) ∧ Below w.heap.size w wr) (fun _ _ i _ => s.size - (intOf i).toNat)
            case atStart => exact ⟨0, Nat.zero_le _, rfl, by rw [List.take_zero, orL_nil]; exact hown, hb0⟩
            case round =>
              obtain ⟨j, hj, rfl, hown2, hb1⟩ := hrel
              by_cases hlt4 : j < s.size
              · have hlt5 : (j : Int) < (s.size : Int) := by omega
                have hst := wide_step (accL l k) s j hlt4
                have hL1 : j ≤ (orL (accL l k) (s.data.toList.take j)).length := by rw [orL_length, List.length_take, list_sizeO]; omega
                have hL2 : (orL (accL l k) (s.data.toList.take j)).length ≤ 4096 := by rw [orL_length, List.length_take, list_sizeO]; omega
                have HST := Lib.hid hst
                clear hst hown
                generalize orL (accL l k) (s.data.toList.take j) = L at *
                obtain ⟨c, hcc⟩ : ∃ c, s[j] = c := ⟨_, rfl⟩
                by_cases hjl : j < L.length
                · obtain ⟨g, cap', rfl, hg1, hg2, hg3, hg4, hg5⟩ := hown2.parts (by omega)
                  have hjl2 : (j : Int) < (L.length : Int) := by omega
                  have hne : ((j : Int) == (L.length : Int)) = false := beq_eq_false_iff_ne.2 (by omega)
                  have c1 := hg4 j hjl
                  have c2 := hg5 j
                  have hor := or_bytes L[j] c
                  obtain ⟨d, hd⟩ : ∃ d, L[j] = d := ⟨_, rfl⟩
                  rw [hd] at hor c1
                  have HDD := Lib.hid hd
                  have HG := Lib.hid hg4
                  clear hg4 hg5 hd
                  go_wp2
                  go_region
                  go_wp2
                  go_roundw
                  case rel =>
                    have e : orL (accL l k) (s.data.toList.take (j + 1)) = L.set j (d ||| c) := by
                      rw [HST.out, wide, if_pos hjl, List.getD_eq_getElem?_getD, List.getElem?_eq_getElem hjl, hcc, HDD.out]
                      rfl
                    exact ⟨j + 1, by omega, by go_num, by rw [e]; exact (hown2.set j (d ||| c)).drew, by (repeat' (first | (with_reducible exact Below.refl _ _) | (with_reducible assumption) | (with_reducible refine below_drewN ?_ _) | (with_reducible refine Below.drew ?_) | (with_reducible refine Below.setCell ?_ ?_ _) | (with_reducible refine Below.alloc ?_ ?_ _) | (with_reducible refine below_after ?_ ?_ (by assumption)) | (show _ ≤ _; first | omega | (simp; done) | (simp; omega))))⟩
                  case measure => simp [intOf]; omega
                · obtain rfl : L.length = j := by omega
                  have heq : ((L.length : Int) == (L.length : Int)) = true := by simp
                  have hsz := hb1.size
                  obtain ⟨ad, cap', rfl⟩ := hown2.shape
                  have hown3 : (wr.alloc (.cells #[.int .u8 0] 5)).ownsRow w.heap.size 5 1 (.slice ad L.length cap') L.length (u8L L) := World.ownsRow.alloc hown2 _
                  go_wp2_with (at_builtin; refine wpList_append_own _ rfl _ _ 160 rfl w.heap.size 5 i0 _ 1 1 Tryz.underlying160 hi hz0 hz1 hz2 rfl (by decide) _ _ _ rfl hown3 ⟨wr.heap.size, 0, none⟩ 1 1 [.int .u8 0] rfl rfl ?c1 ?c2 ?c3 ?c4 ?c5 ?_)
                  case c1 =>
                    intro j u hj
                    match j, hj with
                    | 0, hj => simp at hj; subst hj; simp [Addr.add]
                  case c2 => intro u hu; simp at hu; subst hu; rfl
                  case c3 => unfold maxLen; omega
                  case c4 => omega
                  case c5 => simp; omega
                  · intro v' w1 hown' hgrow _
                    have hu : u8L L ++ [Value.int .u8 0] = u8L (L ++ [0]) := by simp [u8L]
                    have ho : OwnB w1 w.heap.size v' (L ++ [0]) := by
                      unfold OwnB
                      rw [← hu, List.length_append]
                      exact hown'
                    have hb2 : Below w.heap.size w w1 := below_grown (hb1.alloc hsz _) hown3 (Nat.le_refl _) hgrow (by simp; omega)
                    obtain ⟨g, cap2, hv, hg1, hg2, hg3, hg4, hg5⟩ := ho.parts (by simp)
                    subst hv
                    have c1 : w1.cell? ⟨g, L.length, none⟩ = some (.int .u8 0) := by simpa using hg4 L.length (by simp)
                    have c2 := hg5 L.length
                    have hor : bits BinOp.or .u8 0 (c.toNat : Int) = ((0 ||| c : UInt8).toNat : Int) := or_bytes 0 c
                    have hlL : (L ++ [0]).length = L.length + 1 := by simp
                    rw [hlL] at ho ⊢
                    clear hg4 hg5 hg3 hown' hgrow hown2 hown3 hu
                    go_wp2
                    go_region
                    go_wp2
                    go_roundw
                    case rel =>
                      have e : orL (accL l k) (s.data.toList.take (L.length + 1)) = (L ++ [0]).set L.length (0 ||| c) := by
                        rw [HST.out, wide, if_neg (by omega), hcc]
                        congr 2
                        simp
                      refine ⟨L.length + 1, by omega, by go_num, ?_, by (repeat' (first | (with_reducible exact Below.refl _ _) | (with_reducible assumption) | (with_reducible refine below_drewN ?_ _) | (with_reducible refine Below.drew ?_) | (with_reducible refine Below.setCell ?_ ?_ _) | (with_reducible refine Below.alloc ?_ ?_ _) | (with_reducible refine below_after ?_ ?_ (by assumption)) | (show _ ≤ _; first | omega | (simp; done) | (simp; omega))))⟩
                      rw [e]
                      rw [← hlL] at ho ⊢
                      have q := (ho.set L.length (0 ||| c)).drew
                      rw [show (0 ||| c : UInt8) = c from by simp] at q ⊢
                      exact q
                    case measure => simp [intOf]; omega
              · obtain rfl : j = s.size := by omega
                rw [List.take_of_length_le (by simp)] at hown2
                go_wp2
                go_roundw
                case rel => exact ⟨k + 1, by omega, by go_num, by rw [accL_succ HS.out]; exact hown2, by rw [HT.out, List.any_append]; simp [hany, tooLong]; omega, hb1⟩
                case measure => simp [intOf]; omega
        · obtain rfl : k = l.length := by omega
          have hcv := conv_own hown
          go_wp2
          go_ret2
          rw [List.take_length] at hany
          exact ⟨_, _, rfl, by simp [Hid, overM, hm, hany, accL_all], hb0⟩

end Go.Proofs.YtiemdccjphdbmaaGreat
