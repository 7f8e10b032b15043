/-
  What the program shows of texts over each other.
  What is heard behind a message that seeks devices: the program.
-/
import Derived.Test.YtpkhcehddfmhpaaGreatSame
import Derived.Test.YtpkhcehddfmhpaaGreatPl46
import Derived.Test.YtpkhcehddfmhpaaGreatIds
import Derived.Test.YtpkhcehddfmhpaaGreatBas
import Derived.Outline
import Derived.Laws.BitsAllLaws
import Derived.Test.YtpkhcehddfmhpaaGreatDl
import Derived.Test.YtpkhcehddfmhpaaGreatEnc
import Derived.Test.YtpkhcehddfmhpaaGreatDec
import Derived.Test.YtpkhcehddfmhpaaGreatRecv
namespace Go.Proofs.YtpkhcehddfmhpaaGreat
open Go.RowKit

/-- The bytes of texts. -/
def lists (l : List ByteArray) : List (List UInt8) := l.map fun s => s.data.toList
/-- A text that is too long. -/
def tooLong (s : ByteArray) : Bool := decide (4096 < s.size)
/-- What is shown, or the number of the error. -/
def overM (l : List ByteArray) : ByteArray × Int := if 64 < l.length then (⟨#[]⟩, 5) else if l.any tooLong then (⟨#[]⟩, 13) else (str (overL (lists l)), 0)
/-- What the first texts show. -/
def accL (l : List ByteArray) (k : Nat) : List UInt8 := overL (lists (l.take k))

theorem accL_zero (l : List ByteArray) : accL l 0 = [] := rfl
theorem accL_succ {l : List ByteArray} {k : Nat} {s : ByteArray} (h : l[k]? = some s) : accL l (k + 1) = orL (accL l k) s.data.toList := by
  rw [accL, take_succ_some h, lists, List.map_append, ← lists]
  exact overL_snoc _ _
theorem accL_all (l : List ByteArray) : accL l l.length = overL (lists l) := by rw [accL, List.take_length]
theorem accL_length (l : List ByteArray) (k : Nat) (h : (l.take k).any tooLong = false) : (accL l k).length ≤ 4096 := by
  refine overL_length_le _ _ fun s hs => ?_
  obtain ⟨a, ha, rfl⟩ := List.mem_map.1 hs
  have := List.any_eq_false.1 h a ha
  simp [tooLong] at this
  simpa using this

theorem list_sizeO (s : ByteArray) : s.data.toList.length = s.size := by simp

theorem or_bytes (a b : UInt8) : bits BinOp.or .u8 (a.toNat : Int) (b.toNat : Int) = ((a ||| b).toNat : Int) := by
  rw [u8_or_nat _ _ a.toNat_lt b.toNat_lt]
  simp

/-- The bytes with room for the one at a place. -/
def wide (L : List UInt8) (i : Nat) : List UInt8 := if i < L.length then L else L ++ [0]

theorem wide_step (a : List UInt8) (s : ByteArray) (i : Nat) (h : i < s.size) : orL a (s.data.toList.take (i + 1)) = (wide (orL a (s.data.toList.take i)) i).set i ((wide (orL a (s.data.toList.take i)) i).getD i 0 ||| s[i]) := by
  have hl : i < s.data.toList.length := by simpa using h
  have e := orL_step a s.data.toList i hl
  rw [e, wide]
  congr 2
  split
  · rfl
  · rename_i hn
    rw [List.getD_eq_getElem?_getD, List.getD_eq_getElem?_getD, List.getElem?_append]
    split
    · rfl
    · rename_i hn2
      rw [List.getElem?_eq_none (by omega : (orL a (List.take i s.data.toList)).length ≤ i), List.getElem?_singleton]
      split <;> rfl

set_option maxHeartbeats 8000000 in
set_option maxRecDepth 100000 in
theorem overlay_any (v : Value) (l : List ByteArray) (w : World) (hv : StrsAt w v l) :
    Calls Tryz.prog 169 #[v] w fun e w' => ∃ s n, e = .returned (.tuple #[.string s, .int .i64 n]) ∧ Hid (overM l = (s, n)) ∧ Below w.heap.size w w' := by
  obtain ⟨i0, hi, hz0, hz1, hz2⟩ := info_parts Tryz.info_byte
  rcases hv with ⟨h0, a, cap, rfl⟩ | ⟨h0, h1, b, off, cap, rfl, hlt, hc⟩
  · have hl : l = [] := List.eq_nil_of_length_eq_zero h0
    subst hl
    have hcv := Tryz.conv_nil
    go_enter Tryz.func169, Tryz.ntmps169
    go_wp2
    refine wp_loop_rounds 1 ?_
    rw [rounds_succ]
    go_wp2
    go_ret2
    exact ⟨_, _, rfl, rfl, Below.refl _ _⟩
  · by_cases hm : 64 < l.length
    · have hmi : (64 : Int) < l.length := by omega
      go_enter Tryz.func169, Tryz.ntmps169
      go_wp2
      go_ret2
      exact ⟨_, _, rfl, by simp [Hid, overM, hm], Below.refl _ _⟩
    · have hmi : ¬ (64 : Int) < l.length := by omega
      have h4 : (0 : Int) < (l.length : Int) := by omega
      go_enter Tryz.func169, Tryz.ntmps169
      go_wp2
      go_loopw [4, 6, 7, 13] (fun o _ _ i wr => ∃ k : Nat, k ≤ l.length ∧ i = .int .i64 k ∧ OwnB wr w.heap.size o (accL l k) ∧ (l.take k).any tooLong = false ∧ Below w.heap.size w wr) (fun _ _ _ i _ => l.length - (intOf i).toNat)
      case atStart => exact ⟨0, Nat.zero_le _, rfl, ownB_nil _ _, rfl, Below.refl _ _⟩
      case round =>
        obtain ⟨k, hk, rfl, hown, hany, hb0⟩ := hrel
        by_cases hlt2 : k < l.length
        · have hlt3 : (k : Int) < (l.length : Int) := by omega
          have hc' : ∀ j, j < l.length * 1 → wr.cell? ⟨b, off + j, none⟩ = strsC l j := fun j hj => (hb0.cell (p := ⟨b, off + j, none⟩) hlt).trans (hc j hj)
          obtain ⟨s, hs, e0⟩ := str_cell hc' k hlt2
          have HS := Lib.hid hs
          have HT := Lib.hid (take_succ_some hs)
          have hacc := accL_length l k hany
          clear hc hc' hs
          by_cases hlong : 4096 < s.size
          · have hli : (4096 : Int) < s.size := by omega
            go_wp2
            go_ret2
            have hm2 : s ∈ l := List.mem_of_getElem? HS.out
            have hx : l.any tooLong = true := List.any_eq_true.2 ⟨s, hm2, by simp [tooLong, hlong]⟩
            exact ⟨_, _, rfl, by simp [Hid, overM, hm, hx], hb0⟩
          · have hli : ¬ (4096 : Int) < s.size := by omega
            obtain ⟨wo, rfl⟩ : ∃ wo : World, wo = wr := ⟨_, rfl⟩
            go_wp2
            go_loopw [4, 7, 22] (fun o _ i wr => ∃ j : Nat, j ≤ s.size ∧ i = .int .i64 j ∧ OwnB wr w.heap.size o (orL (accL l k) (s.data.toList.take j)) ∧ Below w.heap.size w wr) (fun _ _ i _ => s.size - (intOf i).toNat)
            case atStart => exact ⟨0, Nat.zero_le _, rfl, by rw [List.take_zero, orL_nil]; exact hown, hb0⟩
            case round =>
              obtain ⟨j, hj, rfl, hown2, hb1⟩ := hrel
              by_cases hlt4 : j < s.size
              · have hlt5 : (j : Int) < (s.size : Int) := by omega
                have hst := wide_step (accL l k) s j hlt4
                have hL1 : j ≤ (orL (accL l k) (s.data.toList.take j)).length := by rw [orL_length, List.length_take, list_sizeO]; omega
                have hL2 : (orL (accL l k) (s.data.toList.take j)).length ≤ 4096 := by rw [orL_length, List.length_take, list_sizeO]; omega
                have HST := Lib.hid hst
                clear hst hown
                generalize orL (accL l k) (s.data.toList.take j) = L at *
                obtain ⟨c, hcc⟩ : ∃ c, s[j] = c := ⟨_, rfl⟩
                by_cases hjl : j < L.length
                · obtain ⟨g, cap', rfl, hg1, hg2, hg3, hg4, hg5⟩ := hown2.parts (by omega)
                  have hjl2 : (j : Int) < (L.length : Int) := by omega
                  have hne : ((j : Int) == (L.length : Int)) = false := beq_eq_false_iff_ne.2 (by omega)
                  have c1 := hg4 j hjl
                  have c2 := hg5 j
                  have hor := or_bytes L[j] c
                  obtain ⟨d, hd⟩ : ∃ d, L[j] = d := ⟨_, rfl⟩
                  rw [hd] at hor c1
                  have HDD := Lib.hid hd
                  have HG := Lib.hid hg4
                  clear hg4 hg5 hd
                  go_wp2
                  go_region
                  go_wp2
                  go_roundw
                  case rel =>
                    have e : orL (accL l k) (s.data.toList.take (j + 1)) = L.set j (d ||| c) := by
                      rw [HST.out, wide, if_pos hjl, List.getD_eq_getElem?_getD, List.getElem?_eq_getElem hjl, hcc, HDD.out]
                      rfl
                    exact ⟨j + 1, by omega, by go_num, by rw [e]; exact (hown2.set j (d ||| c)).drew, by (repeat' (first | (with_reducible exact Below.refl _ _) | (with_reducible assumption) | (with_reducible refine below_drewN ?_ _) | (with_reducible refine Below.drew ?_) | (with_reducible refine Below.setCell ?_ ?_ _) | (with_reducible refine Below.alloc ?_ ?_ _) | (with_reducible refine below_after ?_ ?_ (by assumption)) | (show _ ≤ _; first | omega | (simp; done) | (simp; omega))))⟩
                  case measure => simp [intOf]; omega
                · obtain rfl : L.length = j := by omega
                  have heq : ((L.length : Int) == (L.length : Int)) = true := by simp
                  have hsz := hb1.size
                  obtain ⟨ad, cap', rfl⟩ := hown2.shape
                  have hown3 : (wr.alloc (.cells #[.int .u8 0] 5)).ownsRow w.heap.size 5 1 (.slice ad L.length cap') L.length (u8L L) := World.ownsRow.alloc hown2 _
                  go_wp2_with (at_builtin; refine wpList_append_own _ rfl _ _ 73 rfl w.heap.size 5 i0 _ 1 1 Tryz.underlying73 hi hz0 hz1 hz2 rfl (by decide) _ _ _ rfl hown3 ⟨wr.heap.size, 0, none⟩ 1 1 [.int .u8 0] rfl rfl ?c1 ?c2 ?c3 ?c4 ?c5 ?_)
                  case c1 =>
                    intro j u hj
                    match j, hj with
                    | 0, hj => simp at hj; subst hj; simp [Addr.add]
                  case c2 => intro u hu; simp at hu; subst hu; rfl
                  case c3 => unfold maxLen; omega
                  case c4 => omega
                  case c5 => simp; omega
                  · intro v' w1 hown' hgrow _
                    have hu : u8L L ++ [Value.int .u8 0] = u8L (L ++ [0]) := by simp [u8L]
                    have ho : OwnB w1 w.heap.size v' (L ++ [0]) := by
                      unfold OwnB
                      rw [← hu, List.length_append]
                      exact hown'
                    have hb2 : Below w.heap.size w w1 := below_grown (hb1.alloc hsz _) hown3 (Nat.le_refl _) hgrow (by simp; omega)
                    obtain ⟨g, cap2, hv, hg1, hg2, hg3, hg4, hg5⟩ := ho.parts (by simp)
                    subst hv
                    have c1 : w1.cell? ⟨g, L.length, none⟩ = some (.int .u8 0) := by simpa using hg4 L.length (by simp)
                    have c2 := hg5 L.length
                    have hor : bits BinOp.or .u8 0 (c.toNat : Int) = ((0 ||| c : UInt8).toNat : Int) := or_bytes 0 c
                    have hlL : (L ++ [0]).length = L.length + 1 := by simp
                    rw [hlL] at ho ⊢
                    clear hg4 hg5 hg3 hown' hgrow hown2 hown3 hu
                    go_wp2
                    go_region
                    go_wp2
                    go_roundw
                    case rel =>
                      have e : orL (accL l k) (s.data.toList.take (L.length + 1)) = (L ++ [0]).set L.length (0 ||| c) := by
                        rw [HST.out, wide, if_neg (by omega), hcc]
                        congr 2
                        simp
                      refine ⟨L.length + 1, by omega, by go_num, ?_, by (repeat' (first | (with_reducible exact Below.refl _ _) | (with_reducible assumption) | (with_reducible refine below_drewN ?_ _) | (with_reducible refine Below.drew ?_) | (with_reducible refine Below.setCell ?_ ?_ _) | (with_reducible refine Below.alloc ?_ ?_ _) | (with_reducible refine below_after ?_ ?_ (by assumption)) | (show _ ≤ _; first | omega | (simp; done) | (simp; omega))))⟩
                      rw [e]
                      rw [← hlL] at ho ⊢
                      have q := (ho.set L.length (0 ||| c)).drew
                      rw [show (0 ||| c : UInt8) = c from by simp] at q ⊢
                      exact q
                    case measure => simp [intOf]; omega
              · obtain rfl : j = s.size := by omega
                rw [List.take_of_length_le (by simp)] at hown2
                go_wp2
                go_roundw
                case rel => exact ⟨k + 1, by omega, by go_num, by rw [accL_succ HS.out]; exact hown2, by rw [HT.out, List.any_append]; simp [hany, tooLong]; omega, hb1⟩
                case measure => simp [intOf]; omega
        · obtain rfl : k = l.length := by omega
          have hcv := conv_own hown
          go_wp2
          go_ret2
          rw [List.take_length] at hany
          exact ⟨_, _, rfl, by simp [Hid, overM, hm, hany, accL_all], hb0⟩

end Go.Proofs.YtpkhcehddfmhpaaGreat

namespace Go.Proofs.YtpkhcehddfmhpaaGreat
open Go.RowKit

theorem Tryz.info_strH : (Tryz.prog.info? 9).map (fun i => (i.zero, i.size, i.bytes)) = some (some (.string ⟨#[]⟩), 1, 16) := by kernel_rfl

/-- The texts of messages. -/
def textsM (l : List Msg) : List ByteArray := l.map fun a => str (madeL a)
def strsV (l : List ByteArray) : List Value := l.map Value.string
theorem strsV_get (l : List ByteArray) (j : Nat) : (strsV l)[j]? = strsC l j := by simp [strsV, strsC]
theorem texts_lists (l : List Msg) : lists (textsM l) = l.map madeL := by
  simp only [lists, textsM, List.map_map]
  exact List.map_congr_left fun a _ => by simp [str]
theorem texts_over (l : List Msg) (h : l.length ≤ 64) (hc : ∀ a ∈ l, chk a = 0) : overM (textsM l) = (str (overL (l.map madeL)), 0) := by
  have h1 : (textsM l).length = l.length := by simp [textsM]
  have h2 : (textsM l).any tooLong = false := by
    rw [List.any_eq_false]
    intro s hs
    simp only [textsM, List.mem_map] at hs
    obtain ⟨a, ha, rfl⟩ := hs
    have := (small_of_chk (hc a ha))
    have hz : (str (madeL a)).size = 21 + a.dat.size := by rw [str_size, madeL_length]
    simp [tooLong, hz]
    omega
  rw [overM, if_neg (by omega), if_neg (by rw [h2]; simp), texts_lists]

theorem strs_of {w : World} {B T n : Nat} {v : Value} {l : List ByteArray} (h : w.ownsRow B T 1 v n (strsV l)) (hn : n = l.length) (h2 : n ≤ 140737488351232) : StrsAt w v l := by
  subst hn
  exact own_seq h h2 (strsV_get l)

set_option maxHeartbeats 4000000 in
set_option maxRecDepth 100000 in
theorem understood_any (v : Value) (l : List Msg) (dst src seq kind par : Int) (dat : ByteArray) (w : World) (hv : MsgsAt w v l) (hl : l.length ≤ 64) (hc : ∀ a ∈ l, chk a = 0) (hm : chk ⟨dst, src, seq, kind, par, dat⟩ = 0) (hk : kind = 1) :
    Calls Tryz.prog 138 #[.agg #[.int .u64 dst, .int .u64 src, .int .i64 seq, .int .i64 kind, .int .i64 par, .string dat], v] w fun e w' => ∃ k id, e = .returned (.tuple #[.int .i64 k, .int .u64 id]) ∧ Hid (hearM ⟨dst, src, seq, kind, par, dat⟩ l = (k, id)) ∧ Below w.heap.size w w' := by
  obtain ⟨i0, hi, hz0, hz1, hz2⟩ := info_parts Tryz.info_strH
  have HC := Lib.hid hc
  have HM := Lib.hid hm
  have HK := Lib.hid hk
  clear hc hm hk
  rcases hv with ⟨h0, a, cap, rfl⟩ | ⟨h0, h1, b, off, cap, rfl, hlt, hcel⟩
  · have hl0 : l = [] := List.eq_nil_of_length_eq_zero h0
    subst hl0
    go_enter Tryz.func138, Tryz.ntmps138
    go_wp2
    go_ret2
    exact ⟨0, 0, rfl, rfl, by (repeat' (first | (with_reducible exact Below.refl _ _) | (with_reducible assumption) | (with_reducible refine below_drewN ?_ _) | (with_reducible refine Below.drew ?_) | (with_reducible refine Below.setCell ?_ ?_ _) | (with_reducible refine Below.alloc ?_ ?_ _) | (with_reducible refine below_after ?_ ?_ (by assumption)) | (show _ ≤ _; first | omega | (simp; done) | (simp; omega))))⟩
  · have h4 : (0 : Int) < (l.length : Int) := by omega
    have h5 : ((l.length : Int) == 0) = false := beq_eq_false_iff_ne.2 (by omega)
    have hne : l ≠ [] := fun e => by rw [e] at h0; simp at h0
    have HNE := Lib.hid hne
    clear hne
    go_enter Tryz.func138, Tryz.ntmps138
    go_wp2
    go_loopw [6, 8, 9, 10, 25] (fun v6 _ _ _ i wr => ∃ k : Nat, k ≤ l.length ∧ i = .int .i64 k ∧ wr.ownsRow (w.heap.size + 1) 9 1 v6 k (strsV ((textsM l).take k)) ∧ RowAt wr w.heap.size 52 #[.int .u64 dst, .int .u64 src, .int .i64 seq, .int .i64 kind, .int .i64 par, .string dat] ∧ Below w.heap.size w wr ∧ w.heap.size + 1 ≤ wr.heap.size) (fun _ _ _ _ i _ => l.length - (intOf i).toNat)
    case atStart => exact ⟨0, Nat.zero_le _, rfl, World.ownsRow_nil _ _ _ _, RowAt.mk rfl rfl, by (repeat' (first | (with_reducible exact Below.refl _ _) | (with_reducible assumption) | (with_reducible refine below_drewN ?_ _) | (with_reducible refine Below.drew ?_) | (with_reducible refine Below.setCell ?_ ?_ _) | (with_reducible refine Below.alloc ?_ ?_ _) | (with_reducible refine below_after ?_ ?_ (by assumption)) | (show _ ≤ _; first | omega | (simp; done) | (simp; omega)))), by simp⟩
    case round =>
      obtain ⟨k, hk, rfl, hown, hR, hb0, hzr⟩ := hrel
      by_cases hlt2 : k < l.length
      · have hlt3 : (k : Int) < (l.length : Int) := by omega
        have hw1 : ∀ j, j < l.length * 6 → wr.cell? ⟨b, off + j, none⟩ = msgsC l j := fun j hj => (hb0.cell (p := ⟨b, off + j, none⟩) hlt).trans (hcel j hj)
        obtain ⟨a, ha, e0, e1, e2, e3, e4, e5⟩ := msg_cells hw1 k hlt2
        have hca := HC.out a (List.mem_of_getElem? ha)
        have C : Hid (∀ W, Calls Tryz.prog 13 #[.agg #[.int .u64 a.dst, .int .u64 a.src, .int .i64 a.seq, .int .i64 a.kind, .int .i64 a.par, .string a.dat]] W fun e w' => e = .returned (.tuple #[.string (str (madeL a)), .int .i64 0]) ∧ Below W.heap.size W w') := fun W => (enc_any a.dst a.src a.seq a.kind a.par a.dat W).mono fun e w' ⟨s, n, he, hh, hb⟩ => by
          have := hh.out
          rw [encM, if_neg (not_not_intro hca)] at this
          cases this
          exact ⟨he, hb⟩
        have hT : strsV ((textsM l).take (k + 1)) = strsV ((textsM l).take k) ++ [.string (str (madeL a))] := by
          have : (textsM l)[k]? = some (str (madeL a)) := by simp [textsM, ha]
          rw [take_succ_some this]
          simp [strsV]
        have HT := Lib.hid hT
        obtain ⟨t, ht⟩ : ∃ t, str (madeL a) = t := ⟨_, rfl⟩
        rw [ht] at C HT
        clear hw1 hcel hca ha hT ht
        go_wp2_with fail
        refine (C.out _).mono ?_
        rintro e w1 ⟨rfl, hb1⟩
        have hb1' : Below wr.heap.size wr w1 := below_run ((Below.refl _ _).alloc (Nat.le_refl _) _) hb1
        have own1 := own_run hown hb1'
        have hR1 := hR.run hb1'
        have hbw := below_run hb0 hb1'
        have hz1' := hb1'.size
        clear hown hR hb0 hb1 hb1' e0 e1 e2 e3 e4 e5
        go_wp2_with (at_builtin; refine wpList_append_own _ rfl (.tmp 34) (.tmp 36) 27 rfl (w.heap.size + 1) 9 i0 _ 1 16 Tryz.underlying27 hi hz0 hz1 hz2 rfl (by decide) _ _ _ rfl (own1.alloc _) ⟨w1.heap.size, 0, none⟩ 1 1 [.string t] rfl rfl ?c1 ?c2 ?c3 ?c4 ?c5 ?_)
        case c1 =>
          intro j u hj
          match j, hj with
          | 0, hj =>
            simp at hj
            subst hj
            have hr0 : RowAt (w1.alloc (.cells #[.string t] 9)) w1.heap.size 9 #[.string t] := RowAt.new _ _ _
            exact (row_facts hr0).1 0
        case c2 => intro u hu; simp at hu; subst hu; rfl
        case c3 => unfold maxLen; omega
        case c4 => omega
        case c5 => simp; omega
        · intro v' w4 hown1 hgrow _
          have hb4 := below_grown (hbw.alloc (by omega) _) (own1.alloc _) (by omega) hgrow (by simp; omega)
          have hR4 := row_two (own1.alloc _) (hR1.alloc _) (by decide) hgrow
          have hz4 := hb4.size
          have hz5 : w.heap.size + 1 ≤ w4.heap.size := lt_of_block hR4
          clear own1 hR1 hgrow hbw
          go_wp2
          go_roundw
          case rel =>
            refine ⟨k + 1, by omega, by go_num, ?_, ?_, ?_, ?_⟩
            · rw [HT.out]
              exact hown1
            · exact hR4
            · exact hb4
            · exact hz5
          case measure => simp [intOf]; omega
      · obtain rfl : k = l.length := by omega
        have htl : (textsM l).length = l.length := by simp [textsM]
        rw [List.take_of_length_le (by omega)] at hown
        have hstr := strs_of hown htl.symm (by omega)
        have HO := Lib.hid (texts_over l hl HC.out)
        have CO := Lib.hid (overlay_any _ (textsM l) wr hstr)
        obtain ⟨t, ht⟩ : ∃ t, str (overL (l.map madeL)) = t := ⟨_, rfl⟩
        have htz : t.size ≤ 100000 := by
          rw [← ht, str_size]
          refine Nat.le_trans (overL_length_le _ 276 fun s hs => ?_) (by decide)
          rw [List.mem_map] at hs
          obtain ⟨a, ha, rfl⟩ := hs
          have := small_of_chk (HC.out a ha)
          rw [madeL_length]
          omega
        have htd : t.data.toList = overL (l.map madeL) := by rw [← ht]; simp [str]
        rw [ht] at HO
        have CD := Lib.hid (fun W => dec_any t W htz)
        obtain ⟨x, n, hx⟩ : ∃ x n, decM t.data.toList = (x, n) := ⟨_, _, rfl⟩
        have HX := Lib.hid hx
        have HE : Hid (decM (overL (l.map madeL)) = (x, n)) := by rw [← htd]; exact hx
        clear hown hstr hcel ht htz htd hx htl
        go_wp2_with fail
        refine CO.out.mono ?_
        rintro e w1 ⟨s1, n1, rfl, h1o, hb1⟩
        have h1e := h1o.out
        rw [HO.out] at h1e
        obtain ⟨rfl, rfl⟩ := Prod.mk.inj h1e
        have hbw := below_run hb0 hb1
        have hR1 := hR.run hb1
        clear hb0 hb1 hR h1o h1e CO
        go_wp2_with fail
        refine (CD.out _).mono ?_
        rintro e w2 ⟨x', n', rfl, h2o, hb2⟩
        have h2e := h2o.out
        rw [HX.out] at h2e
        obtain ⟨rfl, rfl⟩ := Prod.mk.inj h2e
        have hbw2 := below_run hbw hb2
        have hR2 := hR1.run hb2
        have hz2' := hbw2.size
        clear hbw hb2 hR1 h2o h2e CD
        obtain ⟨a1, a2, a3, a4, a5, a6⟩ := row_facts hR2
        by_cases hn : n = 0
        · subst hn
          have HH : Hid (hearM ⟨dst, src, seq, kind, par, dat⟩ l = heardX ⟨dst, src, seq, kind, par, dat⟩ x) := by
            show hearM _ l = _
            rw [hearM, if_neg HNE.out, HE.out, if_neg (by simp)]
          obtain ⟨q, hq⟩ : ∃ q, matchesM ⟨dst, src, seq, kind, par, dat⟩ x = q := ⟨_, rfl⟩
          have CM : Hid (∀ W, Calls Tryz.prog 69 #[.agg #[.int .u64 dst, .int .u64 src, .int .i64 seq, .int .i64 kind, .int .i64 par, .string dat], .agg #[.int .u64 x.dst, .int .u64 x.src, .int .i64 x.seq, .int .i64 x.kind, .int .i64 x.par, .string x.dat]] W fun e w' => e = .returned (.bool q) ∧ Below W.heap.size W w') := fun W => by
            have := matches_any dst src seq kind par x.dst x.src x.seq x.kind x.par dat x.dat W
            rw [← hq]
            exact this
          have HQ := Lib.hid hq
          clear hq
          cases q with
          | false =>
            go_wp2_with fail
            refine (CM.out _).mono ?_
            rintro e w3 ⟨rfl, hb3⟩
            go_wp2
            go_ret2
            refine ⟨2, 0, rfl, ?_, by (repeat' (first | (with_reducible exact Below.refl _ _) | (with_reducible assumption) | (with_reducible refine below_run ?_ (by assumption)) | (with_reducible refine below_of_upd ?_ (by assumption) ?_) | (with_reducible refine below_drewN ?_ _) | (with_reducible refine Below.drew ?_) | (with_reducible refine Below.setCell ?_ ?_ _) | (with_reducible refine Below.alloc ?_ ?_ _) | (with_reducible refine below_after ?_ ?_ (by assumption)) | (show _ ≤ _; first | omega | (simp; done) | (simp; omega))))⟩
            show hearM _ l = (2, 0)
            rw [HH.out, heardX, if_pos (.inl HQ.out)]
          | true =>
            obtain ⟨kq, hkq⟩ : ∃ kq, (x.kind != 6) = kq := ⟨_, rfl⟩
            cases kq with
            | true =>
              have HKQ : Hid (x.kind ≠ 6) := bne_iff_ne.1 hkq
              go_wp2_with fail
              refine (CM.out _).mono ?_
              rintro e w3 ⟨rfl, hb3⟩
              have hb3' : Below w2.heap.size w2 w3 := below_run ((Below.refl _ _).alloc (Nat.le_refl _) _) hb3
              have rx : RowAt w3 w2.heap.size 52 #[.int .u64 x.dst, .int .u64 x.src, .int .i64 x.seq, .int .i64 x.kind, .int .i64 x.par, .string x.dat] := (RowAt.new w2 _ _).run hb3
              obtain ⟨x1, x2, x3, x4, x5, x6⟩ := row_facts rx
              have hbw3 := below_run hbw2 hb3'
              clear hb3 hb3' hbw2
              go_wp2
              go_ret2
              refine ⟨2, 0, rfl, ?_, hbw3⟩
              show hearM _ l = (2, 0)
              rw [HH.out, heardX, if_pos (.inr (.inl HKQ.out))]
            | false =>
              have HKQ : Hid (x.kind = 6) := by
                show x.kind = 6
                simpa using hkq
              by_cases hsz : x.dat.size = 6
              · have hs6 : ((x.dat.size : Int) != 6) = false := by rw [hsz]; rfl
                have HRG : Hid (rangeM ⟨dst, src, seq, kind, par, dat⟩ = (lowM ⟨dst, src, seq, kind, par, dat⟩, highM ⟨dst, src, seq, kind, par, dat⟩, 0)) := by
                  show rangeM _ = _
                  rw [rangeM, if_neg (not_not_intro HM.out), if_neg (by rw [HK.out]; simp)]
                have CR : Hid (∀ W, Calls Tryz.prog 157 #[.agg #[.int .u64 dst, .int .u64 src, .int .i64 seq, .int .i64 kind, .int .i64 par, .string dat]] W fun e w' => e = .returned (.tuple #[.int .u64 (lowM ⟨dst, src, seq, kind, par, dat⟩), .int .u64 (highM ⟨dst, src, seq, kind, par, dat⟩), .int .i64 0]) ∧ Below W.heap.size W w') := fun W => (range_any dst src seq kind par dat W).mono fun e w' ⟨a, b, c, he, hh, hb⟩ => by
                  have := hh.out
                  rw [HRG.out] at this
                  cases this
                  exact ⟨he, hb⟩
                obtain ⟨lo, hlo⟩ : ∃ lo, lowM ⟨dst, src, seq, kind, par, dat⟩ = lo := ⟨_, rfl⟩
                obtain ⟨hg, hhg⟩ : ∃ hg, highM ⟨dst, src, seq, kind, par, dat⟩ = hg := ⟨_, rfl⟩
                rw [hlo, hhg] at CR
                have HLO := Lib.hid (And.intro hlo hhg)
                clear hlo hhg
                go_wp2_with fail
                refine (CM.out _).mono ?_
                rintro e w3 ⟨rfl, hb3⟩
                have hb3' : Below w2.heap.size w2 w3 := below_run ((Below.refl _ _).alloc (Nat.le_refl _) _) hb3
                have rx : RowAt w3 w2.heap.size 52 #[.int .u64 x.dst, .int .u64 x.src, .int .i64 x.seq, .int .i64 x.kind, .int .i64 x.par, .string x.dat] := (RowAt.new w2 _ _).run hb3
                obtain ⟨x1, x2, x3, x4, x5, x6⟩ := row_facts rx
                have hR3 := hR2.run hb3'
                obtain ⟨c1, c2, c3, c4, c5, c6⟩ := row_facts hR3
                have hbw3 := below_run hbw2 hb3'
                clear hb3 hb3' hbw2 hR2 hs6
                go_wp2
                go_loop [15, 16, 71] (fun n _ i => ∃ k : Nat, k ≤ 6 ∧ i = .int .i64 k ∧ n = .int .u64 (numOf (x.dat.data.toList.take k))) (fun _ _ i => 6 - (intOf i).toNat)
                case atStart => exact ⟨0, by omega, rfl, rfl⟩
                case round =>
                  obtain ⟨k, hk, rfl, rfl⟩ := hrel
                  by_cases hlt : k < 6
                  · have hb := numOf_take_lt x.dat k (by omega)
                    have hidx : k < x.dat.size := by omega
                    have hsn := numOf_snoc (x.dat.data.toList.take k) x.dat[k]
                    have hts := take_snoc x.dat k hidx
                    have HS : Hid (numOf (x.dat.data.toList.take (k + 1)) = numOf (x.dat.data.toList.take k) * 256 + x.dat[k].toNat) := by rw [hts]; exact hsn
                    clear hsn hts
                    go_wp2
                    go_round
                    case rel => exact ⟨k + 1, by omega, by go_num, by rw [HS.out, num_or _ _ hb]⟩
                    case measure => simp [intOf]; omega
                  · obtain rfl : k = 6 := by omega
                    have hall : x.dat.data.toList.take 6 = x.dat.data.toList := List.take_of_length_le (by simp; omega)
                    rw [hall]
                    obtain ⟨N, hN⟩ : ∃ N : Int, ((numOf x.dat.data.toList : Nat) : Int) = N := ⟨_, rfl⟩
                    rw [hN]
                    have HN := Lib.hid hN
                    have HSZ := Lib.hid hsz
                    clear hall hN hsz hk
                    go_wp2_with fail
                    refine (CR.out _).mono ?_
                    rintro e w4 ⟨rfl, hb4⟩
                    have hx4 := rx.run hb4
                    obtain ⟨d1, d2, d3, d4, d5, d6⟩ := row_facts hx4
                    have hbw4 := below_run hbw3 hb4
                    clear hb4 hbw3 x1 x2 x3 x4 x5 x6 c1 c2 c3 c4 c5 c6 rx hR3
                    by_cases t1 : N = x.src
                    · have t1b : (N != x.src) = false := by rw [t1]; simp
                      by_cases t2 : N < lo
                      · have HT := Lib.hid (And.intro t1 t2)
                        clear t1
                        go_wp2
                        go_ret2
                        refine ⟨2, 0, rfl, ?_, hbw4⟩
                        show hearM _ l = (2, 0)
                        rw [HH.out, heardX, if_neg (by rw [HQ.out, HKQ.out, HSZ.out]; simp), if_pos (.inr (.inl (by rw [HLO.out.1, ← HT.out.1]; exact HT.out.2)))]
                      · by_cases t3 : hg < N
                        · have HT := Lib.hid (And.intro t1 t3)
                          clear t1
                          go_wp2
                          go_ret2
                          refine ⟨2, 0, rfl, ?_, hbw4⟩
                          show hearM _ l = (2, 0)
                          rw [HH.out, heardX, if_neg (by rw [HQ.out, HKQ.out, HSZ.out]; simp), if_pos (.inr (.inr (by rw [HLO.out.2, ← HT.out.1]; exact HT.out.2)))]
                        · have HT := Lib.hid (And.intro t1 (And.intro t2 t3))
                          clear t1
                          go_wp2
                          go_ret2
                          refine ⟨1, N, rfl, ?_, hbw4⟩
                          show hearM _ l = (1, N)
                          obtain ⟨u1, u2, u3⟩ := HT.out
                          obtain ⟨l1, l2⟩ := HLO.out
                          rw [HH.out, heardX, if_neg (by rw [HQ.out, HKQ.out, HSZ.out]; simp), HN.out, l1, l2, ← u1, if_neg (by omega)]
                    · have t1b : (N != x.src) = true := bne_iff_ne.2 t1
                      have HT := Lib.hid t1
                      clear t1
                      go_wp2
                      go_ret2
                      refine ⟨2, 0, rfl, ?_, hbw4⟩
                      show hearM _ l = (2, 0)
                      rw [HH.out, heardX, if_neg (by rw [HQ.out, HKQ.out, HSZ.out]; simp), if_pos (.inl (by rw [HN.out]; exact HT.out))]
              · have hs6 : ((x.dat.size : Int) != 6) = true := bne_iff_ne.2 (by omega)
                have HSZ := Lib.hid hsz
                clear hsz
                go_wp2_with fail
                refine (CM.out _).mono ?_
                rintro e w3 ⟨rfl, hb3⟩
                have hb3' : Below w2.heap.size w2 w3 := below_run ((Below.refl _ _).alloc (Nat.le_refl _) _) hb3
                have rx : RowAt w3 w2.heap.size 52 #[.int .u64 x.dst, .int .u64 x.src, .int .i64 x.seq, .int .i64 x.kind, .int .i64 x.par, .string x.dat] := (RowAt.new w2 _ _).run hb3
                obtain ⟨x1, x2, x3, x4, x5, x6⟩ := row_facts rx
                have hbw3 := below_run hbw2 hb3'
                clear hb3 hb3' hbw2
                go_wp2
                go_ret2
                refine ⟨2, 0, rfl, ?_, hbw3⟩
                show hearM _ l = (2, 0)
                rw [HH.out, heardX, if_pos (.inr (.inr HSZ.out))]
        · have e9 : (n != 0) = true := by simpa using hn
          have HN := Lib.hid hn
          clear hn
          go_wp2
          go_ret2
          refine ⟨2, 0, rfl, ?_, by (repeat' (first | (with_reducible exact Below.refl _ _) | (with_reducible assumption) | (with_reducible refine below_run ?_ (by assumption)) | (with_reducible refine below_of_upd ?_ (by assumption) ?_) | (with_reducible refine below_drewN ?_ _) | (with_reducible refine Below.drew ?_) | (with_reducible refine Below.setCell ?_ ?_ _) | (with_reducible refine Below.alloc ?_ ?_ _) | (with_reducible refine below_after ?_ ?_ (by assumption)) | (show _ ≤ _; first | omega | (simp; done) | (simp; omega))))⟩
          show hearM _ l = (2, 0)
          rw [hearM, if_neg HNE.out, if_pos (by rw [HE.out]; exact HN.out)]
end Go.Proofs.YtpkhcehddfmhpaaGreat
