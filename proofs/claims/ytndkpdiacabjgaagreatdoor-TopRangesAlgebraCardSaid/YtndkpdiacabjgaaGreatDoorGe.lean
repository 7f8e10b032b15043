/-
  The list of a set.
-/
import Derived.Test.YtndkpdiacabjgaaGreatDoorGd
namespace Go.Proofs.YtndkpdiacabjgaaGreatDoor
open Go.RowKit

/-- What a call that makes a list of ranges leaves. -/
def RngsPost (M : Nat → Bool) (w : World) (e : Ending) (w' : World) : Prop :=
  ∃ (a : Option Addr) (c : Nat) (l : List (Int × Int)), e = .returned (.slice a l.length c) ∧ RngsAt w' (.slice a l.length c) l ∧ SetOf M l ∧ l.length ≤ 999 ∧ Below w.heap.size w w'

set_option maxHeartbeats 2000000 in
set_option maxRecDepth 100000 in
theorem granges_any (b : Nat) (M : Nat → Bool) (w : World) (hs : SetAt w b M) (h0 : M 0 = false) :
    Calls Tryz.prog 40 #[.pointer (some ⟨b, 0, none⟩)] w (RngsPost M w) := by
  obtain ⟨i0, hi, hz0, hz1, hz2⟩ := info_parts Tryz.info_rng
  have HS := Lib.hid hs
  have H0 := Lib.hid h0
  have hbl : b < w.heap.size := lt_of_block hs
  clear hs h0
  go_enter Tryz.func40, Tryz.ntmps40
  go_wp2
  go_loopw [3, 4] (fun v c wr => ∃ (n : Nat) (l : List (Int × Int)), c = .int .i64 ((n + 1 : Nat) : Int) ∧ n ≤ 999 ∧ wr.ownsRow w.heap.size 42 2 v l.length (rngsL l) ∧ Hid (UpTo M n l) ∧ l.length ≤ n ∧ Below w.heap.size w wr) (fun _ c _ => 1001 - (intOf c).toNat)
  case atStart => exact ⟨0, [], rfl, by decide, World.ownsRow_nil _ _ _ _, Lib.hid (upto_zero M), Nat.le_refl _, Below.refl _ _⟩
  case round =>
    rename World => wr
    obtain ⟨n, l, rfl, hn, hown, HU, hln, hb0⟩ := hrel
    by_cases h9 : n + 1 ≤ 999
    · have h9' : ((n + 1 : Nat) : Int) ≤ 999 := by omega
      have h9a : ((n + 1 : Nat) : Int) < 1001 := by omega
      have h9b : (0 : Int) ≤ ((n + 1 : Nat) : Int) := by omega
      have h9c : ((n + 1 : Nat) : Int).toNat = n + 1 := by omega
      have h9d : IntKind.i64.wrap (((n + 1 : Nat) : Int) - 1) = (n : Int) := by rw [IntWalk.i64_in _ (by omega)]; omega
      have h9e : (n : Int) < 1001 := by omega
      have h9f : IntKind.i64.wrap (((n + 1 : Nat) : Int) + 1) = ((n + 1 + 1 : Nat) : Int) := by rw [IntWalk.i64_in _ (by omega)]; omega
      have hsr : SetAt wr b M := RowAt.below HS.out hb0 hbl
      obtain ⟨s1, s2, s3⟩ := hsr.facts
      have c1 := s1 (n + 1) (by omega)
      have c0 := s1 n (by omega)
      have hsz := hb0.size
      clear s1 s2
      obtain ⟨q1, hq1⟩ : ∃ q, M (n + 1) = q := ⟨_, rfl⟩
      obtain ⟨q0, hq0⟩ : ∃ q, M n = q := ⟨_, rfl⟩
      rw [hq1] at c1
      rw [hq0] at c0
      obtain ⟨i, hin⟩ : ∃ i : Int, ((n + 1 : Nat) : Int) = i := ⟨_, rfl⟩
      rw [hin] at h9' h9a h9b h9c h9d h9f ⊢
      cases q1 with
      | false =>
        have HN := Lib.hid (upto_skip HU.out hq1)
        clear hq1 hq0
        go_wp2
        go_roundw
        case rel => exact ⟨n + 1, l, by rw [show (i + 1 : Int) = ((n + 1 + 1 : Nat) : Int) from by omega], by omega, hown, HN, by omega, hb0⟩
        case measure => simp [intOf]; omega
      | true =>
        cases q0 with
        | false =>
          have HN := Lib.hid (upto_new HU.out h9 hq1 hq0)
          rw [hin] at HN
          have hll : (l.length : Int) + 1 ≤ 1000 := by omega
          clear hq1 hq0
          go_wp2_with (at_builtin; refine wpList_append_own _ rfl _ _ 33 rfl w.heap.size 42 i0 _ 2 16 Tryz.underlying33 hi hz0 hz1 hz2 rfl (by decide) _ _ _ rfl (hown.alloc _) ⟨wr.heap.size, 0, none⟩ 1 1 (rngA (i, i)).toList rfl rfl ?c1 (rng_ones (i, i)) ?c3 ?c4 ?c5 ?_)
          case c1 => exact rng_news (r := (i, i)) (RowAt.mk (by simp) rfl)
          case c3 => unfold maxLen; omega
          case c4 => omega
          case c5 => simp; omega
          · intro v' w1 hown' hgrow _
            have hd2 : rngsL (l ++ [(i, i)]) = rngsL l ++ [Value.int IntKind.i64 i, Value.int IntKind.i64 i] := by
              rw [rngsL_append]; rfl
            have hb1 := below_grown (hb0.alloc (by omega) _) (hown.alloc _) (by omega) hgrow (by simp; omega)
            have hownN : w1.ownsRow w.heap.size 42 2 v' (l.length + 1) (rngsL (l ++ [(i, i)])) := by rw [hd2]; exact hown'
            obtain ⟨g, cap, rfl, hg1, hg2, ⟨u, hu⟩, hfz, hset⟩ := rngs_last hownN
            have hown2 := hset i
            have hll2 : ((l.length + 1 : Nat) : Int) ≤ 1000 := by omega
            have hll3 : IntKind.i64.wrap (((l.length + 1 : Nat) : Int) - 1) = (l.length : Int) := by rw [IntWalk.i64_in _ (by omega)]; omega
            have hll4 : (l.length : Int) < ((l.length + 1 : Nat) : Int) := by omega
            have hll5 : (0 : Int) ≤ (l.length : Int) := by omega
            have hfz2 := hfz (l.length * 2 + 1)
            clear hgrow hown hd2 hset hfz hown' hownN
            go_wp2
            go_roundw
            case rel => exact ⟨n + 1, l ++ [(i, i)], by rw [show (i + 1 : Int) = ((n + 1 + 1 : Nat) : Int) from by omega], by omega, by rw [List.length_append]; exact hown2, HN, by rw [List.length_append]; simp; omega, hb1.setCell hg1 _⟩
            case measure => simp [intOf]; omega
        | true =>
          have hn1 : 1 ≤ n := by
            rcases Nat.eq_zero_or_pos n with h | h
            · subst h; rw [H0.out] at hq0; cases hq0
            · exact h
          obtain ⟨l0, a, hl, hup⟩ := upto_more HU.out h9 hn1 hq1 hq0
          rw [hin] at hup
          subst hl
          have HN := Lib.hid hup
          rw [List.length_append] at hown hln
          obtain ⟨g, cap, rfl, hg1, hg2, ⟨u, hu⟩, hfz, hset⟩ := rngs_last hown
          have hown2 := hset i
          have hll3 : IntKind.i64.wrap (((l0.length + [(a, (n : Int))].length : Nat) : Int) - 1) = (l0.length : Int) := by rw [IntWalk.i64_in _ (by simp at hln ⊢; omega)]; simp
          have hll4 : (l0.length : Int) < ((l0.length + [(a, (n : Int))].length : Nat) : Int) := by simp; omega
          have hll5 : (0 : Int) ≤ (l0.length : Int) := by omega
          have hfz2 := hfz (l0.length * 2 + 1)
          clear hq1 hq0 hup hset hfz hown
          go_wp2
          go_roundw
          case rel => exact ⟨n + 1, l0 ++ [(a, i)], by rw [show (i + 1 : Int) = ((n + 1 + 1 : Nat) : Int) from by omega], by omega, by rw [List.length_append]; exact hown2, HN, by rw [List.length_append]; simp at hln ⊢; omega, hb0.setCell hg1 _⟩
          case measure => simp [intOf]; omega
    · obtain rfl : n = 999 := by omega
      have hat := own_rngs hown (by omega)
      obtain ⟨va, vc, e⟩ := seq_shape hat
      subst e
      go_wp2
      go_ret
      exact ⟨va, vc, l, rfl, hat, upto_set HU.out, hln, hb0⟩
end Go.Proofs.YtndkpdiacabjgaaGreatDoor
