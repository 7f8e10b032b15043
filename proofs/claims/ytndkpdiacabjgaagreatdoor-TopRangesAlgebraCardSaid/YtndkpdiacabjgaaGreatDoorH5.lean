/-
  The number with some thousandths: what both sides write.
-/
import Derived.Test.YtndkpdiacabjgaaGreatDoorG5
import Derived.Laws.Runes
import Derived.Lib.SmallJoins
import Derived.Deep.RegionWith
namespace Go.Proofs.YtndkpdiacabjgaaGreatDoor
open Go.RowKit

/-- The library's table of powers of ten. -/
def Pow (w : World) : Prop := Lib.TabIs Tryz.prog w "internal/strconv.uint64pow10" .u64 Lib.pow10Tab
theorem Pow.run {w w' : World} (h : Pow w) (hb : Below w.heap.size w w') : Pow w' := Go.Joins.tab_stays (g := 3) (by kernel_rfl) h hb (Nat.le_refl _)
theorem Pow.alloc {w : World} (h : Pow w) (o : Obj) : Pow (w.alloc o) := h.run (Below.alloc (Below.refl _ _) (Nat.le_refl _) o)
theorem Pow.drew {w : World} (h : Pow w) : Pow w.drew := h.run (Below.drew (Below.refl _ _))
theorem Pow.drewN {w : World} (h : Pow w) (n : Nat) : Pow (w.drewN n) := h.run (below_drewN (Below.refl _ _) n)

theorem below_grew (w : World) (k : Nat) (os : Array Obj) : Below w.heap.size w (Sort.grow (w.drewN k) os) :=
  ⟨rfl, rfl, rfl, by show w.heap.size ≤ (w.heap ++ os).size; rw [Array.size_append]; omega, fun _ hj => Sort.heap_grow_old (w.drewN k) os hj⟩

theorem itoa_any (n : Nat) (w : World) (hn : n ≤ 100000000) (h : Pow w) :
    Calls Tryz.prog 33 #[.int .i64 n] w fun e w' => e = .returned (.string (str (Lib.decDigits n))) ∧ Below w.heap.size w w' := by
  refine (Tryz.strconv_Itoa (n : Int) (by omega) (by omega) w h).mono ?_
  rintro e w' ⟨rfl, k, os, rfl⟩
  refine ⟨?_, below_grew _ _ _⟩
  rw [Lib.itoa, if_neg (by omega)]
  rfl

theorem suffix_pt (l r : List UInt8) (h : r = [] ∨ r.all isDig = true ∧ r ≠ []) : Lib.trimSuffix (l ++ [46] ++ r) [46] = if r = [] then l else l ++ [46] ++ r := by
  unfold Lib.trimSuffix Lib.hasSuffix
  rcases h with rfl | ⟨h1, h2⟩
  · simp
  · rw [if_neg, if_neg h2]
    intro hs
    have hm : [46] <:+ (l ++ [46] ++ r) := by simpa using hs
    obtain ⟨t, ht⟩ := hm
    have hl := congrArg List.getLast? ht
    rw [List.getLast?_append, List.getLast?_append] at hl
    cases hr : r.getLast? with
    | none => exact h2 (List.getLast?_eq_none_iff.1 hr)
    | some b =>
      rw [hr] at hl
      simp at hl
      have hb : b ∈ r := List.mem_of_getLast? hr
      rw [List.all_eq_true] at h1
      have := isDig_le (h1 b hb)
      rw [← hl] at this
      simp at this

/-- What is written. -/
theorem named_text (n : Nat) : Lib.trimSuffix (Lib.decDigits (n / 1000) ++ [46] ++ Lib.trimRightB (three (n % 1000)) 48) [46] = named n := by
  have hm : n % 1000 < 1000 := Nat.mod_lt _ (by decide)
  unfold named
  by_cases h : n % 1000 = 0
  · rw [if_pos h, h, trim_zero, suffix_pt _ _ (.inl rfl), if_pos rfl, List.append_nil]
  · rw [if_neg h, suffix_pt _ _ (.inr ⟨trim_digs _ hm, trim_ne _ hm h⟩), if_neg (trim_ne _ hm h)]
    simp

theorem drop_one (m : Nat) (h : m < 1000) : (str (Lib.decDigits (1000 + m))).extract 1 (str (Lib.decDigits (1000 + m))).size = str (three m) :=
  str_of_list (by rw [drop_extract, str_data, dec1000 m h]; rfl)

theorem str_add (a b : List UInt8) : str a ++ str b = str (a ++ b) := str_of_list (by rw [ByteArray.data_append, Array.toList_append, str_data, str_data])

set_option maxHeartbeats 2000000 in
set_option maxRecDepth 100000 in
theorem of5_good (n : Nat) (w : World) (h1 : 1 ≤ n) (h2 : n ≤ 9999999) (hp : Pow w) :
    Calls Tryz.prog 28 #[.int .i64 n] w fun e w' => e = .returned (.tuple #[.string (str (named n)), .int .i64 0]) ∧ Below w.heap.size w w' := by
  have hm : n % 1000 < 1000 := Nat.mod_lt _ (by decide)
  have C1 : Hid (∀ W, Below w.heap.size w W → Calls Tryz.prog 33 #[.int .i64 ((n : Int) / 1000)] W fun e w' => e = .returned (.string (str (Lib.decDigits (n / 1000)))) ∧ Below W.heap.size W w') := fun W hb => itoa_any (n / 1000) W (by omega) (hp.run hb)
  have C2 : Hid (∀ W, Below w.heap.size w W → Calls Tryz.prog 33 #[.int .i64 (1000 + (n : Int) % 1000)] W fun e w' => e = .returned (.string (str (Lib.decDigits (1000 + n % 1000)))) ∧ Below W.heap.size W w') := fun W hb => itoa_any (1000 + n % 1000) W (by omega) (hp.run hb)
  have HD := Lib.hid (drop_one (n % 1000) hm)
  have HN := Lib.hid (named_text n)
  have hl1 : (Lib.decDigits (n / 1000)).length ≤ 4 := decDigits_len _ (by omega)
  have hl2 : (str (Lib.decDigits (1000 + n % 1000))).size = 4 := by rw [str_len, dec1000 _ hm]; rfl
  have hl3 : (Lib.trimRightB (three (n % 1000)) 48).length ≤ 3 := by rw [trim_len _ hm]; unfold decs; repeat' split
                                                                     all_goals omega
  have T1 := fun W => Tryz.strings_TrimRight_one (str (three (n % 1000))) 48 (by decide) W (by rw [str_len]; simp [three])
  rw [str_data] at T1
  have T2 := fun W => Tryz.strings_TrimSuffix (str (Lib.decDigits (n / 1000)) ++ ⟨#[46]⟩ ++ str (Lib.trimRightB (three (n % 1000)) 48)) ⟨#[46]⟩ W (by rw [show (⟨#[46]⟩ : ByteArray) = str [46] from rfl, str_add, str_add, str_len, List.length_append, List.length_append]; simp; omega)
  have he : (str (Lib.decDigits (n / 1000)) ++ ⟨#[46]⟩ ++ str (Lib.trimRightB (three (n % 1000)) 48)).data.toList = Lib.decDigits (n / 1000) ++ [46] ++ Lib.trimRightB (three (n % 1000)) 48 := by
    rw [show (⟨#[46]⟩ : ByteArray) = str [46] from rfl, str_add, str_add, str_data]
  rw [he, HN.out] at T2
  have i1 : ¬ ((n : Int) < 1) := by omega
  have i2 : ¬ (9999999 < (n : Int)) := by omega
  have HT1 : Hid (∀ W, Calls Tryz.prog 45 #[.string (str (three (n % 1000))), .string ⟨#[48]⟩] W fun e w' => e = .returned (.string (str (Lib.trimRightB (three (n % 1000)) 48))) ∧ w' = W) := T1
  have HT2 : Hid (∀ W, Calls Tryz.prog 44 #[.string (str (Lib.decDigits (n / 1000)) ++ ⟨#[46]⟩ ++ str (Lib.trimRightB (three (n % 1000)) 48)), .string ⟨#[46]⟩] W fun e w' => e = .returned (.string (str (named n))) ∧ w' = W) := T2
  have ht1 : (n : Int).tmod 1000 = (n : Int) % 1000 := Int.tmod_eq_emod_of_nonneg (by omega)
  have ht2 : (n : Int).tdiv 1000 = (n : Int) / 1000 := Int.tdiv_eq_ediv_of_nonneg (by omega)
  have hq : IntKind.i64.wrap ((n : Int) / 1000) = (n : Int) / 1000 := IntWalk.i64_in _ (by omega)
  have hr : IntKind.i64.wrap (1000 + (n : Int) % 1000) = 1000 + (n : Int) % 1000 := IntWalk.i64_in _ (by omega)
  obtain ⟨a, ha⟩ : ∃ a, str (Lib.decDigits (n / 1000)) = a := ⟨_, rfl⟩
  obtain ⟨b, hb⟩ : ∃ b, str (Lib.decDigits (1000 + n % 1000)) = b := ⟨_, rfl⟩
  obtain ⟨c, hc⟩ : ∃ c, str (three (n % 1000)) = c := ⟨_, rfl⟩
  obtain ⟨d, hd⟩ : ∃ d, str (Lib.trimRightB (three (n % 1000)) 48) = d := ⟨_, rfl⟩
  have za : a.size ≤ 4 := by rw [← ha, str_len]; exact hl1
  have zd : d.size ≤ 3 := by rw [← hd, str_len]; exact hl3
  rw [ha] at C1 HT2
  rw [hb] at C2 HD hl2
  rw [hc] at HT1 HD
  rw [hd] at HT1 HT2
  rw [hl2] at HD
  have za2 : (a.size : Int) ≤ 4 := by omega
  have zd2 : (d.size : Int) ≤ 3 := by omega
  have hbe : b.extract 1 4 = c := HD.out
  clear T1 T2 he hl1 hl3 ha hb hc hd HN HD hp za zd h1 h2
  go_enter Tryz.func28, Tryz.ntmps28
  go_wp2_with fail
  go_cut [4, 5] (fun s4 s5 wx => s4 = .string a ∧ s5 = .string c ∧ Below w.heap.size w wx)
  case first =>
    go_region_with (first | (go_at_call 33; with_reducible refine (C1.out _ ?_).mono ?_; (focus ((repeat' (first | (with_reducible exact Below.refl _ _) | (with_reducible assumption) | (with_reducible refine below_run ?_ (by assumption)) | (with_reducible refine below_of_upd ?_ (by assumption) ?_) | (with_reducible refine below_drewN ?_ _) | (with_reducible refine Below.drew ?_) | (with_reducible refine Below.setCell ?_ ?_ _) | (with_reducible refine Below.alloc ?_ ?_ _) | (with_reducible refine below_after ?_ ?_ (by assumption)) | (show _ ≤ _; first | omega | (simp; done) | (simp; omega)))); done)); rintro e u1 ⟨rfl, hbu1⟩) | (go_at_call 33; with_reducible refine (C2.out _ ?_).mono ?_; (focus ((repeat' (first | (with_reducible exact Below.refl _ _) | (with_reducible assumption) | (with_reducible refine below_run ?_ (by assumption)) | (with_reducible refine below_of_upd ?_ (by assumption) ?_) | (with_reducible refine below_drewN ?_ _) | (with_reducible refine Below.drew ?_) | (with_reducible refine Below.setCell ?_ ?_ _) | (with_reducible refine Below.alloc ?_ ?_ _) | (with_reducible refine below_after ?_ ?_ (by assumption)) | (show _ ≤ _; first | omega | (simp; done) | (simp; omega)))); done)); rintro e u2 ⟨rfl, hbu2⟩) | fail)
    all_goals (try go_simp)
    all_goals (go_wp2_with fail)
    all_goals (go_meet; exact ⟨rfl, rfl, by (repeat' (first | (with_reducible exact Below.refl _ _) | (with_reducible assumption) | (with_reducible refine below_run ?_ (by assumption)) | (with_reducible refine below_of_upd ?_ (by assumption) ?_) | (with_reducible refine below_drewN ?_ _) | (with_reducible refine Below.drew ?_) | (with_reducible refine Below.setCell ?_ ?_ _) | (with_reducible refine Below.alloc ?_ ?_ _) | (with_reducible refine below_after ?_ ?_ (by assumption)) | (show _ ≤ _; first | omega | (simp; done) | (simp; omega))))⟩)
  case rest =>
    obtain ⟨rfl, rfl, hbb⟩ := hcut
    go_wp2_with fail
    refine (HT1.out _).mono ?_
    rintro e w2 ⟨rfl, rfl⟩
    go_wp2_with fail
    refine (HT2.out _).mono ?_
    rintro e w3 ⟨rfl, rfl⟩
    go_wp2
    go_ret2
    exact ⟨rfl, hbb⟩
end Go.Proofs.YtndkpdiacabjgaaGreatDoor
