/-
  Sorting by insertion: plain laws.
  The library's slices.Sort on few numbers: what it leaves is in order, and has the same numbers.
  A copy of a list of identities; the identities of devices, in order.
-/
import Derived.Test.YtpkhcehddfmhpaaGreatSk
import Derived.Deep.RegionHeld
import Derived.Deep.RegionHeld3
import Derived.Deep.RegionWith
import Derived.IntWalk
import Derived.Test.YtpkhcehddfmhpaaGreatBus
namespace Go.Proofs.YtpkhcehddfmhpaaGreat
open Go.RowKit

/-- The first numbers of a list are in order; and those up to one, but for the one that is being inserted. -/
def SrtTo (l : List Int) (i : Nat) : Prop := ∀ p q, p < q → q < i → l.getD p 0 ≤ l.getD q 0
structure InsAt (l : List Int) (i j : Nat) : Prop where
  rest : ∀ p q, p < q → q ≤ i → p ≠ j → q ≠ j → l.getD p 0 ≤ l.getD q 0
  one : ∀ q, j < q → q ≤ i → l.getD j 0 ≤ l.getD q 0

theorem ins_start {l : List Int} {i : Nat} (h : SrtTo l i) : InsAt l i i := ⟨fun p q hp hq _ hn => h p q hp (by omega), fun q h1 h2 => by omega⟩
theorem ins_end {l : List Int} {i j : Nat} (h : InsAt l i j) (he : j = 0 ∨ ∃ k, j = k + 1 ∧ l.getD k 0 ≤ l.getD j 0) : SrtTo l (i + 1) := by
  intro p q hp hq
  by_cases h1 : p = j
  · subst h1
    exact h.one q hp (by omega)
  · by_cases h2 : q = j
    · subst h2
      rcases he with he | ⟨k, hk, he⟩
      · omega
      · by_cases h3 : p = k
        · subst h3
          exact he
        · exact Int.le_trans (h.rest p k (by omega) (by omega) h1 (by omega)) he
    · exact h.rest p q hp (by omega) h1 h2
/-- Two neighbours are exchanged. -/
def swp (l : List Int) (k : Nat) : List Int := (l.set (k + 1) (l.getD k 0)).set k (l.getD (k + 1) 0)
theorem swp_length (l : List Int) (k : Nat) : (swp l k).length = l.length := by simp [swp]
theorem swp_at {l : List Int} {k : Nat} (hk : k + 1 < l.length) (p : Nat) : (swp l k).getD p 0 = if p = k then l.getD (k + 1) 0 else if p = k + 1 then l.getD k 0 else l.getD p 0 := by
  simp only [swp, List.getD_eq_getElem?_getD]
  by_cases h1 : p = k
  · subst h1
    rw [List.getElem?_set_self (by simp; omega)]
    simp
  · rw [List.getElem?_set_ne (fun e => h1 e.symm), if_neg h1]
    by_cases h2 : p = k + 1
    · subst h2
      rw [List.getElem?_set_self (by omega)]
      simp
    · rw [List.getElem?_set_ne (fun e => h2 e.symm), if_neg h2]
theorem swp_perm {l : List Int} {k : Nat} (hk : k + 1 < l.length) : (swp l k).Perm l := by
  have h := @List.set_set_perm Int l (k + 1) k hk (by omega)
  have e1 : l.getD k 0 = l[k] := by simp [List.getD_eq_getElem?_getD, List.getElem?_eq_getElem (show k < l.length by omega)]
  have e2 : l.getD (k + 1) 0 = l[k + 1] := by simp [List.getD_eq_getElem?_getD, List.getElem?_eq_getElem hk]
  rw [swp, e1, e2]
  exact h
theorem ins_swap {l : List Int} {i k : Nat} (hk : k + 1 < l.length) (h : InsAt l i (k + 1)) (hlt : l.getD (k + 1) 0 < l.getD k 0) : InsAt (swp l k) i k := by
  refine ⟨fun p q hp hq h1 h2 => ?_, fun q h1 h2 => ?_⟩
  · rw [swp_at hk, swp_at hk, if_neg h1, if_neg h2]
    by_cases h3 : p = k + 1
    · rw [if_pos h3, if_neg (by omega)]
      exact h.rest k q (by omega) hq (by omega) (by omega)
    · rw [if_neg h3]
      by_cases h4 : q = k + 1
      · rw [if_pos h4]
        exact h.rest p k (by omega) (by omega) h3 (by omega)
      · rw [if_neg h4]
        exact h.rest p q hp hq h3 h4
  · rw [swp_at hk, swp_at hk, if_pos rfl, if_neg (by omega)]
    by_cases h4 : q = k + 1
    · rw [if_pos h4]
      omega
    · rw [if_neg h4]
      exact h.one q (by omega) h2
theorem srt_pairwise {l : List Int} (h : SrtTo l l.length) : l.Pairwise (· ≤ ·) := by
  rw [List.pairwise_iff_getElem]
  intro i j hi hj hij
  have := h i j hij hj
  simpa [List.getD_eq_getElem?_getD, List.getElem?_eq_getElem hi, List.getElem?_eq_getElem hj] using this
/-- Two lists in order with the same numbers are equal. -/
theorem srt_eq {l m : List Int} (h1 : l.Pairwise (· ≤ ·)) (h2 : m.Pairwise (· ≤ ·)) (hp : l.Perm m) : l = m :=
  List.Perm.eq_of_pairwise (le := (· ≤ ·)) (fun _ _ _ _ a b => Int.le_antisymm a b) h1 h2 hp

/-- A row in memory whose first cells are the numbers of a list. -/
def U64Row (w : World) (b T c : Nat) (l : List Int) : Prop := ∃ cur, RowAt w b T cur ∧ cur.toList.take l.length = u64L l ∧ l.length ≤ cur.size ∧ cur.size = c
theorem u64row_lt {w : World} {b T c : Nat} {l : List Int} (h : U64Row w b T c l) : b < w.heap.size := by
  obtain ⟨cur, hr, -⟩ := h
  exact lt_of_block hr
theorem u64row_cell {w : World} {b T c : Nat} {l : List Int} (h : U64Row w b T c l) {k : Nat} (hk : k < l.length) : w.cell? ⟨b, k, none⟩ = some (.int .u64 (l.getD k 0)) ∧ w.frozen? ⟨b, k, none⟩ = false := by
  obtain ⟨cur, hr, ht, hs, hc⟩ := h
  refine ⟨?_, (row_facts hr).2.1 k⟩
  rw [(row_facts hr).1]
  have h1 : (cur.toList.take l.length)[k]? = cur.toList[k]? := List.getElem?_take_of_lt hk
  rw [ht, u64L_get, u64C, List.getElem?_eq_getElem hk] at h1
  simp only [Array.getElem?_toList] at h1
  rw [← h1]
  simp [List.getD_eq_getElem?_getD, List.getElem?_eq_getElem hk]
theorem u64row_set {w : World} {b T c : Nat} {l : List Int} (h : U64Row w b T c l) (k : Nat) (x : Int) : U64Row (w.setCell ⟨b, k, none⟩ (.int .u64 x)) b T c (l.set k x) := by
  obtain ⟨cur, hr, ht, hs, hc⟩ := h
  refine ⟨_, RowAt.set hr rfl, ?_, by simpa using hs, by simpa using hc⟩
  rw [List.length_set, Array.toList_setIfInBounds, List.take_set, ht]
  simp [u64L]
theorem u64row_swp {w : World} {b T c : Nat} {l : List Int} {k : Nat} (h : U64Row w b T c l) {x y : Int} (hx : l.getD k 0 = x) (hy : l.getD (k + 1) 0 = y) :
    U64Row ((w.setCell ⟨b, k + 1, none⟩ (.int .u64 x)).setCell ⟨b, k, none⟩ (.int .u64 y)) b T c (swp l k) := by
  rw [swp, hx, hy]
  exact u64row_set (u64row_set h (k + 1) x) k y
theorem u64row_drew {w : World} {b T c : Nat} {l : List Int} (h : U64Row w b T c l) : U64Row w.drew b T c l := h
theorem own_u64row {w : World} {B T n cap : Nat} {a : Addr} {l : List Int} (h : w.ownsRow B T 1 (.slice (some a) n cap) n (u64L l)) : n = l.length ∧ a = ⟨a.block, 0, none⟩ ∧ B ≤ a.block ∧ U64Row w a.block T cap l ∧ n ≤ cap ∧ cap ≤ maxLen := by
  have hn : n = l.length := by have := h.1; rw [u64L_length] at this; omega
  rcases h.2 with ⟨hv, _⟩ | ⟨g, cap', cur, hv, hb, hg, hnc, hcm, hcs, ht⟩
  · cases hv
  · cases hv
    refine ⟨hn, rfl, hb, ⟨cur, hg, ?_, by omega, by omega⟩, hnc, hcm⟩
    rw [Nat.mul_one] at ht
    rw [← hn]
    exact ht
theorem u64row_own {w : World} {B T g cap : Nat} {l : List Int} (h : U64Row w g T cap l) (hb : B ≤ g) (hc : l.length ≤ cap) (hm : cap ≤ maxLen) : w.ownsRow B T 1 (.slice (some ⟨g, 0, none⟩) l.length cap) l.length (u64L l) := by
  obtain ⟨cur, hr, ht, hs, hz⟩ := h
  exact ⟨by rw [u64L_length, Nat.mul_one], .inr ⟨g, cap, cur, rfl, hb, hr, hc, hm, by omega, by rw [Nat.mul_one]; exact ht⟩⟩
end Go.Proofs.YtpkhcehddfmhpaaGreat

namespace Go.Proofs.YtpkhcehddfmhpaaGreat
open Go.RowKit

set_option maxHeartbeats 1000000 in
set_option maxRecDepth 100000 in
theorem less_u64 (x y : Int) (q : Bool) (hq : decide (x < y) = q) (w : World) : Calls Tryz.prog 146 #[.int .u64 x, .int .u64 y] w fun e w' => e = .returned (.bool q) ∧ w = w' := by
  have N : ∀ (z : Int) (w : World), Calls Tryz.prog 175 #[.int .u64 z] w fun e w' => e = .returned (.bool false) ∧ w = w' := fun z w => by
    go_enter Tryz.func175, Tryz.ntmps175
    go_wp2
    go_ret
    exact ⟨by simp, rfl⟩
  have HN := Lib.hid N
  have HQ := Lib.hid hq
  clear N hq
  go_enter Tryz.func146, Tryz.ntmps146
  go_wp2_with fail
  refine (HN.out _ _).mono ?_
  rintro e w' ⟨rfl, rfl⟩
  go_wp2
  go_ret
  exact ⟨ret_bool (by rw [← HQ.out]), rfl⟩

/-- What sorting leaves. -/
def SrtPost (b T c : Nat) (l : List Int) (w : World) (e : Ending) (w' : World) : Prop := e = .returned (.tuple #[]) ∧ Upd b w w' ∧ ∃ l', U64Row w' b T c l' ∧ l'.Perm l ∧ l'.Pairwise (· ≤ ·)

set_option maxHeartbeats 4000000 in
set_option maxRecDepth 100000 in
theorem insertion_any (b T c cap : Nat) (l : List Int) (w : World) (h : U64Row w b T c l) (hl : l.length ≤ 100) :
    Calls Tryz.prog 140 #[.slice (some ⟨b, 0, none⟩) l.length cap, .int .i64 0, .int .i64 l.length] w (SrtPost b T c l w) := by
  have H := Lib.hid h
  have hlc : (l.length : Int) ≤ 100 := by omega
  clear h
  go_enter Tryz.func140, Tryz.ntmps140
  go_wp2_with fail
  go_loopw [6, 7] (fun i _ wr => ∃ (k : Nat) (m : List Int), i = .int .i64 ((k : Int) + 1) ∧ k ≤ l.length ∧ m.length = l.length ∧ SrtTo m (k + 1) ∧ m.Perm l ∧ U64Row wr b T c m ∧ Upd b w wr) (fun i _ _ => l.length - (intOf i).toNat)
  case atStart => exact ⟨0, l, rfl, Nat.zero_le _, rfl, fun p q hp hq => by omega, List.Perm.refl _, H.out, upd_refl _ _⟩
  case round =>
    obtain ⟨k, m, rfl, hk, hm, hs, hp, hr, hu⟩ := hrel
    by_cases hlt : k + 1 < l.length
    · have hlt1 : (k : Int) + 1 < (l.length : Int) := by omega
      have hr1 := u64row_drew hr
      have HS := Lib.hid (ins_start hs)
      have HP := Lib.hid hp
      have HR := Lib.hid hr
      have HU := Lib.hid hu
      have HM := Lib.hid hm
      clear hs hp hr hm hu hr1
      go_wp2_with fail
      go_loopw [7] (fun i wq => ∃ (j : Nat) (m' : List Int), i = .int .i64 j ∧ j ≤ k + 1 ∧ m'.length = l.length ∧ InsAt m' (k + 1) j ∧ m'.Perm l ∧ U64Row wq b T c m' ∧ Upd b w wq) (fun i _ => (intOf i).toNat)
      case atStart => exact ⟨k + 1, m, by go_num, Nat.le_refl _, HM.out, HS.out, HP.out, HR.out, HU.out⟩
      case round =>
        obtain ⟨j, m', rfl, hj, hm', hi', hp', hr', hu'⟩ := hrel
        have HM' := Lib.hid hm'
        have HP' := Lib.hid hp'
        have HI' := Lib.hid hi'
        have HU' := Lib.hid hu'
        match j, hj with
        | 0, _ =>
          have HR' := Lib.hid hr'
          clear hm' hp' hi' hu' hr'
          go_upto_region 4 with fail
          refine wp_region_noPanic ?_
          refine wp_region_held_drew (S := (fun _ => True)) (by kernel_rfl) ?_ (fun hHeld => ?_)
          · trivial
          refine wpAnyH_take (i := 0) (oi := _) (v := ?_) rfl (by kernel_rfl) (by kernel_rfl) (by kernel_rfl) (fun _ _ _ h => h) (Or.inl ⟨by rfl, ?_⟩) (by assumption) ?_
          rotate_left
          · intro w' hSw
            skip
            go_simp
            (try with_reducible rfl)
          (try simp only [Act.put, List.setIfInBounds_toArray, List.set_cons_zero, List.set_cons_succ, List.getElem_toArray, List.getElem_cons_zero])
          refine wpAnyH_take (i := 1) (oi := _) (v := ?_) rfl (by kernel_rfl) (by kernel_rfl) (by kernel_rfl) (fun _ _ _ h => h) (Or.inl ⟨by rfl, ?_⟩) (by assumption) ?_
          rotate_left
          · intro w' hSw
            skip
            go_simp
            (try with_reducible rfl)
          (try simp only [Act.put, List.setIfInBounds_toArray, List.set_cons_zero, List.set_cons_succ, List.getElem_toArray, List.getElem_cons_succ, List.getElem_cons_zero])
          refine wpAnyH_take (i := 2) (oi := _) (v := ?_) rfl (by kernel_rfl) (by kernel_rfl) (by kernel_rfl) (fun _ _ _ h => h) (Or.inl ⟨by rfl, ?_⟩) (by assumption) ?_
          rotate_left
          · intro w' hSw
            skip
            go_simp
            (try with_reducible rfl)
          (try simp only [Act.put, List.setIfInBounds_toArray, List.set_cons_zero, List.set_cons_succ, List.getElem_toArray, List.getElem_cons_succ, List.getElem_cons_zero])
          refine wpAnyH_take (i := 3) (oi := _) (v := ?_) rfl (by kernel_rfl) (by kernel_rfl) (by kernel_rfl) (fun _ _ _ h => h) (Or.inl ⟨by rfl, ?_⟩) (by assumption) ?_
          rotate_left
          · intro w' hSw
            skip
            go_simp
            (try with_reducible rfl)
          (try simp only [Act.put, List.setIfInBounds_toArray, List.set_cons_zero, List.set_cons_succ, List.getElem_toArray, List.getElem_cons_succ, List.getElem_cons_zero])
          refine wpAnyH_take (i := 4) (oi := _) (v := undef) rfl (by kernel_rfl) (by kernel_rfl) (by kernel_rfl) (fun _ _ _ h => h) (Or.inr ⟨by rfl, rfl⟩) (by assumption) ?_
          (try simp only [Act.put, List.setIfInBounds_toArray, List.set_cons_zero, List.set_cons_succ, List.getElem_toArray, List.getElem_cons_succ, List.getElem_cons_zero])
          refine wpAnyH_take (i := 5) (oi := _) (v := undef) rfl (by kernel_rfl) (by kernel_rfl) (by kernel_rfl) (fun _ _ _ h => h) (Or.inr ⟨by rfl, rfl⟩) (by assumption) ?_
          (try simp only [Act.put, List.setIfInBounds_toArray, List.set_cons_zero, List.set_cons_succ, List.getElem_toArray, List.getElem_cons_succ, List.getElem_cons_zero])
          refine wpAnyH_take (i := 6) (oi := _) (v := undef) rfl (by kernel_rfl) (by kernel_rfl) (by kernel_rfl) (fun _ _ _ h => h) (Or.inr ⟨by rfl, rfl⟩) (by assumption) ?_
          (try simp only [Act.put, List.setIfInBounds_toArray, List.set_cons_zero, List.set_cons_succ, List.getElem_toArray, List.getElem_cons_succ, List.getElem_cons_zero])
          refine wpAnyH_take (i := 7) (oi := _) (v := undef) rfl (by kernel_rfl) (by kernel_rfl) (by kernel_rfl) (fun _ _ _ h => h) (Or.inr ⟨by rfl, rfl⟩) (by assumption) ?_
          (try simp only [Act.put, List.setIfInBounds_toArray, List.set_cons_zero, List.set_cons_succ, List.getElem_toArray, List.getElem_cons_succ, List.getElem_cons_zero])
          refine wpAnyH_take (i := 8) (oi := _) (v := undef) rfl (by kernel_rfl) (by kernel_rfl) (by kernel_rfl) (fun _ _ _ h => h) (Or.inr ⟨by rfl, rfl⟩) (by assumption) ?_
          (try simp only [Act.put, List.setIfInBounds_toArray, List.set_cons_zero, List.set_cons_succ, List.getElem_toArray, List.getElem_cons_succ, List.getElem_cons_zero])
          refine wpAnyH_take (i := 9) (oi := _) (v := undef) rfl (by kernel_rfl) (by kernel_rfl) (by kernel_rfl) (fun _ _ _ h => h) (Or.inr ⟨by rfl, rfl⟩) (by assumption) ?_
          (try simp only [Act.put, List.setIfInBounds_toArray, List.set_cons_zero, List.set_cons_succ, List.getElem_toArray, List.getElem_cons_succ, List.getElem_cons_zero])
          refine wpAnyH_take (i := 10) (oi := _) (v := undef) rfl (by kernel_rfl) (by kernel_rfl) (by kernel_rfl) (fun _ _ _ h => h) (Or.inr ⟨by rfl, rfl⟩) (by assumption) ?_
          (try simp only [Act.put, List.setIfInBounds_toArray, List.set_cons_zero, List.set_cons_succ, List.getElem_toArray, List.getElem_cons_succ, List.getElem_cons_zero])
          refine wpAnyH_take (i := 11) (oi := _) (v := undef) rfl (by kernel_rfl) (by kernel_rfl) (by kernel_rfl) (fun _ _ _ h => h) (Or.inr ⟨by rfl, rfl⟩) (by assumption) ?_
          (try simp only [Act.put, List.setIfInBounds_toArray, List.set_cons_zero, List.set_cons_succ, List.getElem_toArray, List.getElem_cons_succ, List.getElem_cons_zero])
          refine wpAnyH_take (i := 12) (oi := _) (v := undef) rfl (by kernel_rfl) (by kernel_rfl) (by kernel_rfl) (fun _ _ _ h => h) (Or.inr ⟨by rfl, rfl⟩) (by assumption) ?_
          (try simp only [Act.put, List.setIfInBounds_toArray, List.set_cons_zero, List.set_cons_succ, List.getElem_toArray, List.getElem_cons_succ, List.getElem_cons_zero])
          refine wpAnyH_take (i := 13) (oi := _) (v := undef) rfl (by kernel_rfl) (by kernel_rfl) (by kernel_rfl) (fun _ _ _ h => h) (Or.inr ⟨by rfl, rfl⟩) (by assumption) ?_
          (try simp only [Act.put, List.setIfInBounds_toArray, List.set_cons_zero, List.set_cons_succ, List.getElem_toArray, List.getElem_cons_succ, List.getElem_cons_zero])
          refine wpAnyH_take (i := 14) (oi := _) (v := ?_) rfl (by kernel_rfl) (by kernel_rfl) (by kernel_rfl) (fun _ _ _ h => h) (Or.inl ⟨by rfl, ?_⟩) (by assumption) ?_
          rotate_left
          · intro w' hSw
            skip
            go_simp
            (try with_reducible rfl)
          (try simp only [Act.put, List.setIfInBounds_toArray, List.set_cons_zero, List.set_cons_succ, List.getElem_toArray, List.getElem_cons_succ, List.getElem_cons_zero])
          refine wpAnyH_done (by kernel_rfl) ?_ _
          refine NoPanic.normal ?_
          go_wp2_with fail
          go_roundw
          case rel => exact ⟨k + 1, m', by go_num, by omega, HM'.out, ins_end HI'.out (.inl rfl), HP'.out, u64row_drew HR'.out, upd_drew HU'.out⟩
          case measure => simp [intOf]; omega
        | j + 1, hj =>
          have hjl : j + 1 < m'.length := by omega
          obtain ⟨c1, g1⟩ := u64row_cell hr' hjl
          obtain ⟨c0, g0⟩ := u64row_cell hr' (show j < m'.length by omega)
          obtain ⟨x, hx⟩ : ∃ x, m'.getD (j + 1) 0 = x := ⟨_, rfl⟩
          obtain ⟨y, hy⟩ : ∃ y, m'.getD j 0 = y := ⟨_, rfl⟩
          rw [hx] at c1
          rw [hy] at c0
          obtain ⟨q, hq⟩ : ∃ q, decide (x < y) = q := ⟨_, rfl⟩
          have CL := Lib.hid (fun W => less_u64 x y q hq W)
          have HR' := Lib.hid hr'
          have HXY := Lib.hid (And.intro hx hy)
          have HQ := Lib.hid hq
          have hjl1 : ((j : Int) + 1) < (l.length : Int) := by omega
          have hjl0 : (j : Int) < (l.length : Int) := by omega
          have hj00 : (0 : Int) ≤ (j : Int) := by omega
          have hj01 : (0 : Int) < (j : Int) + 1 := by omega
          have hltb := u64row_lt hr'
          have hj02 : (0 : Int) ≤ (j : Int) + 1 := by omega
          have hjne : ¬ j + 1 = j := by omega
          have hjne' : ¬ j = j + 1 := by omega
          have hw0 : IntKind.i64.wrap (j : Int) = (j : Int) := IntWalk.i64_in _ (by omega)
          clear hm' hp' hi' hu' hr' hx hy hq hjl
          go_upto_region 4 with fail
          refine wp_region_noPanic ?_
          refine wp_region_held_drew (S := (fun w' => w'.cell? ⟨b, j + 1, none⟩ = some (.int .u64 x) ∧ w'.cell? ⟨b, j, none⟩ = some (.int .u64 y))) (by kernel_rfl) ?_ (fun hHeld => ?_)
          · exact ⟨c1, c0⟩
          refine wpAnyH_take (i := 0) (oi := _) (v := ?_) rfl (by kernel_rfl) (by kernel_rfl) (by kernel_rfl) (fun _ _ _ h => h) (Or.inl ⟨by rfl, ?_⟩) (by assumption) ?_
          rotate_left
          · intro w' hSw
            obtain ⟨c1, c0⟩ := hSw
            go_simp
            (try with_reducible rfl)
          (try simp only [Act.put, List.setIfInBounds_toArray, List.set_cons_zero, List.set_cons_succ, List.getElem_toArray, List.getElem_cons_zero])
          refine wpAnyH_take (i := 1) (oi := _) (v := ?_) rfl (by kernel_rfl) (by kernel_rfl) (by kernel_rfl) (fun _ _ _ h => h) (Or.inl ⟨by rfl, ?_⟩) (by assumption) ?_
          rotate_left
          · intro w' hSw
            obtain ⟨c1, c0⟩ := hSw
            go_simp
            (try with_reducible rfl)
          (try simp only [Act.put, List.setIfInBounds_toArray, List.set_cons_zero, List.set_cons_succ, List.getElem_toArray, List.getElem_cons_succ, List.getElem_cons_zero])
          refine wpAnyH_take (i := 2) (oi := _) (v := ?_) rfl (by kernel_rfl) (by kernel_rfl) (by kernel_rfl) (fun _ _ _ h => h) (Or.inl ⟨by rfl, ?_⟩) (by assumption) ?_
          rotate_left
          · intro w' hSw
            obtain ⟨c1, c0⟩ := hSw
            go_simp
            (try with_reducible rfl)
          (try simp only [Act.put, List.setIfInBounds_toArray, List.set_cons_zero, List.set_cons_succ, List.getElem_toArray, List.getElem_cons_succ, List.getElem_cons_zero])
          refine wpAnyH_take (i := 3) (oi := _) (v := ?_) rfl (by kernel_rfl) (by kernel_rfl) (by kernel_rfl) (fun _ _ _ h => h) (Or.inl ⟨by rfl, ?_⟩) (by assumption) ?_
          rotate_left
          · intro w' hSw
            obtain ⟨c1, c0⟩ := hSw
            go_simp
            (try with_reducible rfl)
          (try simp only [Act.put, List.setIfInBounds_toArray, List.set_cons_zero, List.set_cons_succ, List.getElem_toArray, List.getElem_cons_succ, List.getElem_cons_zero])
          refine wpAnyH_take (i := 4) (oi := _) (v := ?_) rfl (by kernel_rfl) (by kernel_rfl) (by kernel_rfl) (fun _ _ _ h => h) (Or.inl ⟨by rfl, ?_⟩) (by assumption) ?_
          rotate_left
          · intro w' hSw
            obtain ⟨c1, c0⟩ := hSw
            go_simp
            (try with_reducible rfl)
          (try simp only [Act.put, List.setIfInBounds_toArray, List.set_cons_zero, List.set_cons_succ, List.getElem_toArray, List.getElem_cons_succ, List.getElem_cons_zero])
          refine wpAnyH_take (i := 5) (oi := _) (v := ?_) rfl (by kernel_rfl) (by kernel_rfl) (by kernel_rfl) (fun _ _ _ h => h) (Or.inl ⟨by rfl, ?_⟩) (by assumption) ?_
          rotate_left
          · intro w' hSw
            obtain ⟨c1, c0⟩ := hSw
            go_simp
            (try with_reducible rfl)
          (try simp only [Act.put, List.setIfInBounds_toArray, List.set_cons_zero, List.set_cons_succ, List.getElem_toArray, List.getElem_cons_succ, List.getElem_cons_zero])
          refine wpAnyH_take (i := 6) (oi := _) (v := ?_) rfl (by kernel_rfl) (by kernel_rfl) (by kernel_rfl) (fun _ _ _ h => h) (Or.inl ⟨by rfl, ?_⟩) (by assumption) ?_
          rotate_left
          · intro w' hSw
            obtain ⟨c1, c0⟩ := hSw
            go_simp
            (try with_reducible rfl)
          (try simp only [Act.put, List.setIfInBounds_toArray, List.set_cons_zero, List.set_cons_succ, List.getElem_toArray, List.getElem_cons_succ, List.getElem_cons_zero])
          refine wpAnyH_take (i := 7) (oi := _) (v := ?_) rfl (by kernel_rfl) (by kernel_rfl) (by kernel_rfl) (fun _ _ _ h => h) (Or.inl ⟨by rfl, ?_⟩) (by assumption) ?_
          rotate_left
          · intro w' hSw
            obtain ⟨c1, c0⟩ := hSw
            go_simp
            (try with_reducible rfl)
          (try simp only [Act.put, List.setIfInBounds_toArray, List.set_cons_zero, List.set_cons_succ, List.getElem_toArray, List.getElem_cons_succ, List.getElem_cons_zero])
          refine wpAnyH_take (i := 8) (oi := _) (v := ?_) rfl (by kernel_rfl) (by kernel_rfl) (by kernel_rfl) (fun _ _ _ h => h) (Or.inl ⟨by rfl, ?_⟩) (by assumption) ?_
          rotate_left
          · intro w' hSw
            obtain ⟨c1, c0⟩ := hSw
            go_simp
            (try with_reducible rfl)
          (try simp only [Act.put, List.setIfInBounds_toArray, List.set_cons_zero, List.set_cons_succ, List.getElem_toArray, List.getElem_cons_succ, List.getElem_cons_zero])
          refine wpAnyH_take (i := 9) (oi := _) (v := ?_) rfl (by kernel_rfl) (by kernel_rfl) (by kernel_rfl) (fun _ _ _ h => h) (Or.inl ⟨by rfl, ?_⟩) (by assumption) ?_
          rotate_left
          · intro w' hSw
            obtain ⟨c1, c0⟩ := hSw
            go_simp
            (try with_reducible rfl)
          (try simp only [Act.put, List.setIfInBounds_toArray, List.set_cons_zero, List.set_cons_succ, List.getElem_toArray, List.getElem_cons_succ, List.getElem_cons_zero])
          refine wpAnyH_take (i := 10) (oi := _) (v := ?_) rfl (by kernel_rfl) (by kernel_rfl) (by kernel_rfl) (fun _ _ _ h => h) (Or.inl ⟨by rfl, ?_⟩) (by assumption) ?_
          rotate_left
          · intro w' hSw
            obtain ⟨c1, c0⟩ := hSw
            go_simp
            (try with_reducible rfl)
          (try simp only [Act.put, List.setIfInBounds_toArray, List.set_cons_zero, List.set_cons_succ, List.getElem_toArray, List.getElem_cons_succ, List.getElem_cons_zero])
          refine wpAnyH_take (i := 11) (oi := _) (v := ?_) rfl (by kernel_rfl) (by kernel_rfl) (by kernel_rfl) (fun _ _ _ h => h) (Or.inl ⟨by rfl, ?_⟩) (by assumption) ?_
          rotate_left
          · intro w' hSw
            obtain ⟨c1, c0⟩ := hSw
            go_simp
            (try with_reducible rfl)
          (try simp only [Act.put, List.setIfInBounds_toArray, List.set_cons_zero, List.set_cons_succ, List.getElem_toArray, List.getElem_cons_succ, List.getElem_cons_zero])
          refine wpAnyH_take (i := 12) (oi := _) (v := ?_) rfl (by kernel_rfl) (by kernel_rfl) (by kernel_rfl) (fun _ _ _ h => h) (Or.inl ⟨by rfl, ?_⟩) (by assumption) ?_
          rotate_left
          · intro w' hSw
            obtain ⟨c1, c0⟩ := hSw
            go_simp
            (try with_reducible rfl)
          (try simp only [Act.put, List.setIfInBounds_toArray, List.set_cons_zero, List.set_cons_succ, List.getElem_toArray, List.getElem_cons_succ, List.getElem_cons_zero])
          refine wpAnyH_ready (rs := [13]) (by kernel_rfl) (by simp) ?_
          refine AllReadyH.cons (o := _) rfl (fun K hK => ?_) AllReadyH.nil
          go_simp
          (go_at_call 146; with_reducible refine (CL.out _).mono ?_; rintro e u1 ⟨rfl, rfl⟩)
          refine hK.out _ _ ?_ (fun hHeld => ?_)
          · exact hHeld
          (try simp only [Act.put, List.setIfInBounds_toArray, List.set_cons_zero, List.set_cons_succ, List.getElem_toArray, List.getElem_cons_succ, List.getElem_cons_zero])
          refine wpAnyH_take (i := 14) (oi := _) (v := ?_) rfl (by kernel_rfl) (by kernel_rfl) (by kernel_rfl) (fun _ _ _ h => h) (Or.inl ⟨by rfl, ?_⟩) (by assumption) ?_
          rotate_left
          · intro w' hSw
            obtain ⟨c1, c0⟩ := hSw
            go_simp
            (try with_reducible rfl)
          (try simp only [Act.put, List.setIfInBounds_toArray, List.set_cons_zero, List.set_cons_succ, List.getElem_toArray, List.getElem_cons_succ, List.getElem_cons_zero])
          refine wpAnyH_done (by kernel_rfl) ?_ _
          refine NoPanic.normal ?_
          cases q with
          | false =>
            go_wp2_with fail
            go_roundw
            case rel => exact ⟨k + 1, m', by go_num, by omega, HM'.out, ins_end HI'.out (.inr ⟨j, rfl, by have := of_decide_eq_false HQ.out; rw [HXY.out.1, HXY.out.2]; omega⟩), HP'.out, u64row_drew HR'.out, upd_drew HU'.out⟩
            case measure => simp [intOf]; omega
          | true =>
            go_upto_region 6 with fail
            go_region_with (fail)
            all_goals (go_wp2_with fail)
            all_goals
              go_roundw
              case rel =>
                have hu9 := HU'.out
                refine ⟨j, swp m' j, by go_num, by omega, by rw [swp_length]; exact HM'.out, ins_swap (by have := HM'.out; omega) HI'.out (by have := of_decide_eq_true HQ.out; rw [HXY.out.1, HXY.out.2]; exact this), (swp_perm (by have := HM'.out; omega)).trans HP'.out, ?_, ?_⟩
                · exact u64row_swp HR'.out HXY.out.2 HXY.out.1
                · (repeat' (first | (with_reducible exact upd_refl _ _) | (with_reducible assumption) | (with_reducible refine upd_drewN ?_ _) | (with_reducible refine upd_drew ?_) | (with_reducible refine upd_set ?_ _ _) | (with_reducible refine upd_far ?_ ?_ _) | (with_reducible refine upd_alloc ?_ _) | (with_reducible refine upd_below ?_ (by assumption)) | (with_reducible refine upd_upd ?_ (by assumption)) | (show _ ≤ _; first | omega | (simp; done) | (simp; omega))))
              case measure => simp [intOf]; try omega
    · have hlt1 : ¬ (k : Int) + 1 < (l.length : Int) := by omega
      have HS := Lib.hid hs
      have HP := Lib.hid hp
      have HR := Lib.hid hr
      have HM := Lib.hid hm
      clear hs hp hr hm
      go_wp2
      exact bodyPost_ret (v := .tuple #[]) (by simp [results, Tryz.results140, go_sem]) rfl ⟨rfl, hu, m, HR.out, HP.out, srt_pairwise (by rw [HM.out]; exact fun p q h1 h2 => HS.out p q h1 (by omega))⟩

set_option maxHeartbeats 4000000 in
set_option maxRecDepth 100000 in
theorem len64_small (n : Nat) (hn : n ≤ 12) (w : World) : Calls Tryz.prog 150 #[.int .u64 n] w fun e w' => (∃ k : Int, e = .returned (.int .i64 k)) ∧ w = w' := by
  have hw : n = 0 ∨ n = 1 ∨ n = 2 ∨ n = 3 ∨ n = 4 ∨ n = 5 ∨ n = 6 ∨ n = 7 ∨ n = 8 ∨ n = 9 ∨ n = 10 ∨ n = 11 ∨ n = 12 := by omega
  rcases hw with rfl | rfl | rfl | rfl | rfl | rfl | rfl | rfl | rfl | rfl | rfl | rfl | rfl
  all_goals
    go_enter Tryz.func150, Tryz.ntmps150
    go_wp2
    go_ret
    exact ⟨⟨_, rfl⟩, rfl⟩

set_option maxHeartbeats 1000000 in
set_option maxRecDepth 100000 in
theorem len_small (n : Nat) (hn : n ≤ 12) (w : World) : Calls Tryz.prog 110 #[.int .u64 n] w fun e w' => (∃ k : Int, e = .returned (.int .i64 k)) ∧ w = w' := by
  have C := Lib.hid (fun W => len64_small n hn W)
  have h0 : (0 : Int) ≤ (n : Int) := by omega
  have h1 : (n : Int) ≤ 12 := by omega
  go_enter Tryz.func110, Tryz.ntmps110
  go_wp2_with fail
  refine (C.out _).mono ?_
  rintro e w' ⟨⟨k, rfl⟩, rfl⟩
  go_wp2
  go_ret
  exact ⟨⟨_, rfl⟩, rfl⟩

set_option maxHeartbeats 4000000 in
set_option maxRecDepth 100000 in
theorem pdq_any (b T c cap : Nat) (l : List Int) (k : Int) (w : World) (h : U64Row w b T c l) (hl : l.length ≤ 12) :
    Calls Tryz.prog 109 #[.slice (some ⟨b, 0, none⟩) l.length cap, .int .i64 0, .int .i64 l.length, .int .i64 k] w (SrtPost b T c l w) := by
  have C := Lib.hid (insertion_any b T c cap l w h (by omega))
  have hlc : (l.length : Int) ≤ 12 := by omega
  have hw0 : IntKind.i64.wrap (l.length : Int) = (l.length : Int) := IntWalk.i64_in _ (by omega)
  clear h
  go_enter Tryz.func109, Tryz.ntmps109
  go_wp2_with fail
  refine wp_loop_rounds 1 ?_
  rw [rounds_succ]
  go_wp2_with fail
  refine C.out.mono ?_
  rintro e w1 ⟨rfl, hp⟩
  go_wp2
  exact bodyPost_ret (v := .tuple #[]) (by simp [results, Tryz.results109, go_sem]) rfl ⟨rfl, hp⟩

set_option maxHeartbeats 4000000 in
set_option maxRecDepth 100000 in
theorem sort_some (b T c cap : Nat) (l : List Int) (w : World) (h : U64Row w b T c l) (hl : l.length ≤ 12) :
    Calls Tryz.prog 78 #[.slice (some ⟨b, 0, none⟩) l.length cap] w (SrtPost b T c l w) := by
  have C := Lib.hid (fun k => pdq_any b T c cap l k w h hl)
  have CL := Lib.hid (fun W => len_small l.length hl W)
  have hlc : (l.length : Int) ≤ 12 := by omega
  have hl0 : (0 : Int) ≤ (l.length : Int) := by omega
  clear h
  go_enter Tryz.func78, Tryz.ntmps78
  go_wp2_with fail
  refine (CL.out _).mono ?_
  rintro e w1 ⟨⟨k, rfl⟩, rfl⟩
  go_wp2_with fail
  refine (C.out k).mono ?_
  rintro e w1 ⟨rfl, hp⟩
  go_wp2
  exact bodyPost_ret (v := .tuple #[]) (by simp [results, Tryz.results78, go_sem]) rfl ⟨rfl, hp⟩

/-- Nothing returned, nothing changed. -/
def Nought (w : World) (e : Ending) (w' : World) : Prop := e = .returned (.tuple #[]) ∧ w = w'
set_option maxHeartbeats 4000000 in
set_option maxRecDepth 100000 in
theorem sort_nil (w : World) : Calls Tryz.prog 78 #[.slice none 0 0] w (Nought w) := by
  have CI : ∀ W, Calls Tryz.prog 140 #[.slice none 0 0, .int .i64 0, .int .i64 0] W (Nought W) := fun W => by
    go_enter Tryz.func140, Tryz.ntmps140
    go_wp2_with fail
    refine wp_loop_rounds 1 ?_
    rw [rounds_succ]
    go_wp2
    exact bodyPost_ret (v := .tuple #[]) (by simp [results, Tryz.results140, go_sem]) rfl ⟨rfl, rfl⟩
  have HI := Lib.hid CI
  clear CI
  have CP : ∀ k W, Calls Tryz.prog 109 #[.slice none 0 0, .int .i64 0, .int .i64 0, .int .i64 k] W (Nought W) := fun k W => by
    go_enter Tryz.func109, Tryz.ntmps109
    go_wp2_with fail
    refine wp_loop_rounds 1 ?_
    rw [rounds_succ]
    go_wp2_with fail
    refine (HI.out _).mono ?_
    rintro e w1 ⟨rfl, rfl⟩
    go_wp2
    exact bodyPost_ret (v := .tuple #[]) (by simp [results, Tryz.results109, go_sem]) rfl ⟨rfl, rfl⟩
  have HP := Lib.hid CP
  clear CP HI
  have CL := Lib.hid (fun W => len_small 0 (by omega) W)
  go_enter Tryz.func78, Tryz.ntmps78
  go_wp2_with fail
  refine (CL.out _).mono ?_
  rintro e w1 ⟨⟨k, rfl⟩, rfl⟩
  go_wp2_with fail
  refine (HP.out k _).mono ?_
  rintro e w1 ⟨rfl, rfl⟩
  go_wp2
  exact bodyPost_ret (v := .tuple #[]) (by simp [results, Tryz.results78, go_sem]) rfl ⟨rfl, rfl⟩

/-- An owned list of numbers is sorted. -/
def SortPost (B : Nat) (v : Value) (l : List Int) (w : World) (e : Ending) (w' : World) : Prop := e = .returned (.tuple #[]) ∧ Below B w w' ∧ (∀ k T cs, RowAt w k T cs → v.ownBlock ≠ some k → RowAt w' k T cs) ∧
  ∃ l', w'.ownsRow B 22 1 v l'.length (u64L l') ∧ l'.Perm l ∧ l'.Pairwise (· ≤ ·)
theorem sort_own (B n : Nat) (v : Value) (l : List Int) (w : World) (h : w.ownsRow B 22 1 v n (u64L l)) (hl : l.length ≤ 12) :
    Calls Tryz.prog 78 #[v] w (SortPost B v l w) := by
  rcases h.2 with ⟨rfl, rfl⟩ | ⟨g, cap, cur, rfl, _⟩
  · have hl0 : l = [] := List.eq_nil_of_length_eq_zero (by have := h.1; rw [u64L_length] at this; omega)
    subst hl0
    exact (sort_nil w).mono fun e w' ⟨he, hw⟩ => by subst hw; exact ⟨he, Below.refl _ _, fun _ _ _ hr _ => hr, [], World.ownsRow_nil _ _ _ _, List.Perm.refl _, List.Pairwise.nil⟩
  · obtain ⟨rfl, -, hb, hr, hc, hm⟩ := own_u64row h
    refine (sort_some g 22 cap cap l w hr hl).mono fun e w' ⟨he, hu, l', h1, h2, h3⟩ => ⟨he, ⟨hu.os, hu.tape, hu.output, hu.size, fun k hk => hu.block k (Nat.lt_of_lt_of_le (Nat.lt_of_lt_of_le hk hb) (Nat.le_of_lt (u64row_lt hr))) (by simp; omega)⟩, fun k T cs hk hne => hk.upd hu (fun e => hne (by subst e; rfl)), l', ?_, h2, h3⟩
    have hlen : l'.length = l.length := h2.length_eq
    rw [← hlen]
    exact u64row_own h1 hb (by omega) hm
end Go.Proofs.YtpkhcehddfmhpaaGreat

namespace Go.Proofs.YtpkhcehddfmhpaaGreat
open Go.RowKit

theorem u64L_ones (l : List Int) : ∀ u ∈ u64L l, u.oneCell' = true := by
  intro u hu
  obtain ⟨x, _, rfl⟩ := List.mem_map.1 hu
  rfl

/-- What a list of identities in order is. -/
def OrdIds (l m : List Int) : Prop := m.Perm l ∧ m.Pairwise (· ≤ ·)
theorem ord_eq {l l' m m' : List Int} (h : OrdIds l m) (h' : OrdIds l' m') (hp : l.Perm l') : m = m' := srt_eq h.2 h'.2 (h.1.trans (hp.trans h'.1.symm))

end Go.Proofs.YtpkhcehddfmhpaaGreat
