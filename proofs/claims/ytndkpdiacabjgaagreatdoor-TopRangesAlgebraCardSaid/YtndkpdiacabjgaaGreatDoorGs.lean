/-
  The channels of a list, one by one; how many there are.
-/
import Derived.Test.YtndkpdiacabjgaaGreatDoorGo
import Derived.RangeFuncNested
import Derived.RangeFuncBound
import Derived.RangeFuncCalls
import Derived.RangeFuncLeaves
import Derived.RangeFuncBox
import Derived.Shelf.Abstract
import Derived.Shelf.RegionOpen
import Derived.WalkKit
import Derived.OwnWalkIn
import Derived.TacticsInMore
import Derived.LoopNIn
import Derived.LoopIn
namespace Go.Proofs.YtndkpdiacabjgaaGreatDoor
open Go.RowKit Go.Shelf

attribute [local go_sem] Oper.semAt_some

/-- The channels from one to before another. -/
def segG (x j : Nat) : List Int := (List.range' x (j - x)).map Int.ofNat
theorem segG_zero (x : Nat) : segG x x = [] := by simp [segG]
theorem segG_succ {x j : Nat} (h : x ≤ j) : segG x (j + 1) = segG x j ++ [(j : Int)] := by
  unfold segG
  rw [show j + 1 - x = (j - x) + 1 from by omega, List.range'_concat, List.map_append]
  simp
  omega
theorem segG_length (x j : Nat) : (segG x j).length = j - x := by simp [segG]
theorem segG_part {x i j : Nat} (h1 : x ≤ i) (h2 : i ≤ j) : segG x i <+: segG x j := by
  induction j with
  | zero => obtain rfl : i = 0 := by omega
            exact List.prefix_refl _
  | succ j ih =>
    rcases Nat.lt_or_eq_of_le h2 with h | rfl
    · exact (ih (by omega)).trans (by rw [segG_succ (by omega)]; exact List.prefix_append _ _)
    · exact List.prefix_refl _
/-- The channels of a list. -/
def chanG (l : List (Int × Int)) : List Int := l.flatMap fun r => segG r.1.toNat (r.2.toNat + 1)
theorem chan_snoc (l : List (Int × Int)) (k : Nat) (hk : k < l.length) : chanG (l.take (k + 1)) = chanG (l.take k) ++ segG l[k].1.toNat (l[k].2.toNat + 1) := by
  rw [List.take_succ_eq_append_getElem hk, chanG, List.flatMap_append]
  simp [chanG]
theorem chan_part (l : List (Int × Int)) (k : Nat) : chanG (l.take k) <+: chanG l := by
  have : chanG l = chanG (l.take k) ++ chanG (l.drop k) := by
    unfold chanG
    rw [← List.flatMap_append, List.take_append_drop]
  rw [this]
  exact List.prefix_append _ _
theorem chan_count : ∀ (l : List (Int × Int)), Canon l → ((chanG l).length : Int) = cntG l
  | [], _ => rfl
  | r :: l, h => by
    obtain ⟨hr, _, hl⟩ := canon_cons.1 h
    have h1 := rightG_iff.1 hr
    have h2 := chan_count l hl
    have h3 : chanG (r :: l) = segG r.1.toNat (r.2.toNat + 1) ++ chanG l := rfl
    have h4 : cntG (r :: l) = r.2 - r.1 + 1 + cntG l := rfl
    rw [h3, List.length_append, segG_length, h4]
    omega
theorem sumM_le (M : Nat → Bool) : ∀ n : Nat, sumM M n ≤ n
  | 0 => Int.le_refl _
  | n + 1 => by
    have := sumM_le M n
    rw [sumM]
    split <;> (push_cast; omega)
theorem chan_few {l : List (Int × Int)} (h : Canon l) : (chanG l).length ≤ 1000 := by
  have h1 := chan_count l h
  rw [cnt_sum l h] at h1
  have := sumM_le (memG l) 1000
  omega

/-- All cells are kept but those of one block. -/
def KeepC (nb : Nat) (A B : World) : Prop := A.heap.size ≤ B.heap.size ∧ ∀ p v, p.block ≠ nb → A.cell? p = some v → B.cell? p = some v
theorem keepC_refl (nb : Nat) (A : World) : KeepC nb A A := ⟨Nat.le_refl _, fun _ _ _ h => h⟩
theorem keepC_t {nb : Nat} {A B C : World} (h : KeepC nb A B) (k : KeepC nb B C) : KeepC nb A C := ⟨Nat.le_trans h.1 k.1, fun p v hp e => k.2 p v hp (h.2 p v hp e)⟩
theorem keepC_b {nb : Nat} (W : World) (l : Nat) (o o' : Obj) (h : W.heap[l]? = some o) (ho : o.isCells = false) : KeepC nb W (W.putObj l o') :=
  ⟨(grownBy_putObj' W l o').size, fun p v _ e => cell_kept e (grownBy_putObj' W l o') (fun r hr => by cases hr; exact ⟨o, h, ho⟩)⟩
theorem keepC_alloc {nb : Nat} {A B : World} (h : KeepC nb A B) (o : Obj) : KeepC nb A (B.alloc o) :=
  ⟨Nat.le_trans h.1 (by simp), fun p v hp e => by
    have h1 := h.2 p v hp e
    rw [World.cell?_alloc_lt _ _ _ (World.block_lt_of_cell? B p h1)]
    exact h1⟩

set_option maxRecDepth 100000 in
set_option maxHeartbeats 8000000 in
theorem all1_in (l Bs nb b off cap N : Nat) (t : List (Int × Int)) (ht : Canon t) (hN : (chanG t).length ≤ N) (W : World) (hnb : nb < W.heap.size) (hb : b ≠ nb) (J Jx : List Int → World → Prop) (hJ : AbidesFrom W.heap.size J)
    (hY : ∀ pre x W, J pre W → pre.length < N → YieldAt Fence.wide 2 Tryz.prog l #[.int .i64 x] W fun e W' =>
      (e = .returned (.bool true) ∧ J (pre ++ [x]) W' ∧ KeepC nb W W') ∨ (e = .returned (.bool false) ∧ Jx (pre ++ [x]) W'))
    (hBs : W.cell? ⟨Bs, 0, none⟩ = some (.slice (some ⟨b, off, none⟩) t.length cap)) (hlen : t.length ≤ 100000) (hc : ∀ j, j < t.length * 2 → W.cell? ⟨b, off + j, none⟩ = rngsC t j) (h0 : J [] W) :
    CallsIn Fence.wide 3 Tryz.prog 61 #[.func (.yield l) #[] #[], .pointer (some ⟨Bs, 0, none⟩)] W fun e W' => (∃ v, e = .returned v) ∧
      ((∃ ys, ys = chanG t ∧ J ys W') ∨ (∃ pre, pre <+: chanG t ∧ Jx pre W')) := by
  refine callsIn_of_wp Tryz.func61 rfl trivial ?_ rfl
  simp only [Tryz.ntmps61, List.size_toArray, List.length_cons, List.length_nil, Nat.reduceAdd, Nat.reduceSub, Array.replicate_succ, Array.replicate_zero, List.push_toArray, List.append_toArray, List.nil_append, List.cons_append]
  gi_wp2
  gi_loopw [4, 5, 8] (fun _ _ i wr => ∃ k : Nat, k ≤ t.length ∧ i = .int .i64 k ∧ J (chanG (t.take k)) wr ∧ KeepC nb W wr)
    (fun _ _ i _ => t.length - (intOf i).toNat)
  case atStart => exact ⟨0, Nat.zero_le _, rfl, h0, keepC_refl _ _⟩
  case round =>
    rename World => wr
    obtain ⟨k, hk, rfl, hJs, hkp⟩ := hrel
    by_cases hlt : k < t.length
    · have hlt' : (k : Int) < (t.length : Int) := by omega
      have hl' : (t.length : Int) ≤ 100000 := by omega
      obtain ⟨e1, e2⟩ := rng_cells hc k hlt
      have e1' := hkp.2 ⟨b, off + k * 2, none⟩ _ hb e1
      have e2' := hkp.2 ⟨b, off + k * 2 + 1, none⟩ _ hb e2
      have hri := rightG_iff.1 (ht.1 _ (List.getElem_mem hlt))
      have HS := Lib.hid (chan_snoc t k hlt)
      have HP := Lib.hid (chan_part t (k + 1))
      obtain ⟨x, hx⟩ : ∃ x : Nat, t[k].1 = x := ⟨t[k].1.toNat, by omega⟩
      obtain ⟨y, hy⟩ : ∃ y : Nat, t[k].2 = y := ⟨t[k].2.toNat, by omega⟩
      rw [hx] at e1' HS
      rw [hy] at e2' HS
      have hxn : (x : Int).toNat = x := by omega
      have hyn : (y : Int).toNat = y := by omega
      rw [hxn, hyn] at HS
      have hx1 : x ≤ y := by omega
      have hy9 : y ≤ 999 := by omega
      have HPn : Hid (∀ j, x ≤ j → j ≤ y + 1 → chanG (t.take k) ++ segG x j <+: chanG t) := Lib.hid (fun j h1 h2 => by
        have h3 := HP.out
        rw [HS.out] at h3
        exact ((List.prefix_append_right_inj _).2 (segG_part h1 h2)).trans h3)
      have hsz := hkp.1
      have hne : wr.heap.size ≠ nb := by omega
      clear e1 e2 hri hx hy hxn hyn
      gi_wp2
      gi_loopw [5] (fun c wx => ∃ j : Nat, c = .int .i64 j ∧ x ≤ j ∧ j ≤ y + 1 ∧ J (chanG (t.take k) ++ segG x j) wx ∧ wx.cell? ⟨wr.heap.size, 0, none⟩ = some (.int .i64 x) ∧ wx.cell? ⟨wr.heap.size, 1, none⟩ = some (.int .i64 y) ∧ KeepC nb W wx) (fun c _ => y + 1 - (intOf c).toNat)
      case atStart => exact ⟨x, rfl, Nat.le_refl _, by omega, by rw [segG_zero, List.append_nil]; exact hJ _ _ _ none hJs (World.grownBy_alloc _ _ none) (fun r e => by cases e), (row_facts (RowAt.new wr 42 #[.int .i64 x, .int .i64 y])).1 0, (row_facts (RowAt.new wr 42 #[.int .i64 x, .int .i64 y])).1 1, keepC_alloc hkp _⟩
      case round =>
        rename World => wx
        obtain ⟨j, rfl, hj1, hj2, hJx, r0, r1, hkx⟩ := hrel
        by_cases hjy : j ≤ y
        · have hjy' : (j : Int) ≤ (y : Int) := by omega
          have hlen2 : (chanG (t.take k) ++ segG x j).length < N := by
            have h3 := (HPn.out (j + 1) (by omega) (by omega)).length_le
            rw [segG_succ hj1, ← List.append_assoc, List.length_append, List.length_singleton] at h3
            omega
          obtain ⟨fn, tmps, assign, body, hy, hR⟩ := hY _ (j : Int) wx hJx hlen2
          gi_wp2
          refine hR.mono ?_
          rintro e W3 (⟨rfl, hJ3, hk3⟩ | ⟨rfl, hJx3⟩)
          · gi_wp2
            go_roundw
            case rel => exact ⟨j + 1, by go_num, by omega, by omega, by rw [segG_succ hj1, ← List.append_assoc]; exact hJ3, hk3.2 _ _ hne r0, hk3.2 _ _ hne r1, keepC_t hkx hk3⟩
            case measure => simp [intOf]; omega
          · gi_wp2
            refine bodyPost_ret (results_none rfl _ _ _) rfl ?_
            exact ⟨⟨_, rfl⟩, .inr ⟨_, by have := HPn.out (j + 1) (by omega) (by omega); rw [segG_succ hj1, ← List.append_assoc] at this; exact this, hJx3⟩⟩
        · have hje : j = y + 1 := by omega
          have hjy' : ¬ (j : Int) ≤ (y : Int) := by omega
          gi_wp2
          go_roundw
          case rel => exact ⟨k + 1, by omega, by go_num, by rw [HS.out, ← hje]; exact hJx, hkx⟩
          case measure => simp [intOf]; omega
    · obtain rfl : k = t.length := by omega
      gi_wp2
      go_end0
      exact ⟨⟨_, rfl⟩, .inl ⟨_, rfl, by simpa using hJs⟩⟩

set_option maxRecDepth 100000 in
set_option maxHeartbeats 2000000 in
theorem all1_nil (l Bs cap : Nat) (a : Option Addr) (J : List Int → World → Prop) (W : World) (hBs : W.cell? ⟨Bs, 0, none⟩ = some (.slice a 0 cap)) (h0 : J [] W) :
    CallsIn Fence.wide 3 Tryz.prog 61 #[.func (.yield l) #[] #[], .pointer (some ⟨Bs, 0, none⟩)] W fun e W' => (∃ v, e = .returned v) ∧ J [] W' := by
  refine callsIn_of_wp Tryz.func61 rfl trivial ?_ rfl
  simp only [Tryz.ntmps61, List.size_toArray, List.length_cons, List.length_nil, Nat.reduceAdd, Nat.reduceSub, Array.replicate_succ, Array.replicate_zero, List.push_toArray, List.append_toArray, List.nil_append, List.cons_append]
  gi_wp2
  gi_loopw [4, 5, 8] (fun _ _ i wr => i = .int .i64 0 ∧ J [] wr) (fun _ _ _ _ => 0)
  case atStart => exact ⟨rfl, h0⟩
  case round =>
    obtain ⟨rfl, hJs⟩ := hrel
    gi_wp2
    go_end0
    exact ⟨⟨_, rfl⟩, hJs⟩

/-- What the function of channels does, for every loop's body that keeps all cells but those of one block. -/
theorem all_stops (Bs nb : Nat) (v : Value) (t : List (Int × Int)) (ht : Canon t) (hlen : t.length ≤ 100000) (w : World) (hBs : Bs < w.heap.size) (hnb : nb < w.heap.size) (hc : w.cell? ⟨Bs, 0, none⟩ = some v) (W0 : World) (hI : RngsAt W0 v t) (hW0 : Below W0.heap.size W0 w) (hn0 : W0.heap.size ≤ nb) :
    SeqStopsK Fence.wide 3 Tryz.prog 61 #[.pointer (some ⟨Bs, 0, none⟩)] (fun x : Int => #[.int .i64 x]) (KeepC nb) (fun ys => ys = chanG t) (fun pre => pre <+: chanG t) (chanG t).length w := fun l J Jx W hW hJ _ hY hj => by
  have hc' := (hW.cell (p := ⟨Bs, 0, none⟩) hBs).trans hc
  rcases hI with ⟨e0, a, cap, rfl⟩ | ⟨_, _, b, off, cap, rfl, hb, hcs⟩
  · have hl : t = [] := List.eq_nil_of_length_eq_zero e0
    subst hl
    exact (all1_nil l Bs cap a J W hc' hj).mono fun e W' ⟨he, hh⟩ => ⟨he, .inl ⟨_, rfl, hh⟩⟩
  · refine all1_in l Bs nb b off cap _ t ht (Nat.le_refl _) W (Nat.lt_of_lt_of_le hnb hW.size) (by omega) J Jx hJ hY hc' hlen (fun j hj => ?_) hj
    exact ((hW0.trans (hW.mono hW0.size)).cell (p := ⟨b, off + j, none⟩) hb).trans (hcs j hj)

set_option maxHeartbeats 1000000 in
theorem gall_any (a : Option Addr) (n cap : Nat) (w : World) : Calls Tryz.prog 43 #[.slice a n cap] w fun e w' => e = .returned (.func (.func 61) #[] #[.pointer (some ⟨w.heap.size, 0, none⟩)]) ∧ w' = w.alloc (.cells #[.slice a n cap] 33) := by
  go_enter Tryz.func43, Tryz.ntmps43
  go_wp2
  go_ret
  exact ⟨rfl, rfl⟩

theorem keepC_set (nb o : Nat) (A : World) (u : Value) : KeepC nb A (A.setCell ⟨nb, o, none⟩ u) :=
  ⟨by simp, fun p v hp e => by rw [World.cell?_setCell_other _ _ _ _ (fun h => hp (by rw [← h]))]; exact e⟩

theorem with_actG {P : Program} {c : Code} {Q : Exit → Act → World → Prop} {a : Act} {w : World} (h : ∀ b, b = a → c.wp P Q b w) : c.wp P Q a w := h a rfl

set_option maxHeartbeats 4000000 in
set_option maxRecDepth 100000 in
theorem gcount_any (l : List (Int × Int)) (v : Value) (w : World) (h : RngsAt w v l) (hc : Canon l) (hl : l.length ≤ 100000) :
    Calls Tryz.prog 23 #[v] w fun e w' => e = .returned (.tuple #[.int .i64 (cntG l), .int .i64 0]) ∧ Below w.heap.size w w' := by
  obtain ⟨a, c, e⟩ := seq_shape h
  subst e
  have CC := Lib.hid (chk_is l _ w h hc)
  have H := Lib.hid h
  have HC := Lib.hid hc
  have HF := chan_few hc
  have HCN := Lib.hid (chan_count l hc)
  clear h hc
  refine (callsIn_wide (n := 3)).1 (callsIn_of_wp_marks Tryz.func23 rfl trivial ?_ rfl)
  refine wpIn_wide.2 ?_
  simp only [Tryz.ntmps23, List.size_toArray, List.length_cons, List.length_nil, Nat.reduceAdd, Nat.reduceSub, Array.replicate_succ, Array.replicate_zero, List.push_toArray, List.append_toArray, List.nil_append, List.cons_append]
  go_wp2_with fail
  refine CC.out.mono ?_
  rintro e w1 ⟨rfl, hb1⟩
  have HB1 := Lib.hid hb1
  have H1 := Lib.hid (H.out.run hb1)
  clear hb1
  go_wp2_with fail
  refine (gall_any a l.length c _).mono ?_
  rintro e w2 ⟨rfl, rfl⟩
  go_wp2_with fail
  refine with_actG fun act hact => ?_
  refine (wpIn_wide (n := 4)).1 ?_
  refine wpIn_rangeFunc_ownH rfl (by decide) (gf := 61) (lb := #[.pointer (some ⟨w1.heap.size + 1, 0, none⟩)]) (by rw [hact]; rfl) trivial (enters_of Tryz.func61 (by kernel_rfl) rfl)
    (all_stops (w1.heap.size + 1) w1.heap.size (.slice a l.length c) l HC.out hl ((w1.alloc (.cells #[.int .i64 0] 3)).alloc (.cells #[.slice a l.length c] 33)) (by simp) (by simp; omega) ((row_facts (RowAt.mk (w := w1.alloc (.cells #[.int .i64 0] 3)) (b := w1.heap.size + 1) (T := 33) (cs := #[.slice a l.length c]) (by simp) rfl)).1 0) w1 H1.out (((Below.refl _ w1).alloc (Nat.le_refl _) _).alloc (by simp) _) (Nat.le_refl _))
    keepC_t (fun W l o o' _ h ho _ => keepC_b W l o o' h ho) (Below.refl _ _) (fun _ => rfl)
    (fun pre W => (W.cell? ⟨w1.heap.size, 0, none⟩ = some (.int .i64 (pre.length : Int)) ∧ W.frozen? ⟨w1.heap.size, 0, none⟩ = false) ∧ Below w1.heap.size w1 W)
    (fun _ _ _ => False)
    (OwnFrom.and (Own.from (fun s A B row hs hg hr => ⟨cell_kept hs.1 hg hr, (frozen_kept hs.1 hg hr).trans hs.2⟩) _) (ownFrom_below (Nat.le_refl _) (by simp; omega)))
    (fun _ _ _ _ _ hs _ _ => hs)
    ⟨⟨(row_facts (RowAt.alloc (RowAt.new w1 3 #[.int .i64 0]) (.cells #[.slice a l.length c] 33))).1 0, (row_facts (RowAt.alloc (RowAt.new w1 3 #[.int .i64 0]) (.cells #[.slice a l.length c] 33))).2.1 0⟩, ((Below.refl _ w1).alloc (Nat.le_refl _) _).alloc (by simp) _⟩
    (fun x a' _ => a' = { tmps := act.tmps.setIfInBounds 13 (.int .i64 x), defers := [] })
    (fun _ _ _ _ _ _ hs _ _ => hs) ?assign ?body ?done ?stop
  case assign =>
    rintro l pre x W K hI hK
    subst hact
    gi_wp2
    exact hK _ _ ((KeepsOthers.refl _).from _) (keepC_refl _ _) hI rfl
  case body =>
    rintro l' pre x a' W hl' ⟨r, hr⟩ ⟨⟨hc, hf⟩, hB⟩ rfl hlt
    subst hact
    have hp : (pre.length : Int) ≤ 1000 := by omega
    have hp0 : (0 : Int) ≤ (pre.length : Int) := by omega
    have hw : IntKind.i64.wrap ((pre.length : Int) + 1) = (pre.length : Int) + 1 := IntWalk.i64_in _ (by omega)
    gi_wp2
    refine ⟨(KeepsOthers.setCell _ _ _).from _, keepC_set _ _ _ _, ⟨⟨?_, ?_⟩, hB.setCell (p := ⟨w1.heap.size, 0, none⟩) (Nat.le_refl _) _⟩⟩
    · rw [World.cell?_setCell_same' _ _ _ (by rw [hc]; rfl), List.length_append]
      rfl
    · rw [World.frozen?_setCell]; exact hf
  case done =>
    rintro D ys W hD rfl ⟨⟨hc, hf⟩, hB⟩ hK
    subst hact
    go_wp2_with fail
    refine ⟨by simp, .inl ⟨_, _, rfl, run_takeDeferred hK, ?_⟩⟩
    refine ⟨_, results_tmp2 rfl _ _ _, ?_⟩
    have hBE : Below w1.heap.size w1 (W.putObj D (.deferred none)) := hB.trans (belowK_b (w := w1) (Nat.le_refl _) W D _ _ (by simp at hD; omega) hK rfl rfl)
    exact ⟨by rw [← HCN.out]; rfl, below_run HB1.out hBE⟩
  case stop =>
    rintro D c pre W _ _ h _
    exact h.elim
end Go.Proofs.YtndkpdiacabjgaaGreatDoor
