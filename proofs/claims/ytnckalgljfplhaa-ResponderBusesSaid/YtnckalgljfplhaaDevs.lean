/-
  The law's own copying of devices.
-/
import Derived.Test.YtnckalgljfplhaaSeq
namespace Go.Proofs.Ytnckalgljfplhaa
open Go.RowKit

theorem Try.info_rdev : (Try.prog.info? 28).map (fun i => (i.zero, i.size, i.bytes)) = some (some (.agg #[.int .u64 0, .int .i64 0, .int .i64 0, .string ⟨#[]⟩, .int .i64 0, .bool false, .bool false]), 7, 56) := by kernel_rfl
theorem Try.info_dev : (Try.prog.info? 24).map (fun i => (i.zero, i.size, i.bytes)) = some (some (.agg #[.int .u64 0, .int .i64 0, .int .i64 0, .string ⟨#[]⟩, .int .i64 0, .bool false, .bool false]), 7, 56) := by kernel_rfl
theorem Try.info_msg : (Try.prog.info? 26).map (fun i => (i.zero, i.size, i.bytes)) = some (some (.agg #[.int .u64 0, .int .u64 0, .int .i64 0, .int .i64 0, .int .i64 0, .string ⟨#[]⟩]), 6, 56) := by kernel_rfl

/-- The cells of a list of devices, in a row. -/
def devsL : List Dev → List Value
  | [] => []
  | d :: l => (devA d).toList ++ devsL l
def msgsL : List Msg → List Value
  | [] => []
  | m :: l => (msgA m).toList ++ msgsL l

theorem devsL_length (l : List Dev) : (devsL l).length = l.length * 7 := by
  induction l with
  | nil => rfl
  | cons d l ih => rw [devsL, List.length_append, ih]; simp [devA]; omega
theorem msgsL_length (l : List Msg) : (msgsL l).length = l.length * 6 := by
  induction l with
  | nil => rfl
  | cons d l ih => rw [msgsL, List.length_append, ih]; simp [msgA]; omega
theorem devsL_append (l m : List Dev) : devsL (l ++ m) = devsL l ++ devsL m := by
  induction l with
  | nil => rfl
  | cons d l ih => rw [List.cons_append, devsL, devsL, ih, List.append_assoc]
theorem msgsL_append (l m : List Msg) : msgsL (l ++ m) = msgsL l ++ msgsL m := by
  induction l with
  | nil => rfl
  | cons d l ih => rw [List.cons_append, msgsL, msgsL, ih, List.append_assoc]
theorem devsL_get (l : List Dev) (j : Nat) : (devsL l)[j]? = devsC l j := by
  induction l generalizing j with
  | nil => rfl
  | cons d l ih =>
    have h7 : (devA d).toList.length = 7 := rfl
    rw [devsL]
    by_cases hj : j < 7
    · rw [List.getElem?_append_left (by omega), devsC, show j / 7 = 0 from by omega, show j % 7 = j from by omega]
      simp
    · rw [List.getElem?_append_right (by omega), h7, ih, devsC, devsC, show j / 7 = (j - 7) / 7 + 1 from by omega, show j % 7 = (j - 7) % 7 from by omega]
      simp
theorem msgsL_get (l : List Msg) (j : Nat) : (msgsL l)[j]? = msgsC l j := by
  induction l generalizing j with
  | nil => rfl
  | cons d l ih =>
    have h6 : (msgA d).toList.length = 6 := rfl
    rw [msgsL]
    by_cases hj : j < 6
    · rw [List.getElem?_append_left (by omega), msgsC, show j / 6 = 0 from by omega, show j % 6 = j from by omega]
      simp
    · rw [List.getElem?_append_right (by omega), h6, ih, msgsC, msgsC, show j / 6 = (j - 6) / 6 + 1 from by omega, show j % 6 = (j - 6) % 6 from by omega]
      simp

theorem own_seq {w : World} {base T S n : Nat} {v : Value} {xs : List Value} {cs : Nat → Option Value} (h : w.ownsRow base T S v n xs) (hn : n ≤ 140737488351232) (hx : ∀ j : Nat, xs[j]? = cs j) : SeqAt w S v n cs := by
  rcases h.2 with ⟨rfl, rfl⟩ | ⟨g, cap, cur, rfl, hb, hg, hnc, hcm, hcs, htake⟩
  · exact .inl ⟨rfl, _, _, rfl⟩
  · by_cases h0 : n = 0
    · subst h0
      exact .inl ⟨rfl, _, _, rfl⟩
    · refine .inr ⟨by omega, hn, g, 0, cap, rfl, lt_of_block hg, fun j hj => ?_⟩
      rw [Nat.zero_add, h.cellAt j hj, hx]

theorem own_devs {w : World} {base T : Nat} {v : Value} {l : List Dev} (h : w.ownsRow base T 7 v l.length (devsL l)) (hn : l.length ≤ 140737488351232) : DevsAt w v l := own_seq h hn (devsL_get l)
theorem own_msgs {w : World} {base T : Nat} {v : Value} {l : List Msg} (h : w.ownsRow base T 6 v l.length (msgsL l)) (hn : l.length ≤ 140737488351232) : MsgsAt w v l := own_seq h hn (msgsL_get l)

theorem dev_news {w : World} {b : Nat} {T : Nat} {d : Dev} (h : RowAt w b T (devA d)) : ∀ (j : Nat) u, (devA d).toList[j]? = some u → w.cell? ((⟨b, 0, none⟩ : Addr).add j) = some u := by
  intro j u hj
  have hadd : (⟨b, 0, none⟩ : Addr).add j = ⟨b, j, none⟩ := by unfold Addr.add; split <;> simp_all
  rw [hadd, (row_facts h).1 j]
  simpa using hj
theorem dev_ones (d : Dev) : ∀ u ∈ (devA d).toList, u.oneCell' = true := by
  intro u hu
  simp [devA] at hu
  rcases hu with rfl | rfl | rfl | rfl | rfl | rfl | rfl <;> rfl
theorem msg_news {w : World} {b : Nat} {T : Nat} {d : Msg} (h : RowAt w b T (msgA d)) : ∀ (j : Nat) u, (msgA d).toList[j]? = some u → w.cell? ((⟨b, 0, none⟩ : Addr).add j) = some u := by
  intro j u hj
  have hadd : (⟨b, 0, none⟩ : Addr).add j = ⟨b, j, none⟩ := by unfold Addr.add; split <;> simp_all
  rw [hadd, (row_facts h).1 j]
  simpa using hj
theorem msg_ones (d : Msg) : ∀ u ∈ (msgA d).toList, u.oneCell' = true := by
  intro u hu
  simp [msgA] at hu
  rcases hu with rfl | rfl | rfl | rfl | rfl | rfl <;> rfl

theorem below_grown {B : Nat} {a w w' : World} {v : Value} {base T S n : Nat} {xs : List Value} (h : Below B a w) (hown : w.ownsRow base T S v n xs) (hB : B ≤ base) (hg : w.grownBy w' v.ownBlock) (hs : B ≤ w.heap.size) : Below B a w' := by
  refine h.trans ⟨hg.os, hg.tape, hg.output, hg.size, fun k hk => hg.block k (by omega) (fun e => ?_)⟩
  have := (hown.lt k e.symm).1
  omega

set_option maxHeartbeats 2000000 in
set_option maxRecDepth 100000 in
theorem devices_any (v : Value) (l : List Dev) (w : World) (hv : DevsAt w v l) (hr : l.length * 56 ≤ 140737488351232) :
    Calls Try.prog 33 #[v] w fun e w' => ∃ v', e = .returned v' ∧ DevsAt w' v' l ∧ Below w.heap.size w w' := by
  obtain ⟨i0, hi, hz0, hz1, hz2⟩ := info_parts Try.info_rdev
  rcases hv with ⟨h0, a, cap, rfl⟩ | ⟨h0, h1, b, off, cap, rfl, hlt, hc⟩
  · have hl : l = [] := List.eq_nil_of_length_eq_zero h0
    subst hl
    go_enter Try.func33, Try.ntmps33
    go_wp2
    refine wp_loop_rounds 1 ?_
    rw [rounds_succ]
    go_wp2
    go_ret
    exact ⟨_, rfl, .inl ⟨rfl, _, _, rfl⟩, by (repeat' (first | (with_reducible exact Below.refl _ _) | (with_reducible assumption) | (with_reducible refine below_run ?_ (by assumption)) | (with_reducible refine below_of_upd ?_ (by assumption) ?_) | (with_reducible refine below_drewN ?_ _) | (with_reducible refine Below.drew ?_) | (with_reducible refine below_seven ?_ ?_) | (with_reducible refine below_six ?_ ?_) | (with_reducible refine below_one ?_ ?_) | (with_reducible refine Below.alloc ?_ ?_ _) | (with_reducible refine below_after ?_ ?_ (by assumption)) | (show _ ≤ _; first | omega | (simp; done) | (simp; omega))))⟩
  · have h3 : (l.length : Int) ≤ 140737488351232 := by omega
    have h4 : (0 : Int) < (l.length : Int) := by omega
    go_enter Try.func33, Try.ntmps33
    go_wp2
    go_loopw [3, 8] (fun v i wr => ∃ k : Nat, k ≤ l.length ∧ i = .int .i64 k ∧ wr.ownsRow w.heap.size 28 7 v k (devsL (l.take k)) ∧ Below w.heap.size w wr) (fun _ i _ => l.length - (intOf i).toNat)
    case atStart => exact ⟨0, Nat.zero_le _, rfl, World.ownsRow_nil _ _ _ _, Below.refl _ _⟩
    case round =>
      obtain ⟨k, hk, rfl, hown, hb0⟩ := hrel
      by_cases hlt2 : k < l.length
      · have hlt3 : (k : Int) < (l.length : Int) := by omega
        have hc' : ∀ j, j < l.length * 7 → wr.cell? ⟨b, off + j, none⟩ = devsC l j := fun j hj => (hb0.cell (p := ⟨b, off + j, none⟩) hlt).trans (hc j hj)
        obtain ⟨d, hd, e0, e1, e2, e3, e4, e5, e6⟩ := dev_cells hc' k hlt2
        have HD := Lib.hid hd
        have HT := Lib.hid (take_succ_some hd)
        have hsz := hb0.size
        clear hc hc' hd
        go_wp2_with (at_builtin; refine wpList_append_own _ rfl _ _ 71 rfl w.heap.size 28 i0 _ 7 56 Try.underlying71 hi hz0 hz1 hz2 rfl (by decide) _ _ _ rfl ((hown.alloc _).alloc _) ⟨wr.heap.size + 1, 0, none⟩ 1 1 (devA d).toList rfl rfl ?c1 (dev_ones d) ?c3 ?c4 ?c5 ?_)
        case c1 => exact dev_news (d := d) (RowAt.mk (by simp) rfl)
        case c3 => unfold maxLen; omega
        case c4 => omega
        case c5 => simp; omega
        · intro v' w1 hown' hgrow _
          have hd2 : devsL (l.take (k + 1)) = devsL (l.take k) ++ [Value.int IntKind.u64 d.id, Value.int IntKind.i64 d.ft, Value.int IntKind.i64 d.ad, Value.string d.lb, Value.int IntKind.i64 d.hr, Value.bool d.mu, Value.bool d.idf] := by
            rw [HT.out, devsL_append]; rfl
          have HD2 := Lib.hid hd2
          have hb1 := below_grown (((hb0.alloc (by omega) _).alloc (by simp; omega) _)) ((hown.alloc _).alloc _) (Nat.le_refl _) hgrow (by simp; omega)
          clear hgrow hown hd2
          go_wp2
          go_roundw
          case rel => exact ⟨k + 1, by omega, by go_num, by rw [HD2.out]; exact hown', hb1⟩
          case measure => simp [intOf]; omega
      · obtain rfl : k = l.length := by omega
        go_wp2
        go_ret
        rw [List.take_length] at hown
        exact ⟨_, rfl, own_devs hown (by omega), hb0⟩

end Go.Proofs.Ytnckalgljfplhaa
