/-
  The top's play on the bus: its numbers.
  Find once more: the devices it returns have their room.
  slices.Values, slices.Collect, slices.Sorted on numbers.
  The top's playDevices and playIdentities.
  The top's playBus.
-/
import Derived.Test.YtpkhcehddfmhpaaGreatAk
import Derived.Test.YtpkhcehddfmhpaaGreatQa
import Derived.Test.YtpkhcehddfmhpaaGreatMo
import Derived.Test.YtpkhcehddfmhpaaGreatMi
import Derived.Test.YtpkhcehddfmhpaaGreatIx
import Derived.Test.YtpkhcehddfmhpaaGreatQf
import Derived.Test.YtpkhcehddfmhpaaGreatBusX
import Derived.Test.YtpkhcehddfmhpaaGreatQt
namespace Go.Proofs.YtpkhcehddfmhpaaGreat
open Go.RowKit

def dm (x : Int) : Dev := ⟨x, 1, 1, ⟨#[]⟩, 0, true, false⟩
def left4 : ByteArray := ⟨#[108, 101, 102, 116]⟩
theorem bus_e : findE [dv 5, dv 6] 9 = 0 := by kernel_rfl
theorem bus_f : (findU [dv 5, dv 6] 9).found = [5, 6] := by kernel_rfl
theorem bus_d : (findU [dv 5, dv 6] 9).devs = [dm 5, dm 6] := by kernel_rfl
theorem bus_m : mgrE ⟨9, 0, 3⟩ = 0 := by kernel_rfl
theorem bus_n : newMgr 9 3 = ⟨9, 0, 3⟩ := by kernel_rfl
theorem bus_1e : askE ⟨9, 0, 3⟩ ⟨[dm 5, dm 6], [2], []⟩ ⟨5, 5, 130, left4⟩ = 0 := by kernel_rfl
theorem bus_1 : askM ⟨9, 0, 3⟩ ⟨[dm 5, dm 6], [2], []⟩ ⟨5, 5, 130, left4⟩ = (⟨9, 2, 3⟩, ⟨[{ dm 5 with lb := left4 }, dm 6], [], []⟩, ⟨0, ⟨#[]⟩, 0, 2⟩) := by kernel_rfl
theorem bus_2e : askE ⟨9, 2, 3⟩ ⟨[{ dm 5 with lb := left4 }, dm 6], [], []⟩ ⟨5, 4, 130, ⟨#[]⟩⟩ = 0 := by kernel_rfl
theorem bus_2 : askM ⟨9, 2, 3⟩ ⟨[{ dm 5 with lb := left4 }, dm 6], [], []⟩ ⟨5, 4, 130, ⟨#[]⟩⟩ = (⟨9, 3, 3⟩, ⟨[{ dm 5 with lb := left4 }, dm 6], [], []⟩, ⟨0, left4, 0, 1⟩) := by kernel_rfl
end Go.Proofs.YtpkhcehddfmhpaaGreat

namespace Go.Proofs.YtpkhcehddfmhpaaGreat
open Go.RowKit Go.Shelf

def FindPostR (n : Int) (u : SSt) (w : World) (e : Ending) (w' : World) : Prop := ∃ v vf, e = .returned (.tuple #[v, .agg #[vf, .int .i64 (IntKind.i64.wrap u.msgs)], .int .i64 n]) ∧ DevsAt w' v u.devs ∧ IdsAt w' vf u.found ∧ Below w.heap.size w w' ∧ RoomOk v

theorem findR_bad {n : Int} {w w' : World} (hb : Below w.heap.size w w') : FindPostR n zeroS w (.returned (.tuple #[.slice none 0 0, .agg #[.slice none 0 0, .int .i64 0], .int .i64 n])) w' :=
  ⟨_, _, rfl, .inl ⟨rfl, _, _, rfl⟩, .inl ⟨rfl, _, _, rfl⟩, hb, fun a n c e => by cases e; exact Nat.le_refl _⟩

set_option maxHeartbeats 4000000 in
set_option maxRecDepth 100000 in
theorem dfindR_any (v : Value) (l : List Dev) (src : Int) (w : World) (hv : DevsAt w v l) :
    Calls Tryz.prog 30 #[v, .int .u64 src] w (FindPostR (findE l src) (findU l src) w) := by
  have hz : (w.alloc (.cells #[.slice none 0 0, .int .i64 0] 97)).heap.size = w.heap.size + 1 := by simp
  have hv' := hv.alloc (.cells #[.slice none 0 0, .int .i64 0] 97)
  have C := Lib.hid (begun_any v l src 0 _ hv')
  have hzr : RowAt (w.alloc (.cells #[.slice none 0 0, .int .i64 0] 97)) w.heap.size 97 #[.slice none 0 0, .int .i64 0] := RowAt.new _ _ _
  obtain ⟨n, hn⟩ : ∃ n, beginE l src 0 = n := ⟨_, rfl⟩
  rw [hn] at C
  have HN := Lib.hid hn
  have HB0 := Lib.hid ((Below.refl w.heap.size w).alloc (Nat.le_refl _) (.cells #[.slice none 0 0, .int .i64 0] 97))
  have HZR := Lib.hid hzr
  clear hv hv' hn hzr
  go_enter Tryz.func30, Tryz.ntmps30
  go_wp2_with fail
  refine C.out.mono ?_
  rintro e w1 ⟨hb1, ⟨hn0, rfl⟩ | ⟨rfl, s, m, rfl, hs0, hm0, hsat⟩⟩
  · have HE := Lib.hid (show findE l src = n from HN.out)
    have HU := Lib.hid (show findU l src = zeroS by rw [findU, if_neg (by rw [HE.out]; exact hn0)])
    have e9 : (n != 0) = true := by simpa using hn0
    have hr1 := HZR.out.run hb1
    obtain ⟨x1, x2, x3, x4, x5, x6⟩ := row_facts hr1
    have HB := Lib.hid (below_run HB0.out hb1)
    clear hn0 hr1 hb1
    go_wp2
    rw [HE.out, HU.out]
    refine bodyPost_ret (v := .tuple #[.slice none 0 0, .agg #[.slice none 0 0, .int .i64 0], .int .i64 n]) ?_ rfl (findR_bad (by have := HB.out; (repeat' (first | (with_reducible exact Below.refl _ _) | (with_reducible assumption) | (with_reducible refine below_run ?_ (by assumption)) | (with_reducible refine below_of_upd ?_ (by assumption) ?_) | (with_reducible refine below_drewN ?_ _) | (with_reducible refine Below.drew ?_) | (with_reducible refine below_seven ?_ ?_) | (with_reducible refine below_six ?_ ?_) | (with_reducible refine below_one ?_ ?_) | (with_reducible refine Below.alloc ?_ ?_ _) | (with_reducible refine below_after ?_ ?_ (by assumption)) | (show _ ≤ _; first | omega | (simp; done) | (simp; omega))))))
    simp [results, Tryz.results30, go_sem, *]
  · rw [hz] at hs0 hm0 hsat
    have hr1 := HZR.out.run hb1
    have HE := Lib.hid (show findE l src = 0 from HN.out)
    have HU := Lib.hid (show findU l src = searchS src 48 1 281474976710654 (unmS src l) by rw [findU, if_pos HE.out])
    have hok := start_ok HN.out
    have CO := Lib.hid (order_any (w.heap.size + 1) (w.heap.size + 1) s m src (startS l 0) [] 3 281474976710655 w1 hsat hs0 hok.devs (unm_chk hok) hok.q0 hok.q1)
    have hok1 : Sok src (unmS src l) := order_ok hok (.inr rfl)
    have CA := Lib.hid (fun (w2 : World) (hz : w.heap.size + 1 ≤ w2.heap.size) (h : SAt w2 (w.heap.size + 1) s m src (unmS src l) []) => all_any (w.heap.size + 1) (w.heap.size + 1) s m src hs0 hm0 (Nat.le_refl _) 48 1 281474976710654 (unmS src l) w2 hz all_in.1 all_in.2.1 all_in.2.2.1 all_in.2.2.2 hok1 h)
    have HSO := Lib.hid (search_ok 48 1 281474976710654 (unmS src l) all_in.1 all_in.2.1 all_in.2.2.1 hok1)
    obtain ⟨t1, ht1⟩ : ∃ t, unmS src l = t := ⟨_, rfl⟩
    have ht1' : orderS src (startS l 0) 3 281474976710655 = t1 := ht1
    rw [ht1'] at CO
    rw [ht1] at CA HSO HU
    obtain ⟨u, hu⟩ : ∃ u, searchS src 48 1 281474976710654 t1 = u := ⟨_, rfl⟩
    rw [hu] at CA HSO HU
    have HB := Lib.hid (below_run HB0.out hb1)
    have HR1 := Lib.hid hr1
    have HB1s := Lib.hid (show w.heap.size + 1 ≤ w1.heap.size by have := hb1.size; simp at this; omega)
    clear hsat hb1 hr1 hok hok1 ht1 ht1' hu
    go_wp2_with fail
    refine CO.out.mono ?_
    rintro e w2 ⟨rfl, hs1, hst1⟩
    have HST1 := Lib.hid hst1.weak
    have HS1 := Lib.hid hs1
    clear hst1 hs1 CO
    go_wp2_with fail
    refine (CA.out w2 (by have := HST1.out.below.size; have := HB1s.out; omega) HS1.out).mono ?_
    rintro e w3 ⟨rfl, hs2, hst2⟩
    have hst := stir_trans HST1.out hst2
    have hr2 := RowAt.below HR1.out hst.below (by omega)
    have hb2 : Below w.heap.size w w3 := HB.out.trans (hst.below.mono (by omega))
    obtain ⟨⟨vd, vf, hr, hdv, hown, hty, hnil⟩, hs⟩ := hs2
    obtain ⟨fa, fn, fc, rfl⟩ : ∃ a k c, vf = .slice a k c := by
      rcases hown.2 with ⟨rfl, _⟩ | ⟨g, cap, cur, rfl, _⟩
      · exact ⟨_, _, _, rfl⟩
      · exact ⟨_, _, _, rfl⟩
    have c0 : w3.cell? ⟨s, 0, none⟩ = some vd := cell_fact hr 0
    have c4 : w3.cell? ⟨s, 4, none⟩ = some (.slice fa fn fc) := cell_fact hr 4
    have c5 : w3.cell? ⟨s, 5, none⟩ = some (.int .i64 (IntKind.i64.wrap u.msgs)) := cell_fact hr 5
    obtain ⟨N, hN⟩ : ∃ N, IntKind.i64.wrap (u.msgs : Int) = N := ⟨_, rfl⟩
    rw [hN] at c5
    obtain ⟨y1, y2, y3, y4, y5, y6⟩ := row_facts hr2
    have hsz := lt_of_block hr
    (try (have hn : ¬ s = w.heap.size := (by omega); have hn' : ¬ w.heap.size = s := (by omega)))
    have HR2 := Lib.hid hr2
    have HRM := Lib.hid (typed_room hty hdv)
    have P := Lib.hid (parts_two (u1 := .slice fa fn fc) (u2 := .int .i64 N) hr2 hdv hty hown)
    have HB2 := Lib.hid hb2
    have HNN := Lib.hid hN
    clear hr hdv hown hty hnil hs hst hst2 hr2 hb2 hN CA HST1 HS1
    go_wp2_with fail
    go_region_held3 (fun w' => w'.cell? ⟨s, 0, none⟩ = some vd ∧ w'.cell? ⟨s, 4, none⟩ = some (.slice fa fn fc) ∧ w'.cell? ⟨s, 5, none⟩ = some (.int .i64 N)) (go_keep) (fail)
    all_goals go_wp2
    all_goals
      rw [HE.out, HU.out]
      obtain ⟨p1, p2⟩ := P.out
      have hr3 : RowAt ((w3.setCell ⟨w.heap.size, 0, none⟩ (.slice fa fn fc)).setCell ⟨w.heap.size, 1, none⟩ (.int .i64 N)) w.heap.size 97 #[.slice fa fn fc, .int .i64 N] := RowAt.set (RowAt.set HR2.out rfl) rfl
      have hfew := HSO.out.few
      refine bodyPost_ret (v := .tuple #[vd, .agg #[.slice fa fn fc, .int .i64 N], .int .i64 0]) ?_ rfl ⟨_, _, by rw [HNN.out], p1, own_ids p2 rfl (by omega), Below.drew (below_one (below_one HB2.out (Nat.le_refl _)) (Nat.le_refl _)), HRM.out⟩
      simp [results, Tryz.results30, go_sem, cell_fact hr3]
end Go.Proofs.YtpkhcehddfmhpaaGreat

namespace Go.Proofs.YtpkhcehddfmhpaaGreat
open Go.RowKit Go.Shelf

attribute [local go_sem] Oper.semAt_some

set_option maxRecDepth 100000 in
set_option maxHeartbeats 4000000 in
theorem values1_in (l Bs n₀ b off cap : Nat) (t : List Int) (hb : b < n₀) (W : World) (_ : n₀ ≤ W.heap.size) (J Jx : List Int → World → Prop)
    (hY : ∀ pre x W, J pre W → pre.length < t.length → YieldAt Fence.wide 2 Tryz.prog l #[.int .u64 x] W fun e W' =>
      (e = .returned (.bool true) ∧ J (pre ++ [x]) W' ∧ Below n₀ W W') ∨ (e = .returned (.bool false) ∧ Jx (pre ++ [x]) W'))
    (hBs : W.cell? ⟨Bs, 0, none⟩ = some (.slice (some ⟨b, off, none⟩) t.length cap)) (hlen : t.length ≤ 100000) (hc : ∀ j, j < t.length * 1 → W.cell? ⟨b, off + j, none⟩ = u64C t j) (h0 : J [] W) :
    CallsIn Fence.wide 3 Tryz.prog 79 #[.func (.yield l) #[] #[], .pointer (some ⟨Bs, 0, none⟩)] W fun e W' => (∃ v, e = .returned v) ∧
      ((∃ ys, ys = t ∧ J ys W') ∨ (∃ pre, pre <+: t ∧ Jx pre W')) := by
  refine callsIn_of_wp Tryz.func79 rfl trivial ?_ rfl
  simp only [Tryz.ntmps79, List.size_toArray, List.length_cons, List.length_nil, Nat.reduceAdd, Nat.reduceSub, Array.replicate_succ, Array.replicate_zero, List.push_toArray, List.append_toArray, List.nil_append, List.cons_append]
  gi_wp2
  gi_loopw [4, 7] (fun _ i wr => ∃ k : Nat, k ≤ t.length ∧ i = .int .i64 k ∧ J (t.take k) wr ∧ Below n₀ W wr)
    (fun _ i _ => t.length - (intOf i).toNat)
  case atStart => exact ⟨0, Nat.zero_le _, rfl, h0, Below.refl _ _⟩
  case round =>
    obtain ⟨k, hk, rfl, hJs, hnx⟩ := hrel
    by_cases hlt : k < t.length
    · obtain ⟨x, hx, hcs⟩ := id_cell hc k hlt
      have hcx := (hnx.cell (p := ⟨b, off + k, none⟩) hb).trans hcs
      have hlt' : (k : Int) < (t.length : Int) := by omega
      have hl' : (t.length : Int) ≤ 100000 := by omega
      have hk0 : (0 : Int) ≤ (k : Int) := by omega
      have HT := take_succ_some hx
      have hlk : (t.take k).length < t.length := by rw [List.length_take]; omega
      obtain ⟨fn, tmps, assign, body, hy, hR⟩ := hY (t.take k) x wr hJs hlk
      have HR := Lib.hid hR
      have HTT := Lib.hid HT
      have HX := Lib.hid hx
      clear hcs hR HT hx hlk
      gi_wp2
      refine HR.out.mono ?_
      rintro e W3 (⟨rfl, hJ3, hk3⟩ | ⟨rfl, hJx3⟩)
      · gi_wp2
        go_roundw
        case rel => exact ⟨k + 1, by omega, by simp, by rw [HTT.out]; exact hJ3, hnx.trans hk3⟩
        case measure => simp [intOf]; omega
      · gi_wp2
        refine bodyPost_ret (results_none rfl _ _ _) rfl ?_
        exact ⟨⟨_, rfl⟩, .inr ⟨_, by rw [← HTT.out]; exact List.take_prefix _ _, hJx3⟩⟩
    · obtain rfl : k = t.length := by omega
      gi_wp2
      go_end0
      exact ⟨⟨_, rfl⟩, .inl ⟨_, rfl, by simpa using hJs⟩⟩

set_option maxRecDepth 100000 in
set_option maxHeartbeats 2000000 in
theorem values1_nil (l Bs cap : Nat) (a : Option Addr) (J : List Int → World → Prop) (W : World) (hBs : W.cell? ⟨Bs, 0, none⟩ = some (.slice a 0 cap)) (h0 : J [] W) :
    CallsIn Fence.wide 3 Tryz.prog 79 #[.func (.yield l) #[] #[], .pointer (some ⟨Bs, 0, none⟩)] W fun e W' => (∃ v, e = .returned v) ∧ J [] W' := by
  refine callsIn_of_wp Tryz.func79 rfl trivial ?_ rfl
  simp only [Tryz.ntmps79, List.size_toArray, List.length_cons, List.length_nil, Nat.reduceAdd, Nat.reduceSub, Array.replicate_succ, Array.replicate_zero, List.push_toArray, List.append_toArray, List.nil_append, List.cons_append]
  gi_wp2
  gi_loopw [4, 7] (fun _ i wr => i = .int .i64 0 ∧ J [] wr) (fun _ _ _ => 0)
  case atStart => exact ⟨rfl, h0⟩
  case round =>
    obtain ⟨rfl, hJs⟩ := hrel
    gi_wp2
    go_end0
    exact ⟨⟨_, rfl⟩, hJs⟩

theorem values_stops (Bs n₀ : Nat) (v : Value) (t : List Int) (hlen : t.length ≤ 100000) (w : World) (hBs : Bs < w.heap.size) (hn₀ : n₀ ≤ w.heap.size) (hc : w.cell? ⟨Bs, 0, none⟩ = some v)
    (W0 : World) (h0 : W0.heap.size = n₀) (hW0 : Below n₀ W0 w) (hI : IdsAt W0 v t) :
    SeqStopsK Fence.wide 3 Tryz.prog 79 #[.pointer (some ⟨Bs, 0, none⟩)] (fun m : Int => #[.int .u64 m]) (Below n₀) (fun ys => ys = t) (fun pre => pre <+: t) t.length w := fun l J Jx W hW hJ _ hY hj => by
  have hc' := (hW.cell (p := ⟨Bs, 0, none⟩) hBs).trans hc
  have hn := Nat.le_trans hn₀ hW.size
  rcases hI with ⟨e0, a, cap, rfl⟩ | ⟨_, _, b, off, cap, rfl, hb, hcs⟩
  · have hl : t = [] := List.eq_nil_of_length_eq_zero e0
    subst hl
    exact (values1_nil l Bs cap a J W hc' hj).mono fun e W' ⟨he, hh⟩ => ⟨he, .inl ⟨_, rfl, hh⟩⟩
  · rw [h0] at hb
    refine values1_in l Bs n₀ b off cap t hb W hn J Jx hY hc' hlen (fun j hj => ?_) hj
    exact ((hW0.trans (hW.mono hn₀)).cell (p := ⟨b, off + j, none⟩) hb).trans (hcs j hj)

set_option maxHeartbeats 1000000 in
theorem values_any (a : Option Addr) (n cap : Nat) (w : World) : Calls Tryz.prog 34 #[.slice a n cap] w fun e w' => e = .returned (.func (.func 79) #[] #[.pointer (some ⟨w.heap.size, 0, none⟩)]) ∧ w' = w.alloc (.cells #[.slice a n cap] 95) := by
  go_enter Tryz.func34, Tryz.ntmps34
  go_wp2
  go_ret
  exact ⟨rfl, rfl⟩
/-- What collecting a list of numbers returns. -/
def CollPost (t : List Int) (w : World) (e : Ending) (w' : World) : Prop := ∃ v, e = .returned v ∧ w'.ownsRow w.heap.size 22 1 v t.length (u64L t) ∧ Below w.heap.size w w'

set_option maxRecDepth 100000 in
set_option maxHeartbeats 8000000 in
theorem appendSeq_any (Bs : Nat) (v : Value) (t : List Int) (hlen : t.length ≤ 100000) (w : World) (hBs : Bs < w.heap.size) (hc : w.cell? ⟨Bs, 0, none⟩ = some v) (hI : IdsAt w v t) :
    Calls Tryz.prog 108 #[.slice none 0 0, .func (.func 79) #[] #[.pointer (some ⟨Bs, 0, none⟩)]] w (CollPost t w) := by
  obtain ⟨i1, hi', hz0', hz1', hz2'⟩ := info_parts Tryz.info_u64
  have HI := Lib.hid hI
  have HC := Lib.hid hc
  clear hI hc
  refine (callsIn_wide (n := 3)).1 (callsIn_of_wp_marks Tryz.func108 rfl trivial ?_ rfl)
  refine wpIn_wide.2 ?_
  simp only [Tryz.ntmps108, List.size_toArray, List.length_cons, List.length_nil, Nat.reduceAdd, Nat.reduceSub, Array.replicate_succ, Array.replicate_zero, List.push_toArray, List.append_toArray, List.nil_append, List.cons_append]
  go_wp2_with fail
  refine with_act fun act hact => ?_
  refine (wpIn_wide (n := 4)).1 ?_
  refine wpIn_rangeFunc_ownH rfl (by decide) (gf := 79) (lb := #[.pointer (some ⟨Bs, 0, none⟩)]) (by rw [hact]; rfl) trivial (enters_of Tryz.func79 (by kernel_rfl) rfl)
    (values_stops Bs w.heap.size v t hlen (w.alloc (.cells #[.slice none 0 0] 95)) (by simp; omega) (by simp) (((((Below.refl _ w).alloc (Nat.le_refl _) _) : Below w.heap.size w (w.alloc (.cells #[.slice none 0 0] 95))).cell (p := ⟨Bs, 0, none⟩) hBs).trans HC.out) w rfl ((Below.refl _ w).alloc (Nat.le_refl _) _) HI.out)
    belowK_t (belowK_b (by simp)) (Below.refl _ _) (fun _ => rfl)
    (fun pre W => (∃ v, Boxed W w.heap.size 95 v ∧ W.ownsRow w.heap.size 22 1 v pre.length (u64L pre) ∧ True) ∧ Below w.heap.size w W)
    (fun _ _ _ => False)
    (OwnFrom.and (Own.from (holdsRow_own _ _ _ _ _ (fun pre => List.length pre) (fun pre => u64L pre) (fun _ _ => True)) _) (ownFrom_below (Nat.le_refl _) (by simp)))
    (fun _ _ _ _ _ hs _ _ => hs)
    ⟨⟨_, Boxed.new w _ _, World.ownsRow_nil _ _ _ _, trivial⟩, (Below.refl _ w).alloc (Nat.le_refl _) _⟩
    (fun x a' _ => a' = { tmps := (act.tmps.setIfInBounds 7 (.int .u64 x)).setIfInBounds 5 (.int .u64 x), defers := [] })
    (fun _ _ _ _ _ _ e _ _ => e) ?assign ?body ?done ?stop
  case assign =>
    rintro l pre x W K ⟨⟨v, hv, hrow, -⟩, hB⟩ hK
    subst hact
    gi_wp2
    refine hK _ _ ((KeepsOthers.refl _).from _) (Below.refl _ W) ⟨⟨v, hv, hrow, trivial⟩, hB⟩ ?_
    simp
  case body =>
    rintro l pre x a' W hl ⟨r, hr⟩ ⟨⟨v, hv, hrow, -⟩, hB⟩ rfl hlt
    subst hact
    have hN : pre.length < t.length := by simpa using hlt
    have hcc := hv.cell
    have hf := hv.frozen
    have hBs := hB.size
    gi_wp2_with (gi_at_builtin; refine wpListIn_append_own _ rfl _ _ 95 rfl w.heap.size 22 i1 _ 1 8 Tryz.underlying95 hi' hz0' hz1' hz2' rfl (by decide) _ _ _ rfl (hrow.alloc _) ⟨W.heap.size, 0, none⟩ 1 1 [.int .u64 x] rfl rfl ?e1 ?e2 ?e3 ?e4 ?e5 ?_)
    case e1 =>
      intro j u hj
      match j, hj with
      | 0, hj =>
        simp at hj
        subst hj
        exact (row_facts (show RowAt _ W.heap.size 22 #[.int .u64 x] from RowAt.mk (by simp) rfl)).1 0
    case e2 => intro u hu; simp at hu; subst hu; rfl
    case e3 => unfold maxLen; omega
    case e4 => omega
    case e5 => first | omega | (simp; omega)
    · intro v' w1 hown' hgrow _
      obtain ⟨g', cap', rfl⟩ := ownsRow_succ hown'
      obtain ⟨hv1, hv2, hr2, hk2, hb2⟩ := hv.appended (by decide) hrow hB.size (by omega) hown' hgrow
      have hc1 := hv1.cell
      have hf1 := hv1.frozen
      gi_wp2
      exact ⟨hk2.from _, hb2, ⟨⟨_, hv2, by simpa [u64L] using hr2, trivial⟩, hB.trans hb2⟩⟩
  case done =>
    rintro D ys W hD rfl ⟨⟨v, hv, hrow, -⟩, hB⟩ hK
    have hcc := hv.cell
    subst hact
    go_wp2_with fail
    refine ⟨by simp, .inl ⟨_, _, rfl, run_takeDeferred hK, ?_⟩⟩
    refine ⟨_, results_tmp rfl _ _ _, ?_⟩
    have hBE : Below w.heap.size w (W.putObj D (.deferred none)) := hB.trans (belowK_b (w := w) (Nat.le_refl _) W D _ _ (by simp at hD; omega) hK rfl rfl)
    exact ⟨v, rfl, ownsRow_putObj hrow _ hK rfl, hBE⟩
  case stop =>
    rintro D c pre W _ _ h _
    exact h.elim
set_option maxHeartbeats 2000000 in
theorem collect_any (Bs : Nat) (v : Value) (t : List Int) (hlen : t.length ≤ 100000) (w : World) (hBs : Bs < w.heap.size) (hc : w.cell? ⟨Bs, 0, none⟩ = some v) (hI : IdsAt w v t) :
    Calls Tryz.prog 77 #[.func (.func 79) #[] #[.pointer (some ⟨Bs, 0, none⟩)]] w (CollPost t w) := by
  have C := Lib.hid (appendSeq_any Bs v t hlen w hBs hc hI)
  clear hc hI
  go_enter Tryz.func77, Tryz.ntmps77
  go_wp2_with fail
  refine C.out.mono ?_
  rintro e w1 ⟨v1, rfl, ho, hb⟩
  have HO := Lib.hid ho
  clear ho
  go_wp2
  go_ret
  exact ⟨v1, rfl, HO.out, hb⟩
/-- What sorting what a function yields returns. -/
def SortedPost (t : List Int) (w : World) (e : Ending) (w' : World) : Prop :=
  ∃ (a : Option Addr) (c : Nat) (ids : List Int), e = .returned (.slice a ids.length c) ∧ IdsAt w' (.slice a ids.length c) ids ∧ ids.Perm t ∧ ids.Pairwise (· ≤ ·) ∧ Below w.heap.size w w'
set_option maxHeartbeats 2000000 in
theorem sorted_any (Bs : Nat) (v : Value) (t : List Int) (hlen : t.length ≤ 12) (w : World) (hBs : Bs < w.heap.size) (hc : w.cell? ⟨Bs, 0, none⟩ = some v) (hI : IdsAt w v t) :
    Calls Tryz.prog 33 #[.func (.func 79) #[] #[.pointer (some ⟨Bs, 0, none⟩)]] w (SortedPost t w) := by
  have C := Lib.hid (collect_any Bs v t (by omega) w hBs hc hI)
  clear hc hI
  go_enter Tryz.func33, Tryz.ntmps33
  go_wp2_with fail
  refine C.out.mono ?_
  rintro e w1 ⟨v1, rfl, ho, hb⟩
  have CS := Lib.hid (sort_own w.heap.size _ _ _ w1 ho hlen)
  have HB := Lib.hid hb
  clear ho hb
  go_wp2_with fail
  refine CS.out.mono ?_
  rintro e w2 ⟨rfl, hb1, -, ids, ho, hp, hs⟩
  have hl : ids.length ≤ 12 := by have := hp.length_eq; omega
  have hids := own_ids ho rfl (by omega)
  obtain ⟨va, vc, e⟩ := shape_of hids
  have HO := Lib.hid (show SortedPost t w (.returned (.slice va ids.length vc)) w2 from ⟨va, vc, ids, rfl, e ▸ hids, hp, hs, HB.out.trans hb1⟩)
  subst e
  clear ho hids hp hs hb1
  go_wp2
  go_ret
  exact HO.out
end Go.Proofs.YtpkhcehddfmhpaaGreat

namespace Go.Proofs.YtpkhcehddfmhpaaGreat
open Go.RowKit

/-- What playIdentities returns: the identities in order. -/
def PidsPost (l : List Dev) (w : World) (e : Ending) (w' : World) : Prop :=
  ∃ (a : Option Addr) (c : Nat) (ids : List Int), e = .returned (.slice a ids.length c) ∧ IdsAt w' (.slice a ids.length c) ids ∧ ids.Perm (l.map fun d => d.id) ∧ ids.Pairwise (· ≤ ·) ∧ Below w.heap.size w w'

end Go.Proofs.YtpkhcehddfmhpaaGreat

namespace Go.Proofs.YtpkhcehddfmhpaaGreat
open Go.RowKit Go.Shelf

theorem devs_two {w : World} {a : Option Addr} {c : Nat} {d e : Dev} (h : DevsAt w (.slice a 2 c) [d, e]) : ∃ b off, a = some ⟨b, off, none⟩ ∧ b < w.heap.size ∧ w.cell? ⟨b, off + 5, none⟩ = some (.bool d.mu) ∧ w.cell? ⟨b, off + 7 + 5, none⟩ = some (.bool e.mu) := by
  rcases h with ⟨h0, _⟩ | ⟨_, _, b, off, cap, hv, hb, hc⟩
  · cases h0
  · cases hv
    refine ⟨b, off, rfl, hb, ?_, ?_⟩
    · rw [hc 5 (by simp)]
      simp [devsC, devA]
    · rw [show off + 7 + 5 = off + 12 from rfl, hc 12 (by simp)]
      simp [devsC, devA]

set_option maxHeartbeats 8000000 in
set_option maxRecDepth 100000 in
theorem playBus_any (w : World) : Calls Tryz.prog 12 #[] w fun e w' => e = .returned (.bool true) ∧ Below w.heap.size w w' := by
  have CE := Lib.hid (@equal_same)
  go_enter Tryz.func12, Tryz.ntmps12
  go_wp2_with fail
  refine (device_any 5 _).mono ?_
  rintro e w1 ⟨rfl, hb1⟩
  go_wp2_with fail
  refine (device_any 6 _).mono ?_
  rintro e w2 ⟨rfl, hb2⟩
  have hb12 := below_run hb1 hb2
  have D2 : DevsAt (w2.alloc (.cells #[.int .u64 5, .int .i64 1, .int .i64 1, .string ⟨#[]⟩, .int .i64 0, .bool false, .bool false, .int .u64 6, .int .i64 1, .int .i64 1, .string ⟨#[]⟩, .int .i64 0, .bool false, .bool false] 91)) (.slice (some ⟨w2.heap.size, 0, none⟩) 2 2) [dv 5, dv 6] := devs_row (RowAt.new _ _ _) rfl (by decide) (by decide)
  have hb3 := hb12.alloc hb12.size (.cells #[.int .u64 5, .int .i64 1, .int .i64 1, .string ⟨#[]⟩, .int .i64 0, .bool false, .bool false, .int .u64 6, .int .i64 1, .int .i64 1, .string ⟨#[]⟩, .int .i64 0, .bool false, .bool false] 91)
  clear hb1 hb2 hb12
  go_wp2_with fail
  refine (dfindR_any _ _ 9 _ D2).mono ?_
  rintro e w3 ⟨v3, vf3, he, hd3, hi3, hb, hrm⟩
  rw [bus_d] at hd3
  rw [bus_f] at hi3
  rw [bus_e] at he
  obtain ⟨M, hM⟩ : ∃ M, IntKind.i64.wrap ((findU [dv 5, dv 6] 9).msgs : Int) = M := ⟨_, rfl⟩
  rw [hM] at he
  obtain ⟨va, vc, e1⟩ := shape_of hd3
  obtain ⟨fa, fc, e2⟩ := shape_of hi3
  have e1' : v3 = .slice va 2 vc := e1
  have e2' : vf3 = .slice fa 2 fc := e2
  subst e1' e2' he
  have HB3 := Lib.hid (below_run hb3 hb)
  clear e1 e2 hM D2 hb3 hb
  go_upto_region 2 with fail
  have hbF : Below w3.heap.size w3 (w3.alloc (.cells #[.slice fa 2 fc, .int .i64 M] 97)) := (Below.refl _ _).alloc (Nat.le_refl _) _
  have r2 : RowAt (w3.alloc (.cells #[.slice fa 2 fc, .int .i64 M] 97)) w3.heap.size 97 #[.slice fa 2 fc, .int .i64 M] := RowAt.new _ _ _
  have hd := hd3.run hbF
  have hi := hi3.run hbF
  have hbw := below_run HB3.out hbF
  generalize (w3.alloc (.cells #[.slice fa 2 fc, .int .i64 M] 97)) = X at hbF r2 hd hi hbw ⊢
  generalize w3.heap.size = k3 at r2 ⊢
  obtain ⟨b, off, rfl, hlt, m5, m12⟩ := devs_two hd
  have m5' : X.cell? ⟨b, off + 5, none⟩ = some (.bool true) := m5
  have m12' : X.cell? ⟨b, off + 7 + 5, none⟩ = some (.bool true) := m12
  have HD := Lib.hid hd
  have HI := Lib.hid hi
  have HBW := Lib.hid hbw
  have HRM := Lib.hid hrm
  have HM5 := Lib.hid m5'
  have HM12 := Lib.hid m12'
  have HLT := Lib.hid hlt
  obtain ⟨x1, x2, x3, x4, x5, x6⟩ := row_facts r2
  clear hbF hd hi hbw hrm hd3 hi3 HB3 r2 m5 m12 m5' m12' hlt
  go_wp2_with fail
  refine (values_any fa 2 fc _).mono ?_
  rintro e w4 ⟨rfl, rfl⟩
  have hbV : Below X.heap.size X (X.alloc (.cells #[.slice fa 2 fc] 95)) := (Below.refl _ _).alloc (Nat.le_refl _) _
  have CS := sorted_any X.heap.size (.slice fa 2 fc) [5, 6] (by decide) (X.alloc (.cells #[.slice fa 2 fc] 95)) (by simp) (cell_fact (RowAt.new X 95 #[.slice fa 2 fc]) 0) (HI.out.run hbV)
  have HCS := Lib.hid CS
  clear CS
  go_wp2_with fail
  refine HCS.out.mono ?_
  rintro e w5 ⟨sa, sc, ids, rfl, hi5, hp, hs, hb5⟩
  obtain rfl : ids = [5, 6] := srt_eq hs (by decide) hp
  have hb25 := below_run hbV hb5
  have HI5 := Lib.hid hi5
  have HB5 := Lib.hid hb25
  clear hp hs hi5 hb5 hb25 hbV HCS x1 x2 x3 x4 x5 x6
  go_wp2_with fail
  have I5 : IdsAt (w5.alloc (.cells #[.int .u64 5, .int .u64 6] 22)) (.slice (some ⟨w5.heap.size, 0, none⟩) 2 2) [5, 6] := ids_row (RowAt.new _ _ _) rfl (by decide) (by decide)
  have hba : Below w5.heap.size w5 (w5.alloc (.cells #[.int .u64 5, .int .u64 6] 22)) := (Below.refl _ _).alloc (Nat.le_refl _) _
  refine (CE.out _ _ [5, 6] _ (HI5.out.run hba) I5).mono ?_
  rintro e w6 ⟨rfl, hb6⟩
  have hbX := below_run (below_run HB5.out hba) hb6
  have n5 := (hbX.cell (p := ⟨b, off + 5, none⟩) HLT.out).trans HM5.out
  have n12 := (hbX.cell (p := ⟨b, off + 7 + 5, none⟩) HLT.out).trans HM12.out
  have HD6 := Lib.hid (HD.out.run hbX)
  have HB6 := Lib.hid (below_run HBW.out hbX)
  clear I5 hba hb6 hbX HD HI5 HB5 HM5 HM12 HBW HI HLT
  go_wp2_with fail
  refine (mnew_any 9 3 _).mono ?_
  rintro e w7 ⟨he, hb7⟩
  rw [bus_n, bus_m] at he
  have he' : e = .returned (.tuple #[.agg #[.int .u64 9, .int .i64 0, .int .i64 3], .int .i64 0]) := he
  subst he'
  have HD7 := Lib.hid (HD6.out.run hb7)
  have HB7 := Lib.hid (below_run HB6.out hb7)
  have HK7 := HB7.out.size
  clear he hb7 HD6 HB6 n5 n12
  go_upto_region 6 with fail
  rw [show w7.heap.size + 1 + 1 = w7.heap.size + 2 from rfl]
  have hbT : Below w7.heap.size w7 (((w7.alloc (.cells #[.int .u64 9, .int .i64 0, .int .i64 3] 24)).alloc (.cells #[.int .i64 2] 3)).alloc (.cells #[.slice (some ⟨b, off, none⟩) 2 vc, .slice (some ⟨w7.heap.size + 1, 0, none⟩) 1 1, .slice none 0 0] 29)) := by (repeat' (first | (with_reducible exact Below.refl _ _) | (with_reducible assumption) | (with_reducible refine below_run ?_ (by assumption)) | (with_reducible refine below_of_upd ?_ (by assumption) ?_) | (with_reducible refine below_drewN ?_ _) | (with_reducible refine Below.drew ?_) | (with_reducible refine below_seven ?_ ?_) | (with_reducible refine below_six ?_ ?_) | (with_reducible refine below_one ?_ ?_) | (with_reducible refine Below.alloc ?_ ?_ _) | (with_reducible refine below_after ?_ ?_ (by assumption)) | (show _ ≤ _; first | omega | (simp; done) | (simp; omega))))
  have r4 : RowAt (((w7.alloc (.cells #[.int .u64 9, .int .i64 0, .int .i64 3] 24)).alloc (.cells #[.int .i64 2] 3)).alloc (.cells #[.slice (some ⟨b, off, none⟩) 2 vc, .slice (some ⟨w7.heap.size + 1, 0, none⟩) 1 1, .slice none 0 0] 29)) w7.heap.size 24 #[.int .u64 9, .int .i64 0, .int .i64 3] := ((RowAt.new _ _ _).alloc _).alloc _
  have rf : RowAt (((w7.alloc (.cells #[.int .u64 9, .int .i64 0, .int .i64 3] 24)).alloc (.cells #[.int .i64 2] 3)).alloc (.cells #[.slice (some ⟨b, off, none⟩) 2 vc, .slice (some ⟨w7.heap.size + 1, 0, none⟩) 1 1, .slice none 0 0] 29)) (w7.heap.size + 1) 3 #[.int .i64 2] := (RowAt.mk (by simp) rfl).alloc _
  have r5 : RowAt (((w7.alloc (.cells #[.int .u64 9, .int .i64 0, .int .i64 3] 24)).alloc (.cells #[.int .i64 2] 3)).alloc (.cells #[.slice (some ⟨b, off, none⟩) 2 vc, .slice (some ⟨w7.heap.size + 1, 0, none⟩) 1 1, .slice none 0 0] 29)) (w7.heap.size + 2) 29 #[.slice (some ⟨b, off, none⟩) 2 vc, .slice (some ⟨w7.heap.size + 1, 0, none⟩) 1 1, .slice none 0 0] := RowAt.mk (by simp) rfl
  have hd := HD7.out.run hbT
  have hbw := below_run HB7.out hbT
  generalize (((w7.alloc (.cells #[.int .u64 9, .int .i64 0, .int .i64 3] 24)).alloc (.cells #[.int .i64 2] 3)).alloc (.cells #[.slice (some ⟨b, off, none⟩) 2 vc, .slice (some ⟨w7.heap.size + 1, 0, none⟩) 1 1, .slice none 0 0] 29)) = Y at hbT r4 rf r5 hd hbw ⊢
  have hw : WireAt Y (.slice (some ⟨b, off, none⟩) 2 vc) (.slice (some ⟨w7.heap.size + 1, 0, none⟩) 1 1) (.slice none 0 0) ⟨[dm 5, dm 6], [2], []⟩ :=
    ⟨hd, HRM.out, .inr ⟨by decide, by decide, _, 0, _, rfl, lt_of_block rf, by
      intro j hj
      have h0 : j = 0 := by simp at hj; omega
      subst h0
      exact cell_fact rf 0⟩, .inl ⟨rfl, _, _, rfl⟩⟩
  have hlt4 := lt_of_block r4
  have hlt5 := lt_of_block r5
  have CA := Lib.hid (ask_lift (V := Y) (W := Y) ((askU_of bus_1e).trans bus_1) bus_1e hw (Below.refl _ _))
  have HR4 := Lib.hid r4
  have HR5 := Lib.hid r5
  have HBY := Lib.hid hbw
  have HWY := Lib.hid hw
  obtain ⟨x1, x2, x3, x4, x5, x6⟩ := row_facts r4
  obtain ⟨y1, y2, y3, y4, y5, y6⟩ := row_facts r5
  clear hbT r4 rf r5 hd hbw hw HD7 HB7 HRM
  have hk7 : w.heap.size ≤ w7.heap.size := HK7
  generalize w7.heap.size = k7 at *
  go_wp2_with fail
  refine CA.out.mono ?_
  rintro e w8 ⟨⟨d1, f1, l1, j1, j2, j3, he, hw8⟩, hb8⟩
  have he' : e = .returned (.tuple #[.agg #[.int .u64 9, .int .i64 2, .int .i64 3], .agg #[.slice d1 2 j1, .slice f1 0 j2, .slice l1 0 j3], .agg #[.int .i64 0, .string ⟨#[]⟩, .int .i64 0, .int .i64 2], .int .i64 0]) := he
  subst he'
  have q4 := HR4.out.run hb8
  have q5 := HR5.out.run hb8
  have Q4 := Lib.hid q4
  have Q5 := Lib.hid q5
  have HB8 := Lib.hid (below_run HBY.out hb8)
  have hlt8 := hb8.size
  have HW8 := Lib.hid hw8
  clear he x1 x2 x3 x4 x5 x6 y1 y2 y3 y4 y5 y6 hb8 hw8 HR4 HR5 HBY HWY CA
  obtain ⟨x1, x2, x3, x4, x5, x6⟩ := row_facts q4
  obtain ⟨y1, y2, y3, y4, y5, y6⟩ := row_facts q5
  clear q4 q5
  go_upto_region 7 with fail
  have hwS : WireT ((((((w8.setCell ⟨k7, 0, none⟩ (.int .u64 9)).setCell ⟨k7, 1, none⟩ (.int .i64 2)).setCell ⟨k7, 2, none⟩ (.int .i64 3)).setCell ⟨k7 + 2, 0, none⟩ (.slice d1 2 j1)).setCell ⟨k7 + 2, 1, none⟩ (.slice f1 0 j2)).setCell ⟨k7 + 2, 2, none⟩ (.slice l1 0 j3)) (.slice d1 2 j1) (.slice f1 0 j2) (.slice l1 0 j3) ⟨[{ dm 5 with lb := left4 }, dm 6], [], []⟩ := wire3 (wire3 HW8.out Q4.out (by decide) (by decide) (by decide)) (Q5.out.far3 (by omega)) (by decide) (by decide) (by decide)
  have hbS : Below w.heap.size w ((((((w8.setCell ⟨k7, 0, none⟩ (.int .u64 9)).setCell ⟨k7, 1, none⟩ (.int .i64 2)).setCell ⟨k7, 2, none⟩ (.int .i64 3)).setCell ⟨k7 + 2, 0, none⟩ (.slice d1 2 j1)).setCell ⟨k7 + 2, 1, none⟩ (.slice f1 0 j2)).setCell ⟨k7 + 2, 2, none⟩ (.slice l1 0 j3)) := below_three (below_three HB8.out (by omega)) (by omega)
  have s4 : RowAt (((((((w8.setCell ⟨k7, 0, none⟩ (.int .u64 9)).setCell ⟨k7, 1, none⟩ (.int .i64 2)).setCell ⟨k7, 2, none⟩ (.int .i64 3)).setCell ⟨k7 + 2, 0, none⟩ (.slice d1 2 j1)).setCell ⟨k7 + 2, 1, none⟩ (.slice f1 0 j2)).setCell ⟨k7 + 2, 2, none⟩ (.slice l1 0 j3)).alloc (.cells #[.int .i64 0, .string ⟨#[]⟩, .int .i64 0, .int .i64 2] 37)) k7 24 #[.int .u64 9, .int .i64 2, .int .i64 3] := ((row3 Q4.out).far3 (by omega)).alloc _
  have s5 : RowAt (((((((w8.setCell ⟨k7, 0, none⟩ (.int .u64 9)).setCell ⟨k7, 1, none⟩ (.int .i64 2)).setCell ⟨k7, 2, none⟩ (.int .i64 3)).setCell ⟨k7 + 2, 0, none⟩ (.slice d1 2 j1)).setCell ⟨k7 + 2, 1, none⟩ (.slice f1 0 j2)).setCell ⟨k7 + 2, 2, none⟩ (.slice l1 0 j3)).alloc (.cells #[.int .i64 0, .string ⟨#[]⟩, .int .i64 0, .int .i64 2] 37)) (k7 + 2) 29 #[.slice d1 2 j1, .slice f1 0 j2, .slice l1 0 j3] := (row3 (Q5.out.far3 (by omega))).alloc _
  have s6 : RowAt (((((((w8.setCell ⟨k7, 0, none⟩ (.int .u64 9)).setCell ⟨k7, 1, none⟩ (.int .i64 2)).setCell ⟨k7, 2, none⟩ (.int .i64 3)).setCell ⟨k7 + 2, 0, none⟩ (.slice d1 2 j1)).setCell ⟨k7 + 2, 1, none⟩ (.slice f1 0 j2)).setCell ⟨k7 + 2, 2, none⟩ (.slice l1 0 j3)).alloc (.cells #[.int .i64 0, .string ⟨#[]⟩, .int .i64 0, .int .i64 2] 37)) w8.heap.size 37 #[.int .i64 0, .string ⟨#[]⟩, .int .i64 0, .int .i64 2] := RowAt.mk (by simp) rfl
  have hwT := hwS.run ((Below.refl _ _).alloc (Nat.le_refl _) (.cells #[.int .i64 0, .string ⟨#[]⟩, .int .i64 0, .int .i64 2] 37))
  have hbT := below_run hbS ((Below.refl _ _).alloc (Nat.le_refl _) (.cells #[.int .i64 0, .string ⟨#[]⟩, .int .i64 0, .int .i64 2] 37))
  clear hwS hbS
  generalize (((((((w8.setCell ⟨k7, 0, none⟩ (.int .u64 9)).setCell ⟨k7, 1, none⟩ (.int .i64 2)).setCell ⟨k7, 2, none⟩ (.int .i64 3)).setCell ⟨k7 + 2, 0, none⟩ (.slice d1 2 j1)).setCell ⟨k7 + 2, 1, none⟩ (.slice f1 0 j2)).setCell ⟨k7 + 2, 2, none⟩ (.slice l1 0 j3)).alloc (.cells #[.int .i64 0, .string ⟨#[]⟩, .int .i64 0, .int .i64 2] 37)) = Z at s4 s5 s6 hwT hbT ⊢
  generalize w8.heap.size = k8 at s6 ⊢
  have CA := Lib.hid (ask_lift (V := Z) (W := Z) ((askU_of bus_2e).trans bus_2) bus_2e hwT.at (Below.refl _ _))
  have S6 := Lib.hid s6
  have HBZ := Lib.hid hbT
  clear x1 x2 x3 x4 x5 x6 y1 y2 y3 y4 y5 y6 hwT hbT s6 Q4 Q5 HB8 HW8
  obtain ⟨x1, x2, x3, x4, x5, x6⟩ := row_facts s4
  obtain ⟨y1, y2, y3, y4, y5, y6⟩ := row_facts s5
  clear s4 s5
  go_wp2_with fail
  refine CA.out.mono ?_
  rintro e w9 ⟨⟨d2, f2, l2, i1, i2, i3, he, hw9⟩, hb9⟩
  have he' : e = .returned (.tuple #[.agg #[.int .u64 9, .int .i64 3, .int .i64 3], .agg #[.slice d2 2 i1, .slice f2 0 i2, .slice l2 0 i3], .agg #[.int .i64 0, .string ⟨#[108, 101, 102, 116]⟩, .int .i64 0, .int .i64 1], .int .i64 0]) := he
  subst he'
  have s6 := S6.out.run hb9
  have HB9 := Lib.hid (below_run HBZ.out hb9)
  have HS6 := Lib.hid s6
  clear he hw9 x1 x2 x3 x4 x5 x6 y1 y2 y3 y4 y5 y6 hb9 s6 S6 HBZ CA
  go_upto_region 8 with fail
  rw [show w9.heap.size + 1 + 1 = w9.heap.size + 2 from rfl]
  have hbU : Below w9.heap.size w9 (((w9.alloc (.cells #[.int .u64 9, .int .i64 3, .int .i64 3] 24)).alloc (.cells #[.slice d2 2 i1, .slice f2 0 i2, .slice l2 0 i3] 29)).alloc (.cells #[.int .i64 0, .string ⟨#[108, 101, 102, 116]⟩, .int .i64 0, .int .i64 1] 37)) := by (repeat' (first | (with_reducible exact Below.refl _ _) | (with_reducible assumption) | (with_reducible refine below_run ?_ (by assumption)) | (with_reducible refine below_of_upd ?_ (by assumption) ?_) | (with_reducible refine below_drewN ?_ _) | (with_reducible refine Below.drew ?_) | (with_reducible refine below_seven ?_ ?_) | (with_reducible refine below_six ?_ ?_) | (with_reducible refine below_one ?_ ?_) | (with_reducible refine Below.alloc ?_ ?_ _) | (with_reducible refine below_after ?_ ?_ (by assumption)) | (show _ ≤ _; first | omega | (simp; done) | (simp; omega))))
  have t6 := HS6.out.run hbU
  have t10 : RowAt (((w9.alloc (.cells #[.int .u64 9, .int .i64 3, .int .i64 3] 24)).alloc (.cells #[.slice d2 2 i1, .slice f2 0 i2, .slice l2 0 i3] 29)).alloc (.cells #[.int .i64 0, .string ⟨#[108, 101, 102, 116]⟩, .int .i64 0, .int .i64 1] 37)) (w9.heap.size + 2) 37 #[.int .i64 0, .string ⟨#[108, 101, 102, 116]⟩, .int .i64 0, .int .i64 1] := RowAt.mk (by simp) rfl
  have hbw := below_run HB9.out hbU
  generalize (((w9.alloc (.cells #[.int .u64 9, .int .i64 3, .int .i64 3] 24)).alloc (.cells #[.slice d2 2 i1, .slice f2 0 i2, .slice l2 0 i3] 29)).alloc (.cells #[.int .i64 0, .string ⟨#[108, 101, 102, 116]⟩, .int .i64 0, .int .i64 1] 37)) = V at hbU t6 t10 hbw ⊢
  generalize w9.heap.size + 2 = k9 at t10 ⊢
  have HBV := Lib.hid hbw
  obtain ⟨x1, x2, x3, x4, x5, x6⟩ := row_facts t6
  obtain ⟨y1, y2, y3, y4, y5, y6⟩ := row_facts t10
  clear hbU t6 t10 hbw
  go_wp2
  go_ret
  exact ⟨rfl, HBV.out⟩
end Go.Proofs.YtpkhcehddfmhpaaGreat
