/-
  The messages among texts: the iterator.
  A request is sent once: what a session holds.
-/
import Derived.Test.YtpkhcehddfmhpaaGreatMg
import Derived.Test.YtpkhcehddfmhpaaGreatQa
import Derived.Test.YtpkhcehddfmhpaaGreatDec
import Derived.RangeFuncNested
import Derived.RangeFuncBound
import Derived.RangeFuncCalls
import Derived.RangeFuncLeaves
import Derived.RangeFuncBox
import Derived.Shelf.Abstract
import Derived.Shelf.RegionOpen
import Derived.WalkKit
import Derived.OwnWalkIn
import Derived.TacticsInMore
import Derived.LoopNIn
import Derived.LoopIn
import Derived.Test.YtpkhcehddfmhpaaGreatEnc
import Derived.Test.YtpkhcehddfmhpaaGreatBus
import Derived.Test.YtpkhcehddfmhpaaGreatSame
namespace Go.Proofs.YtpkhcehddfmhpaaGreat
open Go.RowKit Go.Shelf

attribute [local go_sem] Oper.semAt_some

theorem heard_take (t : List ByteArray) (k : Nat) (s : ByteArray) (hs : t[k]? = some s) (m : Msg) (n : Int) (hd : decM s.data.toList = (m, n)) : heardM (t.take (k + 1)) = heardM (t.take k) ++ (if n = 0 then [m] else []) := by
  rw [List.take_add_one, hs, heard_append]
  simp only [Option.toList_some]
  congr 1
  unfold heardM
  rw [List.filterMap_cons, hd]
  by_cases h : n = 0 <;> simp [h]
theorem heard_part (t : List ByteArray) (k : Nat) : heardM (t.take k) <+: heardM t := by
  have h := heard_append (t.take k) (t.drop k)
  rw [List.take_append_drop] at h
  exact ⟨_, h.symm⟩

theorem grown_of_below {a w : World} (h : Below a.heap.size a w) : a.grownBy w none := ⟨h.os, h.tape, h.output, h.size, fun k hk _ => h.block k hk⟩

set_option maxRecDepth 100000 in
set_option maxHeartbeats 4000000 in
theorem heard1_in (l Bs n₀ b off cap N : Nat) (t : List ByteArray) (ht : ∀ s ∈ t, s.size ≤ 100000) (hN : (heardM t).length ≤ N) (hb : b < n₀) (W : World) (hn : n₀ ≤ W.heap.size) (J Jx : List Msg → World → Prop) (hJ : AbidesFrom W.heap.size J)
    (hY : ∀ pre x W, J pre W → pre.length < N → YieldAt Fence.wide 2 Tryz.prog l #[msgV x] W fun e W' =>
      (e = .returned (.bool true) ∧ J (pre ++ [x]) W' ∧ Below n₀ W W') ∨ (e = .returned (.bool false) ∧ Jx (pre ++ [x]) W'))
    (hBs : W.cell? ⟨Bs, 0, none⟩ = some (.slice (some ⟨b, off, none⟩) t.length cap)) (hlen : t.length ≤ 100000) (hc : ∀ j, j < t.length * 1 → W.cell? ⟨b, off + j, none⟩ = strsC t j) (h0 : J [] W) :
    CallsIn Fence.wide 3 Tryz.prog 128 #[.func (.yield l) #[] #[], .pointer (some ⟨Bs, 0, none⟩)] W fun e W' => (∃ v, e = .returned v) ∧
      ((∃ ys, ys = heardM t ∧ J ys W') ∨ (∃ pre, pre <+: heardM t ∧ Jx pre W')) := by
  refine callsIn_of_wp Tryz.func128 rfl trivial ?_ rfl
  simp only [Tryz.ntmps128, List.size_toArray, List.length_cons, List.length_nil, Nat.reduceAdd, Nat.reduceSub, Array.replicate_succ, Array.replicate_zero, List.push_toArray, List.append_toArray, List.nil_append, List.cons_append]
  gi_wp2
  gi_loopw [9] (fun i wr => ∃ k : Nat, k ≤ t.length ∧ i = .int .i64 k ∧ J (heardM (t.take k)) wr ∧ Below n₀ W wr)
    (fun i _ => t.length - (intOf i).toNat)
  case atStart => exact ⟨0, Nat.zero_le _, rfl, h0, Below.refl _ _⟩
  case round =>
    obtain ⟨k, hk, rfl, hJs, hnx⟩ := hrel
    by_cases hlt : k < t.length
    · obtain ⟨s, hs, hcs⟩ := str_cell hc k hlt
      have hcx := (hnx.cell (p := ⟨b, off + k, none⟩) hb).trans hcs
      have hsz := ht s (List.mem_of_getElem? hs)
      have C := Lib.hid fun W => dec_any s W hsz
      have hlt' : (k : Int) < (t.length : Int) := by omega
      have hl' : (t.length : Int) ≤ 100000 := by omega
      clear hcs hsz
      gi_wp2
      refine ⟨trivial, (callsIn_wide.2 (C.out wr)).mono ?_⟩
      rintro e w1 ⟨m, n, rfl, hh, hb1⟩
      have HD := Lib.hid hh.out
      have hJ1 : J (heardM (t.take k)) w1 := hJ _ wr w1 none hJs (grown_of_below hb1) (fun r e => by cases e)
      have hn2 : n₀ ≤ wr.heap.size := Nat.le_trans hn hnx.size
      have hn1 : Below n₀ W w1 := hnx.trans (hb1.mono hn2)
      have hn3 : n₀ ≤ w1.heap.size := Nat.le_trans hn2 hb1.size
      have HS := Lib.hid hs
      clear hh hs hcx
      by_cases h0 : n = 0
      · subst h0
        have HT := heard_take t k s HS.out m 0 HD.out
        rw [if_pos rfl] at HT
        have HP := heard_part t (k + 1)
        rw [HT] at HP
        have hlen : (heardM (t.take k)).length < N := by
          have := HP.length_le
          rw [List.length_append, List.length_singleton] at this
          omega
        obtain ⟨fn, tmps, assign, body, hy, hR⟩ := hY (heardM (t.take k)) m (w1.alloc (.cells #[.int .u64 m.dst, .int .u64 m.src, .int .i64 m.seq, .int .i64 m.kind, .int .i64 m.par, .string m.dat] 52 (0, 0))) (hJ _ _ _ none hJ1 (World.grownBy_alloc _ _ none) (fun r e => by cases e)) hlen
        dsimp only [msgV] at hy
        gi_wp2
        have hn4 : Below n₀ W (w1.alloc (.cells #[.int .u64 m.dst, .int .u64 m.src, .int .i64 m.seq, .int .i64 m.kind, .int .i64 m.par, .string m.dat] 52 (0, 0))) := hn1.alloc hn3 _
        refine hR.mono ?_
        rintro e W3 (⟨rfl, hJ3, hk3⟩ | ⟨rfl, hJx3⟩)
        · gi_wp2
          go_roundw
          case rel => exact ⟨k + 1, by omega, by simp, by rw [HT]; exact hJ3, hn4.trans hk3⟩
          case measure => simp [intOf]; omega
        · gi_wp2
          refine bodyPost_ret (results_none rfl _ _ _) rfl ?_
          exact ⟨⟨_, rfl⟩, .inr ⟨_, HP, hJx3⟩⟩
      · have hn0 : (n == 0) = false := by simpa using h0
        have HT := heard_take t k s HS.out m n HD.out
        rw [if_neg h0, List.append_nil] at HT
        gi_wp2
        refine ⟨fun _ h => (by cases h), ?_⟩
        gi_wp2
        go_roundw
        case rel => exact ⟨k + 1, by omega, by simp, by rw [HT]; exact hJ _ _ _ none hJ1 (World.grownBy_alloc _ _ none) (fun r e => by cases e), hn1.alloc hn3 _⟩
        case measure => simp [intOf]; omega
    · obtain rfl : k = t.length := by omega
      gi_wp2
      go_end0
      exact ⟨⟨_, rfl⟩, .inl ⟨_, rfl, by simpa using hJs⟩⟩

set_option maxRecDepth 100000 in
set_option maxHeartbeats 2000000 in
theorem heard1_nil (l Bs cap : Nat) (a : Option Addr) (J : List Msg → World → Prop) (W : World) (hBs : W.cell? ⟨Bs, 0, none⟩ = some (.slice a 0 cap)) (h0 : J [] W) :
    CallsIn Fence.wide 3 Tryz.prog 128 #[.func (.yield l) #[] #[], .pointer (some ⟨Bs, 0, none⟩)] W fun e W' => (∃ v, e = .returned v) ∧ J [] W' := by
  refine callsIn_of_wp Tryz.func128 rfl trivial ?_ rfl
  simp only [Tryz.ntmps128, List.size_toArray, List.length_cons, List.length_nil, Nat.reduceAdd, Nat.reduceSub, Array.replicate_succ, Array.replicate_zero, List.push_toArray, List.append_toArray, List.nil_append, List.cons_append]
  gi_wp2
  gi_loopw [9] (fun i wr => i = .int .i64 0 ∧ J [] wr) (fun _ _ => 0)
  case atStart => exact ⟨rfl, h0⟩
  case round =>
    obtain ⟨rfl, hJs⟩ := hrel
    gi_wp2
    go_end0
    exact ⟨⟨_, rfl⟩, hJs⟩

/-- What heard's function does, for every loop's body that keeps what lay below n₀. -/
theorem heard_stops (Bs n₀ : Nat) (v : Value) (t : List ByteArray) (ht : ∀ s ∈ t, s.size ≤ 100000) (hlen : t.length ≤ 100000) (w : World) (hBs : Bs < w.heap.size) (hn₀ : n₀ ≤ w.heap.size) (hc : w.cell? ⟨Bs, 0, none⟩ = some v)
    (W0 : World) (h0 : W0.heap.size = n₀) (hW0 : Below n₀ W0 w) (hI : StrsAt W0 v t) :
    SeqStopsK Fence.wide 3 Tryz.prog 128 #[.pointer (some ⟨Bs, 0, none⟩)] (fun m : Msg => #[msgV m]) (Below n₀) (fun ys => ys = heardM t) (fun pre => pre <+: heardM t) (heardM t).length w := fun l J Jx W hW hJ _ hY hj => by
  have hc' := (hW.cell (p := ⟨Bs, 0, none⟩) hBs).trans hc
  have hn := Nat.le_trans hn₀ hW.size
  rcases hI with ⟨e0, a, cap, rfl⟩ | ⟨_, _, b, off, cap, rfl, hb, hcs⟩
  · have hl : t = [] := List.eq_nil_of_length_eq_zero e0
    subst hl
    exact (heard1_nil l Bs cap a J W hc' hj).mono fun e W' ⟨he, hh⟩ => ⟨he, .inl ⟨_, rfl, hh⟩⟩
  · rw [h0] at hb
    refine heard1_in l Bs n₀ b off cap _ t ht (Nat.le_refl _) hb W hn J Jx hJ hY hc' hlen (fun j hj => ?_) hj
    exact ((hW0.trans (hW.mono hn₀)).cell (p := ⟨b, off + j, none⟩) hb).trans (hcs j hj)

set_option maxHeartbeats 1000000 in
theorem heard_any (a : Option Addr) (n cap : Nat) (w : World) : Calls Tryz.prog 91 #[.slice a n cap] w fun e w' => e = .returned (.func (.func 128) #[] #[.pointer (some ⟨w.heap.size, 0, none⟩)]) ∧ w' = w.alloc (.cells #[.slice a n cap] 27) := by
  go_enter Tryz.func91, Tryz.ntmps91
  go_wp2
  go_ret
  exact ⟨rfl, rfl⟩
end Go.Proofs.YtpkhcehddfmhpaaGreat

namespace Go.Proofs.YtpkhcehddfmhpaaGreat
open Go.RowKit Go.Shelf

attribute [local go_sem] Oper.semAt_some

theorem with_act {P : Program} {c : Code} {Q : Exit → Act → World → Prop} {a : Act} {w : World} (h : ∀ b, b = a → c.wp P Q b w) : c.wp P Q a w := h a rfl
theorem row_own {B T : Nat} {cs : Array Value} {W W' : World} {row : Option Nat} (hr : RowAt W B T cs) (hg : W.grownBy W' row) (hrow : ∀ r, row = some r → ∃ o : Obj, W.heap[r]? = some o ∧ o.isCells = false) : RowAt W' B T cs :=
  (hg.block B (lt_of_block hr) (fun e => by
    obtain ⟨o, ho, hc⟩ := hrow B e.symm
    unfold RowAt at hr
    rw [hr] at ho
    cases ho
    cases hc)).trans hr

theorem room_own {w : World} {base T S n : Nat} {v : Value} {xs : List Value} (h : w.ownsRow base T S v n xs) : RoomOk v := by
  intro a n' c e
  rcases h.2 with ⟨rfl, _⟩ | ⟨g, cap, cur, rfl, _, _, hc, _⟩
  · cases e
    exact Nat.le_refl _
  · cases e
    exact hc
/-- A wire in memory of its own types. -/
structure WireT (w : World) (dv fv lv : Value) (y : Wre) : Prop where
  devs : DevsAt w dv y.devs
  faults : IntsAt w fv y.faults
  late : StrsAt w lv y.late
  td : Typed w dv 91
  tf : Typed w fv 3
  tl : Typed w lv 9
  nil : NilOne lv
  room : RoomOk fv
theorem WireT.run {w w' : World} {dv fv lv : Value} {y : Wre} (h : WireT w dv fv lv y) (hb : Below w.heap.size w w') : WireT w' dv fv lv y :=
  ⟨h.devs.below hb, h.faults.run hb, h.late.runM hb, h.td.run hb, h.tf.run hb, h.tl.run hb, h.nil, h.room⟩
theorem cell_run {w w' : World} (hb : Below w.heap.size w w') {p : Addr} {v : Value} (h : w.cell? p = some v) : w'.cell? p = some v := by
  refine (hb.cell (p := p) ?_).trans h
  by_cases hlt : p.block < w.heap.size
  · exact hlt
  · have e : w.heap[p.block]? = none := Array.getElem?_eq_none (by omega)
    unfold World.cell? at h
    rw [e] at h
    cases h
theorem devs_few2 {l : List Dev} (h : devsE l = 0) : l.length ≤ 64 ∧ ∀ d ∈ l, chkD d = 0 := by
  unfold devsE at h
  split at h
  · omega
  · exact ⟨by omega, dErr_all h⟩
theorem ints_tail {w w' : World} {fb fo fk : Nat} {f : Int} {rest : List Int} (hb : Below w.heap.size w w') (hlt : fb < w.heap.size) (hc : ∀ j, j < (rest.length + 1) * 1 → w.cell? ⟨fb, fo + j, none⟩ = i64C (f :: rest) j) (hn : rest.length ≤ 5000) : IntsAt w' (.slice (some ⟨fb, fo + 1, none⟩) rest.length fk) rest := by
  by_cases h0 : rest.length = 0
  · exact .inl ⟨h0, _, _, by rw [h0]⟩
  · refine .inr ⟨by omega, ?_, fb, fo + 1, fk, rfl, Nat.lt_of_lt_of_le hlt hb.size, fun j hj => ?_⟩
    · omega
    · refine (hb.cell (p := ⟨fb, fo + 1 + j, none⟩) hlt).trans ?_
      have := hc (j + 1) (by omega)
      rw [show fo + (j + 1) = fo + 1 + j from by omega] at this
      rw [this]
      simp [i64C]
theorem bus_right2 {l : List Dev} {m : Msg} (h : devsE l = 0) (hm : chk m = 0) : busE l m = 0 ∧ busD l m = sentD l m ∧ busA l m = sentA l m := by
  have h0 : busE l m = 0 := by simp [busE, h, hm]
  exact ⟨h0, by simp [busD, h0], by simp [busA, h0]⟩
theorem seq_shape {w : World} {S n : Nat} {v : Value} {cs : Nat → Option Value} (h : SeqAt w S v n cs) : ∃ a cap, v = .slice a n cap := by
  rcases h with ⟨rfl, a, cap, rfl⟩ | ⟨_, _, b, off, cap, rfl, _⟩ <;> exact ⟨_, _, rfl⟩
/-- A session in memory. -/
def sesA (x : Mgr) (dv fv lv : Value) : Array Value := #[.int .u64 x.id, .int .i64 x.seq, .int .i64 x.tries, dv, fv, lv]
theorem typed_upd {w w' : World} {v : Value} {T s U : Nat} {cs : Array Value} (h : Typed w v T) (hr : RowAt w s U cs) (hne : T ≠ U) (hu : Upd s w w') : Typed w' v T :=
  h.same fun k cur x hg => hu.block k (lt_of_block hg) (fun e => by
    cases e
    unfold RowAt at hr
    rw [hr] at hg
    cases hg
    exact hne rfl)
theorem seq_upd {w w' : World} {S n : Nat} {v : Value} {cs : Nat → Option Value} {T s U : Nat} {row : Array Value} (h : SeqAt w S v n cs) (ht : Typed w v T) (hr : RowAt w s U row) (hne : T ≠ U) (hu : Upd s w w') : SeqAt w' S v n cs :=
  SeqAt.same h hu.size fun b off cap e _ _ => by
    obtain ⟨-, cur, x, hg⟩ := ht _ _ _ e
    refine hu.block b (lt_of_block hg) (fun e => ?_)
    cases e
    unfold RowAt at hr
    rw [hr] at hg
    cases hg
    exact hne rfl
theorem WireT.upd {w w' : World} {dv fv lv : Value} {y : Wre} {s : Nat} {cs : Array Value} (h : WireT w dv fv lv y) (hr : RowAt w s 85 cs) (hu : Upd s w w') : WireT w' dv fv lv y :=
  ⟨seq_upd h.devs h.td hr (by decide) hu, seq_upd h.faults h.tf hr (by decide) hu, seq_upd h.late h.tl hr (by decide) hu, typed_upd h.td hr (by decide) hu, typed_upd h.tf hr (by decide) hu, typed_upd h.tl hr (by decide) hu, h.nil, h.room⟩

/-- Messages lie elsewhere. -/
theorem msgs_upd {w w' : World} {s : Nat} {v : Value} {l : List Msg} {x : Mgr} {da fa la : Option Addr} {dn dc fn fc ln lc : Nat} (h : MsgsAt w v l) (hr : RowAt w s 85 (sesA x (.slice da dn dc) (.slice fa fn fc) (.slice la ln lc))) (hu : Upd s w w') : MsgsAt w' v l :=
  SeqAt.same h hu.size fun b off cap e h0 hc => by
    have q0 : w.cell? ⟨b, off + 0, none⟩ = some (.int .u64 (l[0]'h0).dst) := by
      rw [hc 0 (by omega)]
      simp [msgsC, List.getElem?_eq_getElem h0, msgA]
    have q1 : w.cell? ⟨b, off + 1, none⟩ = some (.int .u64 (l[0]'h0).src) := by
      rw [hc 1 (by omega)]
      simp [msgsC, List.getElem?_eq_getElem h0, msgA]
    have hlt : b < w.heap.size := by
      by_cases hlt : b < w.heap.size
      · exact hlt
      · unfold World.cell? at q0
        rw [show w.heap[(⟨b, off + 0, none⟩ : Addr).block]? = none from Array.getElem?_eq_none (by show w.heap.size ≤ b; omega)] at q0
        cases q0
    refine hu.block b hlt (fun e => ?_)
    cases e
    rw [cell_fact hr] at q0 q1
    rcases off with _ | _ | _ | _ | _ | _ | off
    · simp [sesA] at q1
    all_goals simp [sesA] at q0

set_option maxHeartbeats 1000000 in
theorem faults_any (w : World) : Calls Tryz.prog 89 #[] w fun e w' => e = .returned (.agg #[.func (.func 121) #[] #[], .func (.func 122) #[] #[], .func (.func 123) #[] #[], .func (.func 124) #[] #[], .func (.func 126) #[] #[]]) ∧ Below w.heap.size w w' := by
  go_enter Tryz.func89, Tryz.ntmps89
  go_wp2
  refine bodyPost_ret (v := .agg #[.func (.func 121) #[] #[], .func (.func 122) #[] #[], .func (.func 123) #[] #[], .func (.func 124) #[] #[], .func (.func 126) #[] #[]]) ?_ rfl ⟨rfl, ?_⟩
  · simp [results, Tryz.results89, go_sem]
  · (repeat' (first | (with_reducible exact Below.refl _ _) | (with_reducible assumption) | (with_reducible refine below_drewN ?_ _) | (with_reducible refine Below.drew ?_) | (with_reducible refine Below.setCell ?_ ?_ _) | (with_reducible refine Below.alloc ?_ ?_ _) | (with_reducible refine below_after ?_ ?_ (by assumption)) | (show _ ≤ _; first | omega | (simp; done) | (simp; omega))))

theorem fault_at0 (w : World) : (Instr.index 167 (.agg #[.func (.func 121) #[] #[], .func (.func 122) #[] #[], .func (.func 123) #[] #[], .func (.func 124) #[] #[], .func (.func 126) #[] #[]]) (.int .i64 0)).run Tryz.prog w = .ok (.func (.func 121) #[] #[]) w := by kernel_rfl
theorem fault_at1 (w : World) : (Instr.index 167 (.agg #[.func (.func 121) #[] #[], .func (.func 122) #[] #[], .func (.func 123) #[] #[], .func (.func 124) #[] #[], .func (.func 126) #[] #[]]) (.int .i64 1)).run Tryz.prog w = .ok (.func (.func 122) #[] #[]) w := by kernel_rfl
theorem fault_at2 (w : World) : (Instr.index 167 (.agg #[.func (.func 121) #[] #[], .func (.func 122) #[] #[], .func (.func 123) #[] #[], .func (.func 124) #[] #[], .func (.func 126) #[] #[]]) (.int .i64 2)).run Tryz.prog w = .ok (.func (.func 123) #[] #[]) w := by kernel_rfl
theorem fault_at3 (w : World) : (Instr.index 167 (.agg #[.func (.func 121) #[] #[], .func (.func 122) #[] #[], .func (.func 123) #[] #[], .func (.func 124) #[] #[], .func (.func 126) #[] #[]]) (.int .i64 3)).run Tryz.prog w = .ok (.func (.func 124) #[] #[]) w := by kernel_rfl
theorem fault_at4 (w : World) : (Instr.index 167 (.agg #[.func (.func 121) #[] #[], .func (.func 122) #[] #[], .func (.func 123) #[] #[], .func (.func 124) #[] #[], .func (.func 126) #[] #[]]) (.int .i64 4)).run Tryz.prog w = .ok (.func (.func 126) #[] #[]) w := by kernel_rfl

def SendPost (s : Nat) (x : Mgr) (r : Rqs) (y : Wre) (w : World) (e : Ending) (w' : World) : Prop :=
  ∃ v dv fv lv, e = .returned v ∧ MsgsAt w' v (hearW x r y) ∧ RowAt w' s 85 (sesA (nextM x) dv fv lv) ∧ WireT w' dv fv lv (sendW x r y) ∧ Upd s w w'

set_option maxHeartbeats 4000000 in
set_option maxRecDepth 100000 in
theorem send_none (s : Nat) (x : Mgr) (dst kind par : Int) (dat : ByteArray) (y : Wre) (dv fv lv : Value) (w : World) (h : RowAt w s 85 (sesA x dv fv lv)) (hw : WireT w dv fv lv y) (hf : y.faults = [])
    (hd : devsE y.devs = 0) (hm : chk (ofM x ⟨dst, kind, par, dat⟩) = 0) (q0 : 0 ≤ x.seq) (q1 : x.seq ≤ 255) (hl : y.late.length ≤ 64) (hs : ∀ t ∈ y.late, t.size ≤ 4096) :
    Calls Tryz.prog 68 #[.pointer (some ⟨s, 0, none⟩), .agg #[.int .u64 dst, .int .i64 kind, .int .i64 par, .string dat]] w (SendPost s x ⟨dst, kind, par, dat⟩ y w) := by
  obtain ⟨devs, faults, late⟩ := y
  obtain ⟨id, seq, tries⟩ := x
  dsimp only at hf hd hl hs q0 q1
  subst hf
  obtain ⟨fa, fc, rfl⟩ : ∃ fa fc, fv = .slice fa 0 fc := seq_shape hw.faults
  obtain ⟨da, dc, rfl⟩ : ∃ da dc, dv = .slice da devs.length dc := seq_shape hw.devs
  obtain ⟨la, lc, rfl⟩ : ∃ la lc, lv = .slice la late.length lc := seq_shape hw.late
  obtain ⟨W1, hW1⟩ : ∃ W1, w.alloc (.cells #[.int .u64 dst, .int .i64 kind, .int .i64 par, .string dat] 33 (0, 0)) = W1 := ⟨_, rfl⟩
  have hr1 : RowAt W1 s 85 (sesA ⟨id, seq, tries⟩ (.slice da devs.length dc) (.slice fa 0 fc) (.slice la late.length lc)) := hW1 ▸ h.alloc _
  have hq1 : RowAt W1 w.heap.size 33 #[.int .u64 dst, .int .i64 kind, .int .i64 par, .string dat] := hW1 ▸ RowAt.new w _ _
  have hu1 : Below w.heap.size w W1 := hW1 ▸ (Below.refl _ _).alloc (Nat.le_refl _) _
  have hw1 := hw.run hu1
  obtain ⟨x1, x2, x3, x4, x5, x6⟩ := row_facts hr1
  obtain ⟨y1, y2, y3, y4, y5, y6⟩ := row_facts hq1
  have c0 := cell_fact hr1 0
  have c1 := cell_fact hr1 1
  have c2 := cell_fact hr1 2
  have c3 := cell_fact hr1 3
  have c4 := cell_fact hr1 4
  have c5 := cell_fact hr1 5
  simp only [sesA] at c0 c1 c2 c3 c4 c5
  have d0 := cell_fact hq1 0
  have d1 := cell_fact hq1 1
  have d2 := cell_fact hq1 2
  have d3 := cell_fact hq1 3
  have HM := Lib.hid hm
  have HDV := Lib.hid hd
  have HR1 := Lib.hid hr1
  have HQ1 := Lib.hid hq1
  have HU1 := Lib.hid hu1
  have HW1 := Lib.hid hw1
  obtain ⟨r1, r2, r3⟩ := bus_right2 hd hm
  have C := Lib.hid (fun W => bus2_any (.slice da devs.length dc) devs dst id seq kind par dat W)
  simp only [ofM] at r1 r2 r3
  rw [r1, r2, r3] at C
  clear x1 y1 h hw hm hd hr1 hq1 hu1 hw1 r1 r2 r3
  refine (callsIn_wide (n := 3)).1 (callsIn_of_wp_marks Tryz.func68 rfl trivial ?_ rfl)
  refine wpIn_wide.2 ?_
  simp only [Tryz.ntmps68, List.size_toArray, List.length_cons, List.length_nil, Nat.reduceAdd, Nat.reduceSub, Array.replicate_succ, Array.replicate_zero, List.push_toArray, List.append_toArray, List.nil_append, List.cons_append]
  go_wp2_with fail
  go_region_held3 (fun w' => w'.cell? ⟨s, 0, none⟩ = some (.int .u64 id) ∧ w'.cell? ⟨s, 1, none⟩ = some (.int .i64 seq) ∧ w'.cell? ⟨s, 2, none⟩ = some (.int .i64 tries) ∧ w'.cell? ⟨s, 3, none⟩ = some (.slice da devs.length dc) ∧ w'.cell? ⟨w.heap.size, 0, none⟩ = some (.int .u64 dst) ∧ w'.cell? ⟨w.heap.size, 1, none⟩ = some (.int .i64 kind) ∧ w'.cell? ⟨w.heap.size, 2, none⟩ = some (.int .i64 par) ∧ w'.cell? ⟨w.heap.size, 3, none⟩ = some (.string dat)) (first | go_keep | (refine ⟨?_, ?_, ?_, ?_, ?_, ?_, ?_, ?_⟩ <;> exact cell_run hba (by assumption)) | (refine ⟨?_, ?_, ?_, ?_, ?_, ?_, ?_, ?_⟩ <;> exact cell_run hb3 (cell_run (w := W1.drew) hba (by assumption))))
    (first | (go_at_call 67; refine (mof_any _ _ _ _ _ _ _ _).mono ?_; rintro e wa ⟨rfl, hba⟩; skip) | (go_at_call 88; refine (C.out _ (by exact DevsAt.below (w := W1.drew) HW1.out.devs hba)).mono ?_; rintro e w3 ⟨v1, v2, rfl, hd3, ha3, hb3, ht3⟩; skip))
  clear c0 c1 c2 c3 c4 c5 d0 d1 d2 d3 x2 x3 x4 x5 x6 y2 y3 y4 y5 y6 C
  obtain ⟨a1, k1, rfl⟩ := seq_shape hd3
  obtain ⟨a2, k2, rfl⟩ := seq_shape ha3
  have hb13 : Below W1.heap.size W1 w3 := Below.trans (show Below W1.heap.size W1 wa from ⟨hba.os, hba.tape, hba.output, hba.size, hba.block⟩) (hb3.mono hba.size)
  have HR3 : RowAt w3 s 85 _ := HR1.out.run hb13
  obtain ⟨W4, hW4⟩ : ∃ W4, w3.setCell ⟨s, 3, none⟩ (.slice a1 (sentD devs ⟨dst, id, seq, kind, par, dat⟩).length k1) = W4 := ⟨_, rfl⟩
  have hU34 : Upd s w3 W4 := hW4 ▸ upd_set (upd_refl s w3) 3 _
  have HU4 := Lib.hid (upd_upd (upd_below (upd_below (upd_drew (upd_below (upd_refl s w) HU1.out)) hba) hb3) hU34)
  have hT3 : WireT w3 (.slice a1 (sentD devs ⟨dst, id, seq, kind, par, dat⟩).length k1) (.slice fa 0 fc) (.slice la late.length lc) ⟨sentD devs ⟨dst, id, seq, kind, par, dat⟩, [], late⟩ :=
    ⟨hd3, (HW1.out.run hb13).faults, (HW1.out.run hb13).late, ht3, (HW1.out.run hb13).tf, (HW1.out.run hb13).tl, HW1.out.nil, HW1.out.room⟩
  have HT4 := Lib.hid (WireT.upd hT3 HR3 hU34)
  have HR4 : RowAt W4 s 85 (sesA ⟨id, seq, tries⟩ (.slice a1 (sentD devs ⟨dst, id, seq, kind, par, dat⟩).length k1) (.slice fa 0 fc) (.slice la late.length lc)) := hW4 ▸ RowAt.set HR3 rfl
  obtain ⟨x1, x2, x3, x4, x5, x6⟩ := row_facts HR3
  have c3 := cell_fact HR3 3
  simp only [sesA] at c3
  have hA1 : (sentA devs ⟨dst, id, seq, kind, par, dat⟩).length ≤ 64 := Nat.le_trans (sentA_length _ _) (devs_few2 HDV.out).1
  have hAc := fun a ha => (sent_answers (devs_few2 HDV.out).2 HM.out a ha).1
  obtain ⟨A, hA⟩ : ∃ A, sentA devs ⟨dst, id, seq, kind, par, dat⟩ = A := ⟨_, rfl⟩
  simp only [ofM] at hAc
  rw [hA] at ha3 hA1 hAc ⊢
  have hA0 : (A.length : Int) ≤ 64 := by omega
  have HA3 := Lib.hid (msgs_upd ha3 HR3 hU34)
  have HR4h := Lib.hid HR4
  have HAC := Lib.hid hAc
  have HA := Lib.hid hA
  have hlt4 : s < W4.heap.size := lt_of_block HR4
  obtain ⟨i0, hi, hz0, hz1, hz2⟩ := info_parts Tryz.info_strH
  clear hba hb3 hd3 ha3 ht3 hb13 hU34 hT3 HR3 HR4 x1 hAc hA
  go_wp2_with fail
  clear c3 x2 x3 x4 x5 x6 hW4
  go_loopw [6, 69] (fun vt i wr => ∃ k : Nat, k ≤ A.length ∧ i = .int .i64 k ∧ wr.ownsRow W4.heap.size 9 1 vt k (strsV ((A.map txtM).take k)) ∧ Below W4.heap.size W4 wr) (fun _ i _ => A.length - (intOf i).toNat)
  case atStart => exact ⟨0, Nat.zero_le _, rfl, World.ownsRow_nil _ _ _ _, Below.refl _ _⟩
  case round =>
    obtain ⟨k, hk, rfl, hown, hb0⟩ := hrel
    by_cases hlt2 : k < A.length
    · have hlt3 : (k : Int) < (A.length : Int) := by omega
      have hw1 : ∃ b off cap, Value.slice a2 A.length k2 = .slice (some ⟨b, off, none⟩) A.length cap ∧ ∀ j, j < A.length * 6 → wr.cell? ⟨b, off + j, none⟩ = msgsC A j := by
        rcases HA3.out with ⟨e0, _⟩ | ⟨_, _, b, off, cap, e, hlt, hc⟩
        · omega
        · exact ⟨b, off, cap, e, fun j hj => (hb0.cell (p := ⟨b, off + j, none⟩) hlt).trans (hc j hj)⟩
      obtain ⟨b, off, cap, e, hw1⟩ := hw1
      cases e
      obtain ⟨a, ha, e0, e1, e2, e3, e4, e5⟩ := msg_cells hw1 k hlt2
      have hca := HAC.out a (List.mem_of_getElem? ha)
      have C : Hid (∀ W, Calls Tryz.prog 13 #[.agg #[.int .u64 a.dst, .int .u64 a.src, .int .i64 a.seq, .int .i64 a.kind, .int .i64 a.par, .string a.dat]] W fun e w' => e = .returned (.tuple #[.string (txtM a), .int .i64 0]) ∧ Below W.heap.size W w') := fun W => (enc_any a.dst a.src a.seq a.kind a.par a.dat W).mono fun e w' ⟨s, n, he, hh, hb⟩ => by
        have := hh.out
        rw [encM, if_neg (not_not_intro hca)] at this
        cases this
        exact ⟨he, hb⟩
      have hT : strsV ((A.map txtM).take (k + 1)) = strsV ((A.map txtM).take k) ++ [.string (txtM a)] := by
        rw [take_succ_some (show (A.map txtM)[k]? = some (txtM a) from by simp [ha])]
        simp [strsV]
      have HT := Lib.hid hT
      obtain ⟨t, ht⟩ : ∃ t, txtM a = t := ⟨_, rfl⟩
      rw [ht] at C HT
      clear hw1 hca ha hT ht
      go_wp2_with fail
      refine (C.out _).mono ?_
      rintro e w1 ⟨rfl, hb1⟩
      have hb1' : Below wr.heap.size wr w1 := below_run ((Below.refl _ _).alloc (Nat.le_refl _) _) hb1
      have own1 := own_run hown hb1'
      have hbw := below_run hb0 hb1'
      have hz1' := hbw.size
      clear hown hb0 hb1 hb1' e0 e1 e2 e3 e4 e5
      go_wp2_with (at_builtin; refine wpList_append_own _ rfl (.tmp 78) (.tmp 80) 27 rfl W4.heap.size 9 i0 _ 1 16 Tryz.underlying27 hi hz0 hz1 hz2 rfl (by decide) _ _ _ rfl (own1.alloc _) ⟨w1.heap.size, 0, none⟩ 1 1 [.string t] rfl rfl ?c1 ?c2 ?c3 ?c4 ?c5 ?_)
      case c1 =>
        intro j u hj
        match j, hj with
        | 0, hj =>
          simp at hj
          subst hj
          have hr0 : RowAt (w1.alloc (.cells #[.string t] 9)) w1.heap.size 9 #[.string t] := RowAt.new _ _ _
          exact (row_facts hr0).1 0
      case c2 => intro u hu; simp at hu; subst hu; rfl
      case c3 => unfold maxLen; omega
      case c4 => omega
      case c5 => simp; omega
      · intro v' w4 hown1 hgrow _
        have hb4 := below_grown (hbw.alloc (by omega) _) (own1.alloc _) (by omega) hgrow (by simp; omega)
        clear own1 hgrow hbw
        go_wp2
        go_roundw
        case rel =>
          refine ⟨k + 1, by omega, by go_num, ?_, hb4⟩
          rw [HT.out]
          exact hown1
        case measure => simp [intOf]; omega
    · obtain rfl : k = A.length := by omega
      rw [List.take_of_length_le (by simp)] at hown
      go_wp2_with fail
      refine (faults_any wr).mono ?_
      rintro e w5 ⟨rfl, hb5⟩
      have hown5 := own_run hown hb5
      have hb45 : Below W4.heap.size W4 w5 := hb0.trans (hb5.mono hb0.size)
      obtain ⟨ta, tn, tc, rfl⟩ : ∃ ta tn tc, u6 = .slice ta tn tc := by
        rcases hown.2 with ⟨rfl, _⟩ | ⟨g, cap, cur, rfl, _⟩ <;> exact ⟨_, _, _, rfl⟩
      clear hown hb0 hb5
      have HR5 := HR4h.out.run hb45
      have HST := Lib.hid (strs_of hown5 (by simp) (by omega))
      have HNL := Lib.hid (nilone_own hown5)
      obtain ⟨x1, x2, x3, x4, x5, x6⟩ := row_facts HR5
      have c5 := cell_fact HR5 5
      simp only [sesA] at c5
      obtain ⟨W6, hW6⟩ : ∃ W6, w5.alloc (.cells #[.slice la late.length lc, .slice ta tn tc] 27) = W6 := ⟨_, rfl⟩
      have HQ6 : RowAt W6 w5.heap.size 27 #[.slice la late.length lc, .slice ta tn tc] := hW6 ▸ RowAt.new _ _ _
      have hb56 : Below w5.heap.size w5 W6 := hW6 ▸ (Below.refl _ _).alloc (Nat.le_refl _) _
      have hb46 : Below W4.heap.size W4 W6 := hb45.trans (hb56.mono hb45.size)
      have CC := Lib.hid (concat_two w5.heap.size la ta late.length lc tn tc late (A.map txtM) W6 HQ6 (HT4.out.late.runM hb46) (HST.out.runM hb56) HT4.out.nil HNL.out (by omega) (by simp; omega))
      have HB46 := Lib.hid hb46
      clear hown5 HR5 x1 HQ6 hb56 hb45 hb46
      have qi := fault_at0
      go_wp2_with fail
      refine (fault1_any _ _).mono ?_
      rintro e w5' ⟨rfl, rfl⟩
      go_wp2_with fail
      refine (CC.out).mono ?_
      rintro e w7 ⟨v7, rfl, ho7, hb7⟩
      clear qi c5 x2 x3 x4 x5 x6 hW6
      have hb47 : Below W4.heap.size W4 w7 := HB46.out.trans (hb7.mono HB46.out.size)
      have HR7 := HR4h.out.run hb47
      obtain ⟨x1, x2, x3, x4, x5, x6⟩ := row_facts HR7
      have c5 := cell_fact HR7 5
      have c1 := cell_fact HR7 1
      simp only [sesA] at c5 c1
      have hw1 : (seq + 1).tmod 256 = (seq + 1) % 256 := Int.tmod_eq_emod_of_nonneg (by omega)
      clear x1
      go_wp2_with fail
      obtain ⟨pa, pn, pc, rfl⟩ : ∃ pa pn pc, v7 = .slice pa pn pc := by
        rcases ho7.2 with ⟨rfl, _⟩ | ⟨g, cap, cur, rfl, _⟩ <;> exact ⟨_, _, _, rfl⟩
      have hU7 : Upd s w w7 := upd_below HU4.out hb47
      obtain ⟨W9, hW9⟩ : ∃ W9, (w7.setCell ⟨s, 5, none⟩ (.slice none 0 0)).setCell ⟨s, 1, none⟩ (.int .i64 ((seq + 1) % 256)) = W9 := ⟨_, rfl⟩
      have hU79 : Upd s w7 W9 := hW9 ▸ upd_set (upd_set (upd_refl s w7) 5 _) 1 _
      have HR9 : RowAt W9 s 85 (sesA ⟨id, (seq + 1) % 256, tries⟩ (.slice a1 (sentD devs ⟨dst, id, seq, kind, par, dat⟩).length k1) (.slice fa 0 fc) (.slice none 0 0)) := hW9 ▸ RowAt.set (RowAt.set HR7 rfl) rfl
      have hT9 := WireT.upd (HT4.out.run hb47) HR7 hU79
      have hS7 : StrsAt w7 (.slice pa pn pc) (late ++ A.map txtM) := strs_of ho7 (by simp) (by simp; omega)
      have hS9 := seq_upd hS7 (typed_own ho7) HR7 (by decide) hU79
      have HU9 := Lib.hid (upd_upd hU7 hU79)
      have HR9h := Lib.hid HR9
      have HT9 := Lib.hid hT9
      have HS9 := Lib.hid hS9
      have hlt9 : s < W9.heap.size := lt_of_block HR9
      have HTX : Hid (∀ t ∈ late ++ A.map txtM, t.size ≤ 100000) := fun t ht => by
        rcases List.mem_append.1 ht with h | h
        · have := hs t h
          omega
        · obtain ⟨a, ha, rfl⟩ := List.mem_map.1 h
          have h1 := (small_of_chk (HAC.out a ha)).2.2.2.2.2.2.2.2.2.2
          have h2 : (txtM a).size = (madeL a).length := by simp [txtM, str_size]
          rw [h2, madeL_length]
          omega
      clear c1 c5 x2 x3 x4 x5 x6 HR9 hT9 hS7 hS9 hU79 hU7 HR7 hb47 ho7 hb7
      refine (heard_any pa pn pc _).mono ?_
      rintro e w11 ⟨rfl, rfl⟩
      go_wp2_with fail
      obtain ⟨i1, hi', hz0', hz1', hz2'⟩ := info_parts Tryz.info_msg
      have hz9 : W9.heap.size = w7.heap.size := by rw [← hW9]; simp
      refine with_act fun act hact => ?_
      refine (wpIn_wide (n := 4)).1 ?_
      refine wpIn_rangeFunc_ownH rfl (by decide) (gf := 128) (lb := #[.pointer (some ⟨W9.heap.size + 1, 0, none⟩)]) (by rw [hact, hz9]; rfl) trivial (enters_of Tryz.func128 (by kernel_rfl) rfl)
        (heard_stops (W9.heap.size + 1) W9.heap.size (.slice pa pn pc) (late ++ A.map txtM) HTX.out (by simp; omega) ((W9.alloc (.cells #[.slice none 0 0] 138)).alloc (.cells #[.slice pa pn pc] 27)) (by simp) (by simp; omega) (cell_fact (RowAt.mk (w := W9.alloc (.cells #[.slice none 0 0] 138)) (b := W9.heap.size + 1) (T := 27) (cs := #[.slice pa pn pc]) (by simp) rfl) 0) W9 rfl (((Below.refl _ W9).alloc (Nat.le_refl _) _).alloc (by simp) _) HS9.out)
        belowK_t (belowK_b (by simp; omega)) (Below.refl _ _) (fun _ => rfl)
        (fun pre W => (∃ v, Boxed W w7.heap.size 138 v ∧ W.ownsRow W9.heap.size 52 6 v pre.length (msgsL pre) ∧ True) ∧ Below W9.heap.size W9 W)
        (fun _ _ _ => False)
        (OwnFrom.and (Own.from (holdsRow_own _ _ _ _ _ (fun pre => List.length pre) (fun pre => msgsL pre) (fun _ _ => True)) _) (ownFrom_below (Nat.le_refl _) (by simp; omega)))
        (fun _ _ _ _ _ hs _ _ => hs)
        ⟨⟨_, (Boxed.new W9 _ _).alloc _ |> (hz9 ▸ ·), World.ownsRow_nil _ _ _ _, trivial⟩, ((Below.refl _ W9).alloc (Nat.le_refl _) _).alloc (by simp) _⟩
        (fun x a' W => ∃ Bx, w7.heap.size < Bx ∧ RowAt W Bx 52 (msgA x) ∧ a' = { tmps := (act.tmps.setIfInBounds 117 (msgV x)).setIfInBounds 18 (.pointer (some ⟨Bx, 0, none⟩)), defers := [] })
        (fun x a' _ X Y row ⟨Bx, h1, hr, e⟩ hg hrow => ⟨Bx, h1, row_own hr hg (fun r e => (hrow r e).2), e⟩) ?assign ?body ?done ?stop
      case assign =>
        rintro l pre x W K ⟨⟨v, hv, hrow, -⟩, hB⟩ hK
        subst hact
        gi_wp2
        refine hK _ _ ((KeepsOthers.alloc _ _).from _) ((Below.refl _ W).alloc hB.size _) ⟨⟨v, hv.alloc _, hrow.alloc _, trivial⟩, hB.alloc hB.size _⟩ ⟨W.heap.size, hv.lt, RowAt.new _ _ _, ?_⟩
        simp [msgV]
      case body =>
        rintro l pre x a' W hl ⟨r, hr⟩ ⟨⟨v, hv, hrow, -⟩, hB⟩ ⟨Bx, hBx, bX, rfl⟩ hlt
        subst hact
        have hN : pre.length < 128 := by
          have h1 : (heardM (late ++ A.map txtM)).length ≤ (late ++ A.map txtM).length := List.length_filterMap_le _ _
          simp at h1
          omega
        have hc := hv.cell
        have hf := hv.frozen
        have m0 := cell_fact bX 0
        have m1 := cell_fact bX 1
        have m2 := cell_fact bX 2
        have m3 := cell_fact bX 3
        have m4 := cell_fact bX 4
        have m5 := cell_fact bX 5
        simp only [msgA] at m0 m1 m2 m3 m4 m5
        obtain ⟨x1, x2, x3, x4, x5, x6⟩ := row_facts bX
        clear x1
        have hBs := hB.size
        gi_wp2_with (gi_at_builtin; refine wpListIn_append_own _ rfl _ _ 138 rfl W9.heap.size 52 i1 _ 6 56 Tryz.underlying138 hi' hz0' hz1' hz2' rfl (by decide) _ _ _ rfl (hrow.alloc _) ⟨W.heap.size, 0, none⟩ 1 1 (msgA x).toList rfl rfl ?e1 (msg_ones x) ?e3 ?e4 ?e5 ?_)
        case e1 => first | exact msg_news (d := x) (RowAt.mk (by first | rfl | simp) rfl) | (intro j u hj; simpa [msgA] using hj)
        case e3 => unfold maxLen; omega
        case e4 => omega
        case e5 => first | omega | (simp; omega)
        · intro v' w1 hown' hgrow _
          obtain ⟨g', cap', rfl⟩ := ownsRow_succ hown'
          rw [← hz9] at hown'
          obtain ⟨hv1, hv2, hr2, hk2, hb2⟩ := hv.appended (by decide) hrow hB.size (by omega) hown' hgrow
          have hc1 := hv1.cell
          have hf1 := hv1.frozen
          gi_wp2
          exact ⟨hk2.from _, hb2, ⟨⟨_, hv2, by simpa [msgsL_append, msgsL] using hr2, trivial⟩, hB.trans hb2⟩⟩
      case done =>
        rintro D ys W hD rfl ⟨⟨v, hv, hrow, -⟩, hB⟩ hK
        have hc := hv.cell
        subst hact
        go_wp2_with fail
        refine ⟨by simp, .inl ⟨_, _, rfl, run_takeDeferred hK, ?_⟩⟩
        refine ⟨_, results_tmp rfl _ _ _, ?_⟩
        have hBE : Below W9.heap.size W9 (W.putObj D (.deferred none)) := hB.trans (belowK_b (w := W9) (Nat.le_refl _) W D _ _ (by simp at hD; omega) hK rfl rfl)
        have hT := HT9.out.run hBE
        have hhear : hearW ⟨id, seq, tries⟩ ⟨dst, kind, par, dat⟩ ⟨devs, [], late⟩ = heardM (late ++ A.map txtM) := by
          simp [hearW, nowW, faultW, textsW, ofM, HA.out]
        have hsend : sendW ⟨id, seq, tries⟩ ⟨dst, kind, par, dat⟩ ⟨devs, [], late⟩ = ⟨sentD devs ⟨dst, id, seq, kind, par, dat⟩, [], []⟩ := by
          simp [sendW, lateW, faultW, ofM]
        unfold SendPost
        rw [hhear, hsend]
        refine ⟨v, _, _, _, rfl, own_msgs (ownsRow_putObj hrow _ hK rfl) (Nat.le_trans (List.length_filterMap_le _ _) (by simp; omega)), HR9h.out.run hBE, ⟨hT.devs, hT.faults, .inl ⟨rfl, _, _, rfl⟩, hT.td, hT.tf, typed_nil _ _ _ _, nilone_nil, hT.room⟩, upd_below HU9.out hBE⟩
      case stop =>
        rintro D c pre W _ _ h _
        exact h.elim
end Go.Proofs.YtpkhcehddfmhpaaGreat
