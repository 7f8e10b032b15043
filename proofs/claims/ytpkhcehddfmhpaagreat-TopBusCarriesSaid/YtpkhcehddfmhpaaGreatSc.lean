/-
  A search that goes on, in the program's memory.
  A message is sent in a search; an order, and whether an answer matches it.
  A device is muted in a search; an identity is noted.
-/
import Derived.Test.YtpkhcehddfmhpaaGreatSk
import Derived.Test.YtpkhcehddfmhpaaGreatBusX
import Derived.Test.YtpkhcehddfmhpaaGreatRecv
import Derived.Test.YtpkhcehddfmhpaaGreatDl
namespace Go.Proofs.YtpkhcehddfmhpaaGreat
open Go.RowKit

/-- The cells of a search. -/
def srchA (vd vf : Value) (src seq : Int) (m : Nat) (n : Int) : Array Value := #[vd, .int .u64 src, .int .i64 seq, .map (some m), vf, .int .i64 n]
/-- A block is a search: its devices, what is known to it (in a map), what was found. -/
structure SAt (w : World) (B s m : Nat) (src : Int) (t : SSt) (K : List Int) : Prop where
  ex : ∃ vd vf, RowAt w s 151 (srchA vd vf src t.seq m (IntKind.i64.wrap t.msgs)) ∧ DevsAt w vd t.devs ∧ w.ownsRow B 22 1 vf t.found.length (u64L t.found) ∧ Typed w vd 91 ∧ (t.found = [] → vf = .slice none 0 0)
  seen : SeenAt w m K

/-- What a call may change: the search, its map, and what was found. -/
structure StirX (q : Bool) (A B s : Nat) (w w' : World) : Prop where
  below : Below A w w'
  rows : ∀ k T cs, RowAt w k T cs → k ≠ s → (q = true ∨ T ≠ 22 ∨ k < B) → RowAt w' k T cs
/-- What was found may change, or not. -/
abbrev Stir (A B s : Nat) (w w' : World) : Prop := StirX false A B s w w'
abbrev Still (A B s : Nat) (w w' : World) : Prop := StirX true A B s w w'
theorem StirX.weak {A B s : Nat} {w w' : World} (h : Still A B s w w') : Stir A B s w w' := ⟨h.below, fun k T cs hr h1 _ => h.rows k T cs hr h1 (.inl rfl)⟩

theorem stir_refl {q : Bool} (A B s : Nat) (w : World) : StirX q A B s w w := ⟨Below.refl _ _, fun _ _ _ h _ _ => h⟩
theorem stir_run {q : Bool} {A B s : Nat} {a w w' : World} (h : StirX q A B s a w) (hb : Below w.heap.size w w') (hB : A ≤ w.heap.size) : StirX q A B s a w' :=
  ⟨h.below.trans (hb.mono hB), fun k T cs hr h1 h2 => (h.rows k T cs hr h1 h2).run hb⟩
theorem stir_trans {q : Bool} {A B s : Nat} {a w w' : World} (h : StirX q A B s a w) (g : StirX q A B s w w') : StirX q A B s a w' :=
  ⟨h.below.trans g.below, fun k T cs hr h1 h2 => g.rows k T cs (h.rows k T cs hr h1 h2) h1 h2⟩
theorem stir_set {q : Bool} {A B s i : Nat} {a w : World} {u : Value} (h : StirX q A B s a w) (hB : A ≤ s) : StirX q A B s a (w.setCell ⟨s, i, none⟩ u) :=
  ⟨below_one h.below hB, fun k T cs hr h1 h2 => (h.rows k T cs hr h1 h2).far1 h1⟩
theorem stir_alloc {q : Bool} {A B s : Nat} {a w : World} (h : StirX q A B s a w) (hB : A ≤ w.heap.size) (o : Obj) : StirX q A B s a (w.alloc o) :=
  ⟨h.below.alloc hB o, fun k T cs hr h1 h2 => (h.rows k T cs hr h1 h2).alloc o⟩
theorem stir_drewN {q : Bool} {A B s : Nat} {a w : World} (h : StirX q A B s a w) (n : Nat) : StirX q A B s a (w.drewN n) := ⟨below_drewN h.below n, h.rows⟩
theorem stir_drew {q : Bool} {A B s : Nat} {a w : World} (h : StirX q A B s a w) : StirX q A B s a w.drew := ⟨h.below.drew, h.rows⟩
theorem stir_put {q : Bool} {A B s m : Nat} {a w w' : World} {K : List Int} (h : StirX q A B s a w) (hu : Upd m w w') (hs : SeenAt w m K) (hB : A ≤ m) : StirX q A B s a w' := by
  refine ⟨h.below.trans ⟨hu.os, hu.tape, hu.output, hu.size, fun k hk => hu.block k (Nat.lt_of_lt_of_le (Nat.lt_of_lt_of_le hk hB) (Nat.le_of_lt (lt_of_block hs))) (by simp; omega)⟩, fun k T cs hr h1 h2 => ?_⟩
  have hk := h.rows k T cs hr h1 h2
  refine hk.upd hu fun e => ?_
  subst e
  unfold RowAt at hk
  unfold SeenAt at hs
  rw [hk] at hs
  cases hs
theorem stir_grown {A B s n : Nat} {a w w' : World} {v : Value} {xs : List Value} (h : Stir A B s a w) (hown : w.ownsRow B 22 1 v n xs) (hB : A ≤ w.heap.size) (hAB : A ≤ B) (hg : w.grownBy w' v.ownBlock) : Stir A B s a w' := by
  refine ⟨below_grown h.below hown hAB hg hB, fun k T cs hr h1 h2 => ?_⟩
  have hk := h.rows k T cs hr h1 h2
  rcases h2 with e | h2 | h2
  · cases e
  · exact row_two hown hk (fun e => h2 e.symm) hg
  · refine (hg.block k (lt_of_block hk) (fun e => ?_)).trans hk
    have := (hown.lt k e.symm).1
    omega

theorem SAt.run {w w' : World} {B s m : Nat} {src : Int} {t : SSt} {K : List Int} (h : SAt w B s m src t K) (hb : Below w.heap.size w w') : SAt w' B s m src t K := by
  obtain ⟨⟨vd, vf, h1, h2, h3, h5, h6⟩, h4⟩ := h
  exact ⟨⟨vd, vf, h1.run hb, h2.run hb, own_run h3 hb, h5.run hb, h6⟩, h4.run hb⟩
theorem SAt.alloc {w : World} {B s m : Nat} {src : Int} {t : SSt} {K : List Int} (h : SAt w B s m src t K) (o : Obj) : SAt (w.alloc o) B s m src t K := h.run ((Below.refl _ _).alloc (Nat.le_refl _) o)
theorem SAt.drew {w : World} {B s m : Nat} {src : Int} {t : SSt} {K : List Int} (h : SAt w B s m src t K) : SAt w.drew B s m src t K := ⟨h.ex, h.seen⟩
theorem SAt.lt {w : World} {B s m : Nat} {src : Int} {t : SSt} {K : List Int} (h : SAt w B s m src t K) : s < w.heap.size ∧ m < w.heap.size := by
  obtain ⟨⟨vd, vf, h1, _⟩, h4⟩ := h
  exact ⟨lt_of_block h1, lt_of_block h4⟩

/-- Nothing found yet: the base of what was found may be any. -/
theorem SAt.rebase {w : World} {B s m : Nat} {src : Int} {t : SSt} {K : List Int} (h : SAt w B s m src t K) (hf : t.found = []) (B' : Nat) : SAt w B' s m src t K := by
  obtain ⟨⟨vd, vf, h1, h2, h3, h5, h6⟩, h4⟩ := h
  have hv := h6 hf
  subst hv
  refine ⟨⟨vd, _, h1, h2, ?_, h5, h6⟩, h4⟩
  rw [hf]
  exact World.ownsRow_nil _ _ _ _
theorem SAt.known {w : World} {B s m : Nat} {src : Int} {t : SSt} {K : List Int} (h : SAt w B s m src t K) (k : List Int) : SAt w B s m src { t with known := k } K := ⟨h.ex, h.seen⟩
/-- Another row of identities grows. -/
theorem SAt.grown {w w' : World} {B B' s m n : Nat} {src : Int} {t : SSt} {K : List Int} {v : Value} {xs : List Value} (h : SAt w B s m src t K) (hf : t.found = []) (hown : w.ownsRow B' 22 1 v n xs) (hg : w.grownBy w' v.ownBlock) : SAt w' B s m src t K := by
  obtain ⟨⟨vd, vf, h1, h2, h3, h5, h6⟩, h4⟩ := h
  have hv := h6 hf
  subst hv
  have far : ∀ (k : Nat) (o : Obj), w.heap[k]? = some o → (∀ (cur : Array Value) (x : Nat × Nat), o ≠ .cells cur 22 x) → w'.heap[k]? = w.heap[k]? := by
    intro k o hk ho
    refine hg.block k (lt_of_block hk) (fun e => ?_)
    rcases hown.2 with ⟨rfl, _⟩ | ⟨g, cap, cur, rfl, _, hg', _⟩
    · cases e
    · simp [Value.ownBlock] at e
      subst e
      rw [hg'] at hk
      cases hk
      exact ho _ _ rfl
  refine ⟨⟨vd, _, row_two hown h1 (by decide) hg, ?_, ?_, ?_, h6⟩, ?_⟩
  · refine SeqAt.same h2 hg.size fun b off cap e h0 hc => ?_
    obtain ⟨-, cur, x, hk⟩ := h5 _ _ _ e
    exact far b _ hk (fun _ _ e => by cases e)
  · rw [hf]
    exact World.ownsRow_nil _ _ _ _
  · exact h5.same fun k cur x hk => far k _ hk (fun _ _ e => by cases e)
  · exact (far m _ h4 (fun _ _ e => by cases e)).trans h4

end Go.Proofs.YtpkhcehddfmhpaaGreat

namespace Go.Proofs.YtpkhcehddfmhpaaGreat
open Go.RowKit

/-- The three stores of a message that is sent. -/
theorem sat_sent {w : World} {B s m : Nat} {src q q' n n' : Int} {vd vf v1 v2 : Value} {fs : List Dev} {xs : List Int} {la : List Msg} {K : List Int} (hr : RowAt w s 151 (srchA vd vf src q m n))
    (hvd : ∃ a k c, vd = .slice a k c) (ho : w.ownsRow B 22 1 vf xs.length (u64L xs)) (hs : SeenAt w m K) (h1 : DevsAt w v1 fs) (h2 : MsgsAt w v2 la) (ht : Typed w v1 91) :
    RowAt (((w.setCell ⟨s, 0, none⟩ v1).setCell ⟨s, 2, none⟩ (.int .i64 q')).setCell ⟨s, 5, none⟩ (.int .i64 n')) s 151 (srchA v1 vf src q' m n') ∧
    DevsAt (((w.setCell ⟨s, 0, none⟩ v1).setCell ⟨s, 2, none⟩ (.int .i64 q')).setCell ⟨s, 5, none⟩ (.int .i64 n')) v1 fs ∧
    (((w.setCell ⟨s, 0, none⟩ v1).setCell ⟨s, 2, none⟩ (.int .i64 q')).setCell ⟨s, 5, none⟩ (.int .i64 n')).ownsRow B 22 1 vf xs.length (u64L xs) ∧
    SeenAt (((w.setCell ⟨s, 0, none⟩ v1).setCell ⟨s, 2, none⟩ (.int .i64 q')).setCell ⟨s, 5, none⟩ (.int .i64 n')) m K ∧
    MsgsAt (((w.setCell ⟨s, 0, none⟩ v1).setCell ⟨s, 2, none⟩ (.int .i64 q')).setCell ⟨s, 5, none⟩ (.int .i64 n')) v2 la ∧
    Typed (((w.setCell ⟨s, 0, none⟩ v1).setCell ⟨s, 2, none⟩ (.int .i64 q')).setCell ⟨s, 5, none⟩ (.int .i64 n')) v1 91 := by
  have far : ∀ k, k ≠ s → (((w.setCell ⟨s, 0, none⟩ v1).setCell ⟨s, 2, none⟩ (.int .i64 q')).setCell ⟨s, 5, none⟩ (.int .i64 n')).heap[k]? = w.heap[k]? := fun k hk =>
    (heap_setCell_other _ ⟨s, 5, none⟩ k _ hk).trans ((heap_setCell_other _ ⟨s, 2, none⟩ k _ hk).trans (heap_setCell_other _ ⟨s, 0, none⟩ k _ hk))
  have hz : w.heap.size ≤ (((w.setCell ⟨s, 0, none⟩ v1).setCell ⟨s, 2, none⟩ (.int .i64 q')).setCell ⟨s, 5, none⟩ (.int .i64 n')).heap.size := by simp
  obtain ⟨a, k, c, rfl⟩ := hvd
  refine ⟨RowAt.set (RowAt.set (RowAt.set hr rfl) rfl) rfl, SeqAt.same h1 hz ?_, ?_, ?_, SeqAt.same h2 hz ?_, ht.same fun k cur x hg => far k fun e => ?_⟩
  · intro b off cap _ h0 hc
    exact far b (devs_apart hr rfl h0 rfl hc)
  · refine ⟨ho.1, ?_⟩
    rcases ho.2 with hn | ⟨g, cap, cur, rfl, hbg, hg, rest⟩
    · exact .inl hn
    · refine .inr ⟨g, cap, cur, rfl, hbg, (far g fun e => ?_).trans hg, rest⟩
      subst e
      unfold RowAt at hr
      rw [hr] at hg
      simp at hg
  · refine (far m fun e => ?_).trans hs
    subst e
    unfold RowAt at hr
    unfold SeenAt at hs
    rw [hr] at hs
    cases hs
  · intro b off cap _ h0 hc
    exact far b (msgs_apart hr rfl ⟨_, _, _, rfl⟩ h0 rfl hc)
  · subst e
    unfold RowAt at hr
    rw [hr] at hg
    simp at hg

set_option maxHeartbeats 1000000 in
set_option maxRecDepth 100000 in
theorem ordmatch_any (k : Nat) (dst src seq kind par : Int) (dat : ByteArray) (a : Msg) (w : World) (hr : RowAt w k 52 #[.int .u64 dst, .int .u64 src, .int .i64 seq, .int .i64 kind, .int .i64 par, .string dat]) :
    Calls Tryz.prog 104 #[.agg #[.int .u64 a.dst, .int .u64 a.src, .int .i64 a.seq, .int .i64 a.kind, .int .i64 a.par, .string a.dat], .pointer (some ⟨k, 0, none⟩)] w
      fun e w' => e = .returned (.bool (matchesM ⟨dst, src, seq, kind, par, dat⟩ a)) ∧ Below w.heap.size w w' := by
  obtain ⟨q, hq⟩ : ∃ q, matchesM ⟨dst, src, seq, kind, par, dat⟩ a = q := ⟨_, rfl⟩
  have C : Hid (∀ W, Calls Tryz.prog 69 #[.agg #[.int .u64 dst, .int .u64 src, .int .i64 seq, .int .i64 kind, .int .i64 par, .string dat], .agg #[.int .u64 a.dst, .int .u64 a.src, .int .i64 a.seq, .int .i64 a.kind, .int .i64 a.par, .string a.dat]] W fun e w' => e = .returned (.bool q) ∧ Below W.heap.size W w') := fun W => by
    have := matches_any dst src seq kind par a.dst a.src a.seq a.kind a.par dat a.dat W
    rw [← hq]
    exact this
  rw [hq]
  clear hq
  have hr1 : RowAt (w.alloc (.cells (msgA a) 52)) k 52 #[.int .u64 dst, .int .u64 src, .int .i64 seq, .int .i64 kind, .int .i64 par, .string dat] := hr.alloc _
  obtain ⟨m1, m2, m3, m4, m5, m6⟩ := row_facts hr
  go_enter Tryz.func104, Tryz.ntmps104
  go_wp2_with fail
  refine (C.out _).mono ?_
  rintro e w1 ⟨rfl, hb⟩
  go_wp2
  go_ret
  exact ⟨rfl, below_run ((Below.refl _ _).alloc (Nat.le_refl _) _) hb⟩

set_option maxHeartbeats 4000000 in
set_option maxRecDepth 100000 in
theorem index_msgs (k : Nat) (dst src seq kind par : Int) (dat : ByteArray) (v : Value) (l : List Msg) (w : World) (hv : MsgsAt w v l) (hr : RowAt w k 52 #[.int .u64 dst, .int .u64 src, .int .i64 seq, .int .i64 kind, .int .i64 par, .string dat]) :
    Calls Tryz.prog 136 #[v, .func (.func 104) #[] #[.pointer (some ⟨k, 0, none⟩)]] w
      fun e w' => ∃ n : Int, e = .returned (.int .i64 n) ∧ Hid (decide (0 ≤ n) = l.any (matchesM ⟨dst, src, seq, kind, par, dat⟩)) ∧ Below w.heap.size w w' := by
  rcases hv with ⟨h0, a, cap, rfl⟩ | ⟨h0, h1, b, off, cap, rfl, hlt, hc⟩
  · have hl : l = [] := List.eq_nil_of_length_eq_zero h0
    subst hl
    go_enter Tryz.func136, Tryz.ntmps136
    go_wp2
    refine wp_loop_rounds 1 ?_
    rw [rounds_succ]
    go_wp2
    go_ret
    exact ⟨_, rfl, by simp [Hid], by (repeat' (first | (with_reducible exact Below.refl _ _) | (with_reducible assumption) | (with_reducible refine below_drewN ?_ _) | (with_reducible refine Below.drew ?_) | (with_reducible refine Below.setCell ?_ ?_ _) | (with_reducible refine Below.alloc ?_ ?_ _) | (with_reducible refine below_after ?_ ?_ (by assumption)) | (show _ ≤ _; first | omega | (simp; done) | (simp; omega))))⟩
  · have h4 : (0 : Int) < (l.length : Int) := by omega
    have hklt : k < w.heap.size := lt_of_block hr
    go_enter Tryz.func136, Tryz.ntmps136
    go_wp2
    go_loopw [5, 8] (fun _ i wr => ∃ k : Nat, k ≤ l.length ∧ i = .int .i64 k ∧ (l.take k).any (matchesM ⟨dst, src, seq, kind, par, dat⟩) = false ∧ Below w.heap.size w wr) (fun _ i _ => l.length - (intOf i).toNat)
    case atStart => exact ⟨0, Nat.zero_le _, rfl, rfl, by (repeat' (first | (with_reducible exact Below.refl _ _) | (with_reducible assumption) | (with_reducible refine below_drewN ?_ _) | (with_reducible refine Below.drew ?_) | (with_reducible refine Below.setCell ?_ ?_ _) | (with_reducible refine Below.alloc ?_ ?_ _) | (with_reducible refine below_after ?_ ?_ (by assumption)) | (show _ ≤ _; first | omega | (simp; done) | (simp; omega))))⟩
    case round =>
      obtain ⟨j, hj, rfl, hany, hb0⟩ := hrel
      by_cases hlt2 : j < l.length
      · have hlt3 : (j : Int) < (l.length : Int) := by omega
        have hc' : ∀ i, i < l.length * 6 → wr.cell? ⟨b, off + i, none⟩ = msgsC l i := fun i hi => (hb0.cell (p := ⟨b, off + i, none⟩) hlt).trans (hc i hi)
        obtain ⟨a, ha, e0, e1, e2, e3, e4, e5⟩ := msg_cells hc' j hlt2
        have hrr := hr.run hb0
        have HA := Lib.hid hany
        have HS := Lib.hid ha
        have HT := Lib.hid (take_succ_some ha)
        obtain ⟨q, hq⟩ : ∃ q, matchesM ⟨dst, src, seq, kind, par, dat⟩ a = q := ⟨_, rfl⟩
        have C := Lib.hid (ordmatch_any k dst src seq kind par dat a wr hrr)
        rw [hq] at C
        have HQ := Lib.hid hq
        have HR := Lib.hid hr
        clear hc hc' ha hany hrr hq hr
        cases q with
        | true =>
          go_wp2_with fail
          refine C.out.mono ?_
          rintro e w' ⟨rfl, hb⟩
          go_wp2
          go_ret
          refine ⟨_, rfl, ?_, below_run hb0 hb⟩
          have hx : l.any (matchesM ⟨dst, src, seq, kind, par, dat⟩) = true := List.any_eq_true.2 ⟨a, List.mem_of_getElem? HS.out, HQ.out⟩
          simp only [Hid, hx]
          exact decide_eq_true (by omega)
        | false =>
          go_wp2_with fail
          refine C.out.mono ?_
          rintro e w' ⟨rfl, hb⟩
          have hb2 := below_run hb0 hb
          clear hb hb0
          go_wp2
          go_roundw
          case rel => exact ⟨j + 1, by omega, by go_num, by rw [HT.out, List.any_append, HA.out]; simp [HQ.out], hb2⟩
          case measure => simp [intOf]; omega
      · have hlt3 : ¬ (j : Int) < (l.length : Int) := by omega
        obtain rfl : j = l.length := by omega
        rw [List.take_length] at hany
        have HA := Lib.hid hany
        clear hany
        go_wp2
        go_ret
        exact ⟨_, rfl, by simp [Hid, HA.out], hb0⟩

set_option maxHeartbeats 4000000 in
set_option maxRecDepth 100000 in
theorem contains_msgs (k : Nat) (dst src seq kind par : Int) (dat : ByteArray) (v : Value) (l : List Msg) (w : World) (hv : MsgsAt w v l) (hr : RowAt w k 52 #[.int .u64 dst, .int .u64 src, .int .i64 seq, .int .i64 kind, .int .i64 par, .string dat]) :
    Calls Tryz.prog 102 #[v, .func (.func 104) #[] #[.pointer (some ⟨k, 0, none⟩)]] w
      fun e w' => e = .returned (.bool (l.any (matchesM ⟨dst, src, seq, kind, par, dat⟩))) ∧ Below w.heap.size w w' := by
  have C := Lib.hid (index_msgs k dst src seq kind par dat v l w hv hr)
  clear hv hr
  obtain ⟨q, hq⟩ : ∃ q, l.any (matchesM ⟨dst, src, seq, kind, par, dat⟩) = q := ⟨_, rfl⟩
  rw [hq] at C
  rw [hq]
  clear hq
  go_enter Tryz.func102, Tryz.ntmps102
  go_wp2_with fail
  refine C.out.mono ?_
  rintro e w1 ⟨n, rfl, hn, hb⟩
  have hn2 := hn.out
  clear hn
  cases q with
  | true =>
    have h : (0 : Int) ≤ n := of_decide_eq_true hn2
    clear hn2
    go_wp2
    go_ret
    exact ⟨by simp, by (repeat' (first | (with_reducible exact Below.refl _ _) | (with_reducible assumption) | (with_reducible refine below_drewN ?_ _) | (with_reducible refine Below.drew ?_) | (with_reducible refine Below.setCell ?_ ?_ _) | (with_reducible refine Below.alloc ?_ ?_ _) | (with_reducible refine below_after ?_ ?_ (by assumption)) | (show _ ≤ _; first | omega | (simp; done) | (simp; omega))))⟩
  | false =>
    have h : ¬ (0 : Int) ≤ n := of_decide_eq_false hn2
    clear hn2
    go_wp2
    go_ret
    exact ⟨by simp [h], by (repeat' (first | (with_reducible exact Below.refl _ _) | (with_reducible assumption) | (with_reducible refine below_drewN ?_ _) | (with_reducible refine Below.drew ?_) | (with_reducible refine Below.setCell ?_ ?_ _) | (with_reducible refine Below.alloc ?_ ?_ _) | (with_reducible refine below_after ?_ ?_ (by assumption)) | (show _ ≤ _; first | omega | (simp; done) | (simp; omega))))⟩

set_option maxHeartbeats 4000000 in
set_option maxRecDepth 100000 in
theorem send_any (A B s m : Nat) (sr : Int) (t : SSt) (K : List Int) (dst src seq kind par : Int) (dat : ByteArray) (w : World) (h : SAt w B s m sr t K) (hB : A ≤ s) (hd : devsE t.devs = 0) (hm : chk ⟨dst, src, seq, kind, par, dat⟩ = 0) (q0 : 0 ≤ t.seq) (q1 : t.seq ≤ 255) :
    Calls Tryz.prog 103 #[.pointer (some ⟨s, 0, none⟩), .agg #[.int .u64 dst, .int .u64 src, .int .i64 seq, .int .i64 kind, .int .i64 par, .string dat]] w fun e w' => ∃ v, e = .returned v ∧ MsgsAt w' v (sentA t.devs ⟨dst, src, seq, kind, par, dat⟩) ∧ SAt w' B s m sr (sendS t ⟨dst, src, seq, kind, par, dat⟩) K ∧ Still A B s w w' := by
  obtain ⟨⟨vd, vf, hr, hdv, hown, hty, hnil⟩, hs⟩ := h
  obtain ⟨r1, r2, r3⟩ := bus_right hd hm
  have HV := Lib.hid (hdv.alloc (.cells #[.int .u64 dst, .int .u64 src, .int .i64 seq, .int .i64 kind, .int .i64 par, .string dat] 52))
  have C := Lib.hid (fun W => bus2_any vd t.devs dst src seq kind par dat W)
  rw [r1, r2, r3] at C
  have hS : Still A B s w (w.alloc (.cells #[.int .u64 dst, .int .u64 src, .int .i64 seq, .int .i64 kind, .int .i64 par, .string dat] 52)) := stir_alloc (stir_refl _ _ _ _) (by have := lt_of_block hr; omega) _
  have hr' := hr.alloc (.cells #[.int .u64 dst, .int .u64 src, .int .i64 seq, .int .i64 kind, .int .i64 par, .string dat] 52)
  have hs' : SeenAt (w.alloc (.cells #[.int .u64 dst, .int .u64 src, .int .i64 seq, .int .i64 kind, .int .i64 par, .string dat] 52)) m K := hs.run ((Below.refl _ _).alloc (Nat.le_refl _) _)
  have hown' := own_run hown ((Below.refl _ _).alloc (Nat.le_refl _) (.cells #[.int .u64 dst, .int .u64 src, .int .i64 seq, .int .i64 kind, .int .i64 par, .string dat] 52))
  obtain ⟨x1, x2, x3, x4, x5, x6⟩ := row_facts hr
  have c0 : w.cell? ⟨s, 0, none⟩ = some vd := x1 0
  clear x1
  have hw1 : (t.seq + 1).tmod 256 = (t.seq + 1) % 256 := Int.tmod_eq_emod_of_nonneg (by omega)
  obtain ⟨N, hN⟩ : ∃ N, IntKind.i64.wrap (t.msgs : Int) = N := ⟨_, rfl⟩
  have hN2 := wrap_more t.msgs
  rw [hN] at hN2 hr hr'
  have HN := Lib.hid hN2
  have HR := Lib.hid hr
  have HD := Lib.hid hdv
  have HNIL := Lib.hid hnil
  clear hdv hd hm hN hN2 r1 r2 r3 hs hown hr hty hnil
  go_enter Tryz.func103, Tryz.ntmps103
  go_wp2_with fail
  go_region_held3 (fun w' => w'.cell? ⟨s, 0, none⟩ = some vd ∧ w'.cell? ⟨w.heap.size, 0, none⟩ = some (.int .u64 dst) ∧ w'.cell? ⟨w.heap.size, 1, none⟩ = some (.int .u64 src) ∧ w'.cell? ⟨w.heap.size, 2, none⟩ = some (.int .i64 seq) ∧ w'.cell? ⟨w.heap.size, 3, none⟩ = some (.int .i64 kind) ∧ w'.cell? ⟨w.heap.size, 4, none⟩ = some (.int .i64 par) ∧ w'.cell? ⟨w.heap.size, 5, none⟩ = some (.string dat)) (go_keep)
    ((go_at_call 88; refine (C.out _ (by exact HV.out)).mono ?_; rintro e w3 ⟨v1, v2, rfl, hd3, ha3, hb3, ht3⟩; obtain ⟨a1, k1, p1, rfl⟩ := slice_of hd3; have hr3 := RowAt.run (w := (w.alloc (.cells #[.int .u64 dst, .int .u64 src, .int .i64 seq, .int .i64 kind, .int .i64 par, .string dat] 52)).drew) hr' hb3; obtain ⟨y1, y2, y3, y4, y5, y6⟩ := row_facts hr3; have z2 : w3.cell? ⟨s, 2, none⟩ = some (.int .i64 t.seq) := y1 2; have z5 : w3.cell? ⟨s, 5, none⟩ = some (.int .i64 N) := y1 5; have z0 : w3.cell? ⟨s, 0, none⟩ = some vd := y1 0; clear y1; have hMM : RowAt w3 w.heap.size 52 #[.int .u64 dst, .int .u64 src, .int .i64 seq, .int .i64 kind, .int .i64 par, .string dat] := (by (repeat' (first | (with_reducible assumption) | (with_reducible refine RowAt.drewN ?_ _) | (with_reducible refine RowAt.drew ?_) | (with_reducible apply RowAt.six) | (with_reducible apply RowAt.seven) | ((with_reducible refine RowAt.mk ?_ ?_); (focus (first | rfl | (simp; done))); rfl) | (with_reducible refine RowAt.alloc ?_ _) | (with_reducible refine RowAt.far ?_ ?_) | (with_reducible refine RowAt.run ?_ (by assumption)) | (with_reducible refine RowAt.below ?_ (by assumption) ?_) | (with_reducible refine RowAt.upd ?_ (by assumption) ?_) | (show _ < _; first | omega | (simp; done) | (simp; omega)) | (show ¬ _ = _; first | omega | (simp; done) | (simp; omega)) | exact rfl))); obtain ⟨hMMa, hMMb, hMMc, hMMd, hMMe, hMMf⟩ := row_facts hMM))
  clear x2 c0
  all_goals (go_wp2)
  all_goals go_ret
  all_goals
    have ho3 := own_run (w := (w.alloc (.cells #[.int .u64 dst, .int .u64 src, .int .i64 seq, .int .i64 kind, .int .i64 par, .string dat] 52)).drew) hown' hb3
    have hs3 := SeenAt.run (w := (w.alloc (.cells #[.int .u64 dst, .int .u64 src, .int .i64 seq, .int .i64 kind, .int .i64 par, .string dat] 52)).drew) hs' hb3
    have hst := stir_run (stir_drew hS) hb3 (by simp; omega)
    obtain ⟨g1, g2, g3, g4, g5, g6⟩ := sat_sent (q' := (t.seq + 1) % 256) (n' := wrap64 (N + 1)) hr3 (slice_of HD.out) ho3 hs3 hd3 ha3 ht3
    refine ⟨_, rfl, g5, ⟨⟨_, _, ?_, g2, g3, g6, HNIL.out⟩, g4⟩, stir_set (stir_set (stir_set hst hB) hB) hB⟩
    show RowAt _ _ _ (srchA _ _ _ _ _ (IntKind.i64.wrap ((t.msgs + 1 : Nat) : Int)))
    rw [← HN.out, IntWalk.i64_left]
    exact g1

set_option maxHeartbeats 4000000 in
set_option maxRecDepth 100000 in
theorem order_any (A B s m : Nat) (sr : Int) (t : SSt) (K : List Int) (k x : Int) (w : World) (h : SAt w B s m sr t K) (hB : A ≤ s) (hd : devsE t.devs = 0) (hm : chk (ordM sr t.seq k x) = 0) (q0 : 0 ≤ t.seq) (q1 : t.seq ≤ 255) :
    Calls Tryz.prog 75 #[.pointer (some ⟨s, 0, none⟩), .int .i64 k, .int .u64 x] w fun e w' => e = .returned (.bool (orderB sr t k x)) ∧ SAt w' B s m sr (orderS sr t k x) K ∧ Still A B s w w' := by
  have HS := Lib.hid h
  have HD := Lib.hid hd
  have HM := Lib.hid hm
  have hlt := h.lt
  have hBw : A ≤ w.heap.size := by omega
  obtain ⟨⟨vd, vf, hr, hdv, hown, hty, hnil⟩, hs⟩ := h
  have c1 : w.cell? ⟨s, 1, none⟩ = some (.int .u64 sr) := cell_fact hr 1
  have c2 : w.cell? ⟨s, 2, none⟩ = some (.int .i64 t.seq) := cell_fact hr 2
  obtain ⟨x1, x2, x3, x4, x5, x6⟩ := row_facts hr
  clear x1 hr hdv hown hty hnil hs hd hm
  go_enter Tryz.func75, Tryz.ntmps75
  go_wp2_with fail
  go_region_held3 (fun w' => w'.cell? ⟨s, 1, none⟩ = some (.int .u64 sr) ∧ w'.cell? ⟨s, 2, none⟩ = some (.int .i64 t.seq)) (go_keep) (fail)
  all_goals (go_wp2_with fail)
  all_goals
    refine (send_any A B s m sr t K x sr t.seq k 0 ⟨#[]⟩ _ (SAt.drew (HS.out.alloc _)) hB HD.out HM.out q0 q1).mono ?_
    rintro e w2 ⟨v, rfl, ha, hs2, hst⟩
    have hm2 : RowAt w2 w.heap.size 52 #[.int .u64 x, .int .u64 sr, .int .i64 t.seq, .int .i64 k, .int .i64 0, .string ⟨#[]⟩] := hst.rows _ _ _ (RowAt.new w _ _) (by omega) (.inl rfl)
    have hst2 := stir_trans (stir_drew (stir_alloc (stir_refl A B s w) hBw _)) hst
    have hl2 := hs2.lt
    have HA := Lib.hid ha
    have HM2 := Lib.hid hm2
    clear hst ha hm2 c1 c2 x2
    go_wp2_with fail
    refine (contains_msgs w.heap.size x sr t.seq k 0 ⟨#[]⟩ v _ _ HA.out HM2.out).mono ?_
    rintro e w3 ⟨rfl, hb3⟩
    go_wp2
    go_ret
    exact ⟨rfl, hs2.run hb3, stir_run hst2 hb3 (by omega)⟩
end Go.Proofs.YtpkhcehddfmhpaaGreat

namespace Go.Proofs.YtpkhcehddfmhpaaGreat
open Go.RowKit

theorem seen_cell {w : World} {m o : Nat} {K : List Int} (h : SeenAt w m K) : w.cell? ⟨m, o, none⟩ = none := by
  unfold SeenAt at h
  simp [World.cell?, h]

theorem sat_put {w w2 : World} {B s m : Nat} {src : Int} {t : SSt} {K K' : List Int} (h : SAt w B s m src t K) (hu : Upd m w w2) (hs2 : SeenAt w2 m K') : SAt w2 B s m src t K' := by
  obtain ⟨⟨vd, vf, h1, h2, h3, h5, h6⟩, h4⟩ := h
  have hne : ∀ {k T : Nat} {cs : Array Value} {x : Nat × Nat}, w.heap[k]? = some (.cells cs T x) → k ≠ m := by
    intro k T cs x hk e
    subst e
    unfold SeenAt at h4
    rw [hk] at h4
    cases h4
  refine ⟨⟨vd, vf, h1.upd hu (hne h1), SeqAt.same h2 hu.size ?_, ?_, h5.same fun k cur x hg => hu.block k (lt_of_block hg) (by have := hne hg; simp; omega), h6⟩, hs2⟩
  · intro b off cap _ h0 hc
    have hb : b ≠ m := by
      intro e
      subst e
      have g := hc 0 (by omega)
      rw [seen_cell h4] at g
      have h7 := devsC_at t.devs 0 h0 0 (by decide)
      rw [show 0 * 7 + 0 = 0 from rfl] at h7
      rw [h7] at g
      cases g
    by_cases hlt : b < w.heap.size
    · exact hu.block b hlt (by simp; omega)
    · have g := hc 0 (by omega)
      have h7 := devsC_at t.devs 0 h0 0 (by decide)
      rw [show 0 * 7 + 0 = 0 from rfl] at h7
      rw [h7] at g
      exact absurd (World.block_lt_of_cell? w _ g) hlt
  · refine ⟨h3.1, ?_⟩
    rcases h3.2 with hn | ⟨g, cap, cur, rfl, hbg, hg, rest⟩
    · exact .inl hn
    · exact .inr ⟨g, cap, cur, rfl, hbg, (hu.block g (lt_of_block hg) (by have := hne hg; simp; omega)).trans hg, rest⟩

/-- A store into the block of a search leaves what it leads to. -/
theorem parts_far {w : World} {B s m i n : Nat} {cs : Array Value} {u vd vf : Value} {ds : List Dev} {xs : List Value} {K : List Int} (hr : RowAt w s 151 cs) (hd : DevsAt w vd ds) (ht : Typed w vd 91)
    (ho : w.ownsRow B 22 1 vf n xs) (hs : SeenAt w m K) : DevsAt (w.setCell ⟨s, i, none⟩ u) vd ds ∧ Typed (w.setCell ⟨s, i, none⟩ u) vd 91 ∧ (w.setCell ⟨s, i, none⟩ u).ownsRow B 22 1 vf n xs ∧ SeenAt (w.setCell ⟨s, i, none⟩ u) m K := by
  have far : ∀ (k : Nat) (o : Obj), w.heap[k]? = some o → (∀ (cur : Array Value) (x : Nat × Nat), o ≠ .cells cur 151 x) → (w.setCell ⟨s, i, none⟩ u).heap[k]? = w.heap[k]? := by
    intro k o hk ho
    refine heap_setCell_other _ ⟨s, i, none⟩ k _ fun e => ?_
    subst e
    unfold RowAt at hr
    rw [hr] at hk
    cases hk
    exact ho _ _ rfl
  refine ⟨?_, ?_, ?_, ?_⟩
  · refine SeqAt.same hd (by simp) fun b off cap e h0 hc => ?_
    obtain ⟨-, cur, x, hg⟩ := ht _ _ _ e
    exact far b _ hg (fun _ _ e => by cases e)
  · exact ht.same fun k cur x hg => far k _ hg (fun _ _ e => by cases e)
  · refine ⟨ho.1, ?_⟩
    rcases ho.2 with hn | ⟨g, cap, cur, rfl, hbg, hg, rest⟩
    · exact .inl hn
    · exact .inr ⟨g, cap, cur, rfl, hbg, (far g _ hg (fun _ _ e => by cases e)).trans hg, rest⟩
  · exact (far m _ hs (fun _ _ e => by cases e)).trans hs

set_option maxHeartbeats 4000000 in
set_option maxRecDepth 100000 in
theorem mute_any (A B s m : Nat) (sr : Int) (t : SSt) (K : List Int) (x : Int) (w : World) (h : SAt w B s m sr t K) (hB : A ≤ s) (hBm : A ≤ m) (hd : devsE t.devs = 0) (hm : chk (ordM sr t.seq 2 x) = 0) (q0 : 0 ≤ t.seq) (q1 : t.seq ≤ 255) (hx : x ∉ K) :
    Calls Tryz.prog 139 #[.pointer (some ⟨s, 0, none⟩), .int .u64 x] w fun e w' => e = .returned (.bool (orderB sr t 2 x)) ∧ SAt w' B s m sr (orderS sr t 2 x) (if orderB sr t 2 x then K ++ [x] else K) ∧ Still A B s w w' := by
  have C := Lib.hid (order_any A B s m sr t K 2 x w h hB hd hm q0 q1)
  have HX := Lib.hid hx
  clear hx h hd hm
  obtain ⟨q, hq⟩ : ∃ q, orderB sr t 2 x = q := ⟨_, rfl⟩
  rw [hq] at C ⊢
  clear hq
  cases q with
  | false =>
    go_enter Tryz.func139, Tryz.ntmps139
    go_wp2_with fail
    refine C.out.mono ?_
    rintro e w1 ⟨rfl, hs1, hst⟩
    go_wp2
    go_ret
    exact ⟨rfl, hs1, hst⟩
  | true =>
    go_enter Tryz.func139, Tryz.ntmps139
    go_wp2_with fail
    refine C.out.mono ?_
    rintro e w1 ⟨rfl, hs1, hst⟩
    obtain ⟨w2, hup, hse2, hu⟩ := seen_put hs1.seen x HX.out
    have hsat2 := sat_put hs1 hu hse2
    have hst2 := stir_put hst hu hs1.seen hBm
    obtain ⟨⟨vd, vf, hr, hdv, hown, hty, hnil⟩, hs⟩ := hs1
    have c3 : w1.cell? ⟨s, 3, none⟩ = some (.map (some m)) := cell_fact hr 3
    obtain ⟨x1, x2, x3, x4, x5, x6⟩ := row_facts hr
    clear x1 hr hdv hown hty hnil hs hu hse2 hst
    go_wp2
    go_ret
    exact ⟨rfl, hsat2, hst2⟩

set_option maxHeartbeats 4000000 in
set_option maxRecDepth 100000 in
theorem note_any (A B s m : Nat) (sr : Int) (t : SSt) (K : List Int) (x : Int) (w : World) (h : SAt w B s m sr t K) (hB : A ≤ s) (hAB : A ≤ B ∧ B ≤ w.heap.size) (hl : t.found.length ≤ 1000) :
    Calls Tryz.prog 107 #[.pointer (some ⟨s, 0, none⟩), .int .u64 x] w fun e w' => e = .returned (.tuple #[]) ∧ SAt w' B s m sr { t with found := t.found ++ [x] } K ∧ Stir A B s w w' := by
  obtain ⟨i0, hi, hz0, hz1, hz2⟩ := info_parts Tryz.info_u64
  have hlt := h.lt
  have hBw : A ≤ w.heap.size := by omega
  obtain ⟨hAB, hBz⟩ := hAB
  obtain ⟨⟨vd, vf, hr, hdv, hown, hty, hnil⟩, hs⟩ := h
  have c4 : w.cell? ⟨s, 4, none⟩ = some vf := cell_fact hr 4
  obtain ⟨x1, x2, x3, x4, x5, x6⟩ := row_facts hr
  have hst : Stir A B s w _ := stir_alloc (stir_refl A B s w) hBw (.cells #[.int .u64 x] 22)
  have own1 := own_run hown ((Below.refl _ _).alloc (Nat.le_refl _) (.cells #[.int .u64 x] 22))
  have hr1 := hr.alloc (.cells #[.int .u64 x] 22)
  have hs1 : SeenAt (w.alloc (.cells #[.int .u64 x] 22)) m K := hs.run ((Below.refl _ _).alloc (Nat.le_refl _) _)
  have hd1 := hdv.alloc (.cells #[.int .u64 x] 22)
  have hnew : RowAt (w.alloc (.cells #[.int .u64 x] 22)) w.heap.size 22 #[.int .u64 x] := RowAt.new _ _ _
  have HR := Lib.hid hr1
  have HD := Lib.hid hd1
  have HS := Lib.hid hs1
  have HY := Lib.hid (hty.run ((Below.refl _ _).alloc (Nat.le_refl _) (.cells #[.int .u64 x] 22)))
  clear x1 hr hdv hown hty hnil hs hr1 hd1 hs1
  go_enter Tryz.func107, Tryz.ntmps107
  go_wp2_with (at_builtin; refine wpList_append_own _ rfl (.tmp 9) (.tmp 11) 95 rfl B 22 i0 _ 1 8 Tryz.underlying95 hi hz0 hz1 hz2 rfl (by decide) _ _ _ rfl own1 ⟨w.heap.size, 0, none⟩ 1 1 [.int .u64 x] rfl rfl ?c1 ?c2 ?c3 ?c4 ?c5 ?_)
  case c1 =>
    intro j u hj
    match j, hj with
    | 0, hj =>
      simp at hj
      subst hj
      exact (row_facts hnew).1 0
  case c2 => intro u hu; simp at hu; subst hu; rfl
  case c3 => unfold maxLen; omega
  case c4 => omega
  case c5 => simp; omega
  · intro v' w2 hown2 hgrow _
    have hr2 := row_two own1 HR.out (by decide) hgrow
    have c5 : w2.cell? ⟨s, 4, none⟩ = some vf := cell_fact hr2 4
    obtain ⟨y1, y2, y3, y4, y5, y6⟩ := row_facts hr2
    have hst2 := stir_grown hst own1 (by simp; omega) hAB hgrow
    have far : ∀ (k : Nat) (cur : Array Value) (T : Nat) (e : Nat × Nat), (w.alloc (.cells #[.int .u64 x] 22)).heap[k]? = some (.cells cur T e) → T ≠ 22 → w2.heap[k]? = (w.alloc (.cells #[.int .u64 x] 22)).heap[k]? := by
      intro k cur T e hk hT
      refine hgrow.block k (lt_of_block hk) fun h2 => ?_
      rcases own1.2 with ⟨rfl, _⟩ | ⟨g, cap, cu, rfl, _, hg, _⟩
      · cases h2
      · simp [Value.ownBlock] at h2
        subst h2
        rw [hk] at hg
        simp at hg
        exact hT hg.2.1
    have hs2 : SeenAt w2 m K := by
      refine (hgrow.block m (lt_of_block HS.out) fun h2 => ?_).trans HS.out
      rcases own1.2 with ⟨rfl, _⟩ | ⟨g, cap, cu, rfl, _, hg, _⟩
      · cases h2
      · simp [Value.ownBlock] at h2
        subst h2
        have := HS.out
        unfold SeenAt at this
        rw [hg] at this
        cases this
    have hdev2 : DevsAt w2 vd t.devs := by
      refine SeqAt.same HD.out hgrow.size fun b off cap e h0 hc => ?_
      obtain ⟨-, cur, x, hg⟩ := HY.out _ _ _ e
      exact far b _ _ _ hg (by decide)
    have hty2 : Typed w2 vd 91 := HY.out.same fun k cur x hg => far k _ _ _ hg (by decide)
    obtain ⟨av, kv, cv, rfl⟩ : ∃ a k c, v' = .slice a k c := by
      rcases hown2.2 with ⟨rfl, _⟩ | ⟨g, cap, cur, rfl, _⟩
      · exact ⟨_, _, _, rfl⟩
      · exact ⟨_, _, _, rfl⟩
    obtain ⟨p1, p2, p3, p4⟩ := parts_far (i := 4) (u := .slice av kv cv) hr2 hdev2 hty2 hown2 hs2
    have hr3 : RowAt (w2.setCell ⟨s, 4, none⟩ (.slice av kv cv)) s 151 (srchA vd (.slice av kv cv) sr t.seq m (IntKind.i64.wrap t.msgs)) := RowAt.set hr2 rfl
    clear y1 hgrow own1 far hs2 hdev2 hty2 hown2 hr2 c4 x2
    have P := Lib.hid (And.intro p1 (And.intro p2 (And.intro p3 (And.intro p4 hr3))))
    clear p1 p2 p3 p4 hr3
    go_wp2
    go_end0
    obtain ⟨p1, p2, p3, p4, p5⟩ := P.out
    refine ⟨rfl, ⟨⟨_, _, p5, p1, ?_, p2, fun e => by simp at e⟩, p4⟩, stir_set hst2 hB⟩
    show World.ownsRow _ B _ 1 _ (t.found ++ [x]).length (u64L (t.found ++ [x]))
    rw [List.length_append, u64L, List.map_append]
    exact p3
end Go.Proofs.YtpkhcehddfmhpaaGreat
