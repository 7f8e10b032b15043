/-
  All devices behind a message: the program.
  A copy of a list of devices: the library's slices.Clone.
-/
import Derived.Test.YtpkhcehddfmhpaaGreatDvs
import Derived.Test.YtpkhcehddfmhpaaGreatRecvE
namespace Go.Proofs.YtpkhcehddfmhpaaGreat
open Go.RowKit

/-- The number of the error of a bus and a message. -/
def busE (l : List Dev) (m : Msg) : Int := if devsE l ≠ 0 then devsE l else chk m
/-- The devices of a bus behind a message, and their answers. -/
def busD (l : List Dev) (m : Msg) : List Dev := if busE l m = 0 then sentD l m else []
def busA (l : List Dev) (m : Msg) : List Msg := if busE l m = 0 then sentA l m else []

/-- What a bus leaves. -/
def BusPost (n : Int) (ld : List Dev) (la : List Msg) (w : World) (e : Ending) (w' : World) : Prop := ∃ v1 v2, e = .returned (.tuple #[v1, v2, .int .i64 n]) ∧ DevsAt w' v1 ld ∧ MsgsAt w' v2 la ∧ Below w.heap.size w w'

theorem bus_bad {l : List Dev} {m : Msg} {n : Int} {w w' : World} (hn : n ≠ 0) (h : busE l m = n) (hb : Below w.heap.size w w') :
    BusPost (busE l m) (busD l m) (busA l m) w (.returned (.tuple #[.slice none 0 0, .slice none 0 0, .int .i64 n])) w' := by
  refine ⟨_, _, by rw [h], ?_, ?_, hb⟩
  · rw [busD, if_neg (by rw [h]; exact hn)]; exact .inl ⟨rfl, _, _, rfl⟩
  · rw [busA, if_neg (by rw [h]; exact hn)]; exact .inl ⟨rfl, _, _, rfl⟩

theorem bus_good {l : List Dev} {m : Msg} {v1 v2 : Value} {w w' : World} (h : busE l m = 0) (hd : DevsAt w' v1 (sentD l m)) (ha : MsgsAt w' v2 (sentA l m)) (hb : Below w.heap.size w w') :
    BusPost (busE l m) (busD l m) (busA l m) w (.returned (.tuple #[v1, v2, .int .i64 0])) w' := by
  refine ⟨v1, v2, by rw [h], ?_, ?_, hb⟩
  · rw [busD, if_pos h]; exact hd
  · rw [busA, if_pos h]; exact ha

/-- A slice's memory has elements of a type. -/
def Typed (w : World) (v : Value) (T : Nat) : Prop := ∀ a n c, v = .slice (some a) n c → n ≤ c ∧ ∃ cur x, w.heap[a.block]? = some (.cells cur T x)
theorem typed_nil (w : World) (T n c : Nat) : Typed w (.slice none n c) T := fun _ _ _ e => by cases e
theorem typed_own {w : World} {base T S n : Nat} {v : Value} {xs : List Value} (h : w.ownsRow base T S v n xs) : Typed w v T := by
  intro a n' c e
  rcases h.2 with ⟨rfl, _⟩ | ⟨g, cap, cur, rfl, _, hg, hc, _⟩
  · cases e
  · cases e
    exact ⟨hc, _, _, hg⟩
/-- A slice is not longer than its room. -/
def RoomOk (v : Value) : Prop := ∀ a n c, v = .slice a n c → n ≤ c
theorem typed_room {w : World} {v : Value} {T S n : Nat} {cs : Nat → Option Value} (h : Typed w v T) (hs : SeqAt w S v n cs) : RoomOk v := by
  intro a n' c e
  rcases hs with ⟨rfl, _, _, e'⟩ | ⟨_, _, b, off, cap, e', _⟩
  · rw [e'] at e
    cases e
    exact Nat.zero_le _
  · subst e'
    cases e
    exact (h _ _ _ rfl).1
theorem Typed.same {w w' : World} {v : Value} {T : Nat} (h : Typed w v T) (hk : ∀ (k : Nat) (cur : Array Value) (x : Nat × Nat), w.heap[k]? = some (.cells cur T x) → w'.heap[k]? = w.heap[k]?) : Typed w' v T := by
  intro a n c e
  obtain ⟨hn, cur, x, hg⟩ := h a n c e
  exact ⟨hn, cur, x, (hk _ _ _ hg).trans hg⟩
theorem Typed.run {w w' : World} {v : Value} {T : Nat} (h : Typed w v T) (hb : Below w.heap.size w w') : Typed w' v T := h.same fun k _ _ hg => hb.block k (lt_of_block hg)

/-- What a bus leaves, and of what type the memory of its devices is. -/
def BusPost2 (n : Int) (ld : List Dev) (la : List Msg) (w : World) (e : Ending) (w' : World) : Prop := ∃ v1 v2, e = .returned (.tuple #[v1, v2, .int .i64 n]) ∧ DevsAt w' v1 ld ∧ MsgsAt w' v2 la ∧ Below w.heap.size w w' ∧ Typed w' v1 91

theorem bus2_bad {l : List Dev} {m : Msg} {n : Int} {w w' : World} (hn : n ≠ 0) (h : busE l m = n) (hb : Below w.heap.size w w') :
    BusPost2 (busE l m) (busD l m) (busA l m) w (.returned (.tuple #[.slice none 0 0, .slice none 0 0, .int .i64 n])) w' := by
  refine ⟨_, _, by rw [h], ?_, ?_, hb, typed_nil _ _ _ _⟩
  · rw [busD, if_neg (by rw [h]; exact hn)]; exact .inl ⟨rfl, _, _, rfl⟩
  · rw [busA, if_neg (by rw [h]; exact hn)]; exact .inl ⟨rfl, _, _, rfl⟩

theorem bus2_good {l : List Dev} {m : Msg} {v1 v2 : Value} {w w' : World} (h : busE l m = 0) (hd : DevsAt w' v1 (sentD l m)) (ha : MsgsAt w' v2 (sentA l m)) (hb : Below w.heap.size w w') (ht : Typed w' v1 91) :
    BusPost2 (busE l m) (busD l m) (busA l m) w (.returned (.tuple #[v1, v2, .int .i64 0])) w' := by
  refine ⟨v1, v2, by rw [h], ?_, ?_, hb, ht⟩
  · rw [busD, if_pos h]; exact hd
  · rw [busA, if_pos h]; exact ha

theorem busE_devs {l : List Dev} {m : Msg} {n : Int} (h : devsE l = n) (hn : n ≠ 0) : busE l m = n := by
  subst h
  rw [busE, if_pos hn]
theorem busE_msg {l : List Dev} {m : Msg} {n : Int} (h : devsE l = 0) (hm : chk m = n) : busE l m = n := by rw [busE, if_neg (not_not_intro h), hm]

theorem seen_new {w : World} {b : Nat} (hb : b = w.heap.size) : SeenAt (w.alloc (.map #[] 0)) b [] := by
  subst hb
  exact heap_alloc_new w _

theorem SeenAt.run {w w' : World} {b : Nat} {l : List Int} (h : SeenAt w b l) (hb : Below w.heap.size w w') : SeenAt w' b l := (hb.block b (lt_of_block h)).trans h

set_option maxHeartbeats 4000000 in
set_option maxRecDepth 100000 in
theorem bus2_any (v : Value) (l : List Dev) (dst src seq kind par : Int) (dat : ByteArray) (w : World) (hv : DevsAt w v l) :
    Calls Tryz.prog 88 #[v, .agg #[.int .u64 dst, .int .u64 src, .int .i64 seq, .int .i64 kind, .int .i64 par, .string dat]] w (BusPost2 (busE l ⟨dst, src, seq, kind, par, dat⟩) (busD l ⟨dst, src, seq, kind, par, dat⟩) (busA l ⟨dst, src, seq, kind, par, dat⟩) w) := by
  obtain ⟨i0, hi, hz0, hz1, hz2⟩ := info_parts Tryz.info_dev
  obtain ⟨i1, hi', hz0', hz1', hz2'⟩ := info_parts Tryz.info_msg
  have hmm := @run_makeMap Tryz.prog
  obtain ⟨n2, hn2⟩ : ∃ n, chk ⟨dst, src, seq, kind, par, dat⟩ = n := ⟨_, rfl⟩
  have HM := Lib.hid hn2
  clear hn2
  have h0e : (0 : Int) = 0 := rfl
  rcases hv with ⟨h0, a, cap, rfl⟩ | ⟨h0, h1, b, off, cap, rfl, hlt, hc⟩
  · have hl : l = [] := List.eq_nil_of_length_eq_zero h0
    subst hl
    have hE : Hid (devsE [] = 0) := by show devsE [] = 0; rfl
    by_cases z2 : n2 = 0
    · subst z2
      go_enter Tryz.func88, Tryz.ntmps88
      go_wp2
      refine wp_loop_rounds 1 ?_
      rw [rounds_succ]
      go_wp2_with fail
      refine (chk_is 0 dst src seq kind par dat _ HM).mono ?_
      rintro e w1 ⟨rfl, hb⟩
      go_wp2
      refine wp_loop_rounds 1 ?_
      rw [rounds_succ]
      go_wp2
      go_ret3
      exact bus2_good (busE_msg hE.out HM.out) (.inl ⟨rfl, _, _, rfl⟩) (.inl ⟨rfl, _, _, rfl⟩) (by (repeat' (first | (with_reducible exact Below.refl _ _) | (with_reducible assumption) | (with_reducible refine below_run ?_ (by assumption)) | (with_reducible refine below_of_upd ?_ (by assumption) ?_) | (with_reducible refine below_drewN ?_ _) | (with_reducible refine Below.drew ?_) | (with_reducible refine below_seven ?_ ?_) | (with_reducible refine below_six ?_ ?_) | (with_reducible refine below_one ?_ ?_) | (with_reducible refine Below.alloc ?_ ?_ _) | (with_reducible refine below_after ?_ ?_ (by assumption)) | (show _ ≤ _; first | omega | (simp; done) | (simp; omega))))) (typed_nil _ _ _ _)
    · have e9 : (n2 != 0) = true := by simpa using z2
      have HZ := Lib.hid z2
      clear z2
      go_enter Tryz.func88, Tryz.ntmps88
      go_wp2
      refine wp_loop_rounds 1 ?_
      rw [rounds_succ]
      go_wp2_with fail
      refine (chk_is n2 dst src seq kind par dat _ HM).mono ?_
      rintro e w1 ⟨rfl, hb⟩
      go_wp2
      go_ret3
      exact bus2_bad HZ.out (busE_msg hE.out HM.out) (by (repeat' (first | (with_reducible exact Below.refl _ _) | (with_reducible assumption) | (with_reducible refine below_run ?_ (by assumption)) | (with_reducible refine below_of_upd ?_ (by assumption) ?_) | (with_reducible refine below_drewN ?_ _) | (with_reducible refine Below.drew ?_) | (with_reducible refine below_seven ?_ ?_) | (with_reducible refine below_six ?_ ?_) | (with_reducible refine below_one ?_ ?_) | (with_reducible refine Below.alloc ?_ ?_ _) | (with_reducible refine below_after ?_ ?_ (by assumption)) | (show _ ≤ _; first | omega | (simp; done) | (simp; omega)))))
  · by_cases h2 : l.length ≤ 64
    · have h3 : (l.length : Int) ≤ 64 := by omega
      have h4 : (0 : Int) < (l.length : Int) := by omega
      have hE : Hid (devsE l = dErr [] l) := by show devsE l = _; rw [devsE, if_neg (by omega)]
      go_enter Tryz.func88, Tryz.ntmps88
      go_wp2
      go_loopw [24] (fun i wr => ∃ k : Nat, k ≤ l.length ∧ i = .int .i64 k ∧ Hid (dErr [] l = dErr ((l.take k).map (·.id)) (l.drop k)) ∧ SeenAt wr (w.heap.size + 1) ((l.take k).map (·.id)) ∧ RowAt wr w.heap.size 52 #[.int .u64 dst, .int .u64 src, .int .i64 seq, .int .i64 kind, .int .i64 par, .string dat] ∧ Below w.heap.size w wr) (fun i _ => l.length - (intOf i).toNat)
      case atStart => exact ⟨0, Nat.zero_le _, rfl, rfl, seen_new (by simp), by (repeat' (first | (with_reducible assumption) | (with_reducible refine RowAt.drewN ?_ _) | (with_reducible refine RowAt.drew ?_) | (with_reducible apply RowAt.seven) | (with_reducible apply RowAt.six) | (with_reducible refine RowAt.far7 ?_ ?_) | (with_reducible refine RowAt.far6 ?_ ?_) | (with_reducible refine RowAt.far1 ?_ ?_) | ((with_reducible refine RowAt.mk ?_ ?_); (focus (first | (with_reducible rfl) | (simp; done))); rfl) | (with_reducible refine RowAt.alloc ?_ _) | (with_reducible refine RowAt.run ?_ (by assumption)) | (with_reducible refine RowAt.below ?_ (by assumption) ?_) | (with_reducible refine RowAt.upd ?_ (by assumption) ?_) | (with_reducible show _ < _; first | omega | (simp; done) | (simp; omega)) | (with_reducible show ¬ _ = _; first | omega | (simp; done) | (simp; omega)) | (with_reducible exact rfl))), by (repeat' (first | (with_reducible exact Below.refl _ _) | (with_reducible assumption) | (with_reducible refine below_run ?_ (by assumption)) | (with_reducible refine below_of_upd ?_ (by assumption) ?_) | (with_reducible refine below_drewN ?_ _) | (with_reducible refine Below.drew ?_) | (with_reducible refine below_seven ?_ ?_) | (with_reducible refine below_six ?_ ?_) | (with_reducible refine below_one ?_ ?_) | (with_reducible refine Below.alloc ?_ ?_ _) | (with_reducible refine below_after ?_ ?_ (by assumption)) | (show _ ≤ _; first | omega | (simp; done) | (simp; omega))))⟩
      case round =>
        obtain ⟨k, hk, rfl, hE2, hse, hM, hb0⟩ := hrel
        have hbmlt : w.heap.size + 1 < wr.heap.size := lt_of_block hse
        by_cases hlt2 : k < l.length
        · have hlt3 : (k : Int) < (l.length : Int) := by omega
          have hk0 : (0 : Int) ≤ (k : Int) := by omega
          have hw1 : ∀ j, j < l.length * 7 → wr.cell? ⟨b, off + j, none⟩ = devsC l j := fun j hj => (hb0.cell (p := ⟨b, off + j, none⟩) hlt).trans (hc j hj)
          obtain ⟨d, hd, e0, e1, e2, e3, e4, e5, e6⟩ := dev_cells hw1 k hlt2
          obtain ⟨n, hn⟩ : ∃ n, chkD d = n := ⟨_, rfl⟩
          have HN := Lib.hid hn
          have HD := Lib.hid hd
          obtain ⟨ids, hids⟩ : ∃ ids, (l.take k).map (·.id) = ids := ⟨_, rfl⟩
          rw [hids] at hE2 hse
          have HI := Lib.hid hids
          clear hn hd hw1 hc hids
          by_cases z1 : n = 0
          · subst z1
            go_wp2_with fail
            refine (dchk_is 0 d.id d.ft d.ad d.hr d.lb d.mu d.idf _ HN).mono ?_
            rintro e w1 ⟨rfl, hb⟩
            have hD : RowAt w1 wr.heap.size 91 ((devA d)) := (by (repeat' (first | (with_reducible assumption) | (with_reducible refine RowAt.drewN ?_ _) | (with_reducible refine RowAt.drew ?_) | (with_reducible apply RowAt.six) | (with_reducible apply RowAt.seven) | ((with_reducible refine RowAt.mk ?_ ?_); (focus (first | rfl | (simp; done))); rfl) | (with_reducible refine RowAt.alloc ?_ _) | (with_reducible refine RowAt.far ?_ ?_) | (with_reducible refine RowAt.run ?_ (by assumption)) | (with_reducible refine RowAt.below ?_ (by assumption) ?_) | (with_reducible refine RowAt.upd ?_ (by assumption) ?_) | (show _ < _; first | omega | (simp; done) | (simp; omega)) | (show ¬ _ = _; first | omega | (simp; done) | (simp; omega)) | exact rfl))); obtain ⟨hDa, hDb, hDc, hDd, hDe, hDf⟩ := row_facts hD
            have hb' : Below wr.heap.size wr w1 := below_run ((Below.refl _ _).alloc (Nat.le_refl _) _) hb
            have hse1 := hse.run hb'
            have hM1 := hM.run hb'
            have hb1 : Below w.heap.size w w1 := below_run hb0 hb'
            by_cases hm : d.id ∈ ids
            · have hlk := seen_look hse1 d.id
              rw [show decide (d.id ∈ ids) = true from by simpa using hm] at hlk
              have HMM := Lib.hid hm
              clear hm hb hb' hb0 hse hM hE
              go_wp2
              go_ret3
              refine bus2_bad (by decide) (busE_devs (n := 7) ?_ (by decide)) hb1
              rw [devsE, if_neg (by omega), hE2.out, drop_some HD.out, dErr_twice HN.out HMM.out]
            · have hlk := seen_look hse1 d.id
              rw [show decide (d.id ∈ ids) = false from by simpa using hm] at hlk
              obtain ⟨w2, hup, hse2, hu⟩ := seen_put hse1 d.id hm
              have HMM := Lib.hid hm
              have hM2 := hM1.upd hu (by omega)
              have hb2 : Below w.heap.size w w2 := below_of_upd hb1 hu (by omega)
              clear hm hb hb' hb0 hb1 hse hM hM1 hu
              go_wp2
              go_roundw
              case rel => exact ⟨k + 1, by omega, by go_num, by show dErr [] l = _; rw [hE2.out, drop_some HD.out, ids_take HD.out, HI.out, dErr_on HN.out HMM.out], by rw [ids_take HD.out, HI.out]; exact hse2, hM2, hb2⟩
              case measure => simp [intOf]; omega
          · have e9 : (n != 0) = true := by simpa using z1
            have HZ := Lib.hid z1
            clear z1
            go_wp2_with fail
            refine (dchk_is n d.id d.ft d.ad d.hr d.lb d.mu d.idf _ HN).mono ?_
            rintro e w1 ⟨rfl, hb⟩
            go_wp2
            go_ret3
            refine bus2_bad HZ.out (busE_devs (n := n) ?_ HZ.out) (by (repeat' (first | (with_reducible exact Below.refl _ _) | (with_reducible assumption) | (with_reducible refine below_run ?_ (by assumption)) | (with_reducible refine below_of_upd ?_ (by assumption) ?_) | (with_reducible refine below_drewN ?_ _) | (with_reducible refine Below.drew ?_) | (with_reducible refine below_seven ?_ ?_) | (with_reducible refine below_six ?_ ?_) | (with_reducible refine below_one ?_ ?_) | (with_reducible refine Below.alloc ?_ ?_ _) | (with_reducible refine below_after ?_ ?_ (by assumption)) | (show _ ≤ _; first | omega | (simp; done) | (simp; omega)))))
            rw [devsE, if_neg (by omega), hE2.out, drop_some HD.out, dErr_bad HN.out HZ.out]
        · obtain rfl : k = l.length := by omega
          have hE0 : devsE l = 0 := by rw [hE.out, hE2.out]; simp [dErr]
          have HE0 := Lib.hid hE0
          clear hse hE hE2 hE0
          obtain ⟨m1, m2, m3, m4, m5, m6⟩ := row_facts hM
          by_cases z2 : n2 = 0
          · subst z2
            go_wp2_with fail
            refine (chk_is 0 dst src seq kind par dat _ HM).mono ?_
            rintro e w1 ⟨rfl, hb⟩
            have hM1 := hM.run hb
            have hb1 : Below w.heap.size w w1 := below_run hb0 hb
            clear hb0 hb hM m1 m2 m3 m4 m5 m6
            go_wp2
            have hsz1 : w.heap.size < w1.heap.size := lt_of_block hM1
            go_loopw [12, 13, 48] (fun v1 v2 i wr => ∃ k : Nat, k ≤ l.length ∧ i = .int .i64 k ∧ wr.ownsRow w1.heap.size 91 7 v1 k (devsL (sentD (l.take k) ⟨dst, src, seq, kind, par, dat⟩)) ∧ wr.ownsRow w1.heap.size 52 6 v2 (sentA (l.take k) ⟨dst, src, seq, kind, par, dat⟩).length (msgsL (sentA (l.take k) ⟨dst, src, seq, kind, par, dat⟩)) ∧ Below w1.heap.size w1 wr) (fun _ _ i _ => l.length - (intOf i).toNat)
            case atStart => exact ⟨0, Nat.zero_le _, rfl, World.ownsRow_nil _ _ _ _, World.ownsRow_nil _ _ _ _, Below.refl _ _⟩
            case round =>
              obtain ⟨k, hk, rfl, hown1, hown2, hbr⟩ := hrel
              have hbw : Below w.heap.size w wr := below_run hb1 hbr
              have hMr := hM1.run hbr
              have hszr := hbr.size
              by_cases hlt2 : k < l.length
              · have hlt3 : (k : Int) < (l.length : Int) := by omega
                have hk0 : (0 : Int) ≤ (k : Int) := by omega
                have hw1 : ∀ j, j < l.length * 7 → wr.cell? ⟨b, off + j, none⟩ = devsC l j := fun j hj => (hbw.cell (p := ⟨b, off + j, none⟩) hlt).trans (hc j hj)
                obtain ⟨d, hd, e0, e1, e2, e3, e4, e5, e6⟩ := dev_cells hw1 k hlt2
                have HT := Lib.hid (take_succ_some hd)
                have hcd := dErr_all (seen := []) (l := l) (by have := HE0.out; rw [devsE, if_neg (by omega)] at this; exact this) d (List.mem_of_getElem? hd)
                obtain ⟨d', a', q, hra⟩ : ∃ d' a' q, recvD d ⟨dst, src, seq, kind, par, dat⟩ = (d', a', q) := ⟨_, _, _, rfl⟩
                have HRA := Lib.hid hra
                have HCD := Lib.hid hcd
                have hlen2 : (sentA (l.take k) ⟨dst, src, seq, kind, par, dat⟩).length ≤ 64 := by have := sentA_length (l.take k) ⟨dst, src, seq, kind, par, dat⟩; have := List.length_take_le k l; omega
                obtain ⟨m1, m2, m3, m4, m5, m6⟩ := row_facts hMr
                clear hw1 hd hcd hra
                go_wp2_with fail
                refine (recv_any wr.heap.size d dst src seq kind par dat _ (DevAt.mk rfl rfl) HCD.out HM.out).mono ?_
                rintro e w3 ⟨rfl, hd3, hu⟩
                rw [HRA.out] at hd3 ⊢
                have hb3 : Below wr.heap.size wr w3 := below_of_upd ((Below.refl _ _).alloc (Nat.le_refl _) _) hu (Nat.le_refl _)
                have kd : RowAt w3 wr.heap.size 91 #[.int .u64 d'.id, .int .i64 d'.ft, .int .i64 d'.ad, .string d'.lb, .int .i64 d'.hr, .bool d'.mu, .bool d'.idf] := hd3
                have own1 := own_run hown1 hb3
                have own2 := own_run hown2 hb3
                have hM3 := hMr.run hb3
                have hbr3 : Below w1.heap.size w1 w3 := below_run hbr hb3
                have hsz3 := hbr3.size
                obtain ⟨d1, d2, d3, d4, d5, d6⟩ := row_facts kd
                have hsd : devsL (sentD (l.take (k + 1)) ⟨dst, src, seq, kind, par, dat⟩) = devsL (sentD (l.take k) ⟨dst, src, seq, kind, par, dat⟩) ++ [Value.int IntKind.u64 d'.id, Value.int IntKind.i64 d'.ft, Value.int IntKind.i64 d'.ad, Value.string d'.lb, Value.int IntKind.i64 d'.hr, Value.bool d'.mu, Value.bool d'.idf] := by
                  rw [HT.out, sentD_snoc, HRA.out, devsL_append]; rfl
                have HSD := Lib.hid hsd
                have hsa : sentA (l.take (k + 1)) ⟨dst, src, seq, kind, par, dat⟩ = sentA (l.take k) ⟨dst, src, seq, kind, par, dat⟩ ++ if q then [a'] else [] := by rw [HT.out, sentA_snoc, HRA.out]
                have HSA := Lib.hid hsa
                clear hown1 hown2 hMr hsd hsa e0 e1 e2 e3 e4 e5 e6 m1 m2 m3 m4 m5 m6 hbr hbw hd3 hu hb3 hc
                go_wp2_with (at_builtin; refine wpList_append_own _ rfl (.tmp 57) (.tmp 59) 25 rfl w1.heap.size 91 i0 _ 7 56 Tryz.underlying25 hi hz0 hz1 hz2 rfl (by decide) _ _ _ rfl ((own1.alloc _).alloc _) ⟨w3.heap.size + 1, 0, none⟩ 1 1 (devA d').toList rfl rfl ?c1 (dev_ones d') ?c3 ?c4 ?c5 ?_)
                case c1 => exact dev_news (d := d') (RowAt.mk (by simp) rfl)
                case c3 => unfold maxLen; omega
                case c4 => omega
                case c5 => simp; omega
                · intro v' w4 hown1 hgrow _
                  have hown2 := own_two ((own1.alloc _).alloc _) ((own2.alloc _).alloc _) (by decide) hgrow
                  have hb4 := below_grown ((hbr3.alloc (by omega) _).alloc (by simp; omega) _) ((own1.alloc _).alloc _) (Nat.le_refl _) hgrow (by simp; omega)
                  have ka0 : RowAt ((w3.alloc (.cells #[.int .u64 a'.dst, .int .u64 a'.src, .int .i64 a'.seq, .int .i64 a'.kind, .int .i64 a'.par, .string a'.dat] 52)).alloc (.cells #[.int .u64 d'.id, .int .i64 d'.ft, .int .i64 d'.ad, .string d'.lb, .int .i64 d'.hr, .bool d'.mu, .bool d'.idf] 91)) w3.heap.size 52 #[.int .u64 a'.dst, .int .u64 a'.src, .int .i64 a'.seq, .int .i64 a'.kind, .int .i64 a'.par, .string a'.dat] := by (repeat' (first | (with_reducible assumption) | (with_reducible refine RowAt.drewN ?_ _) | (with_reducible refine RowAt.drew ?_) | (with_reducible apply RowAt.seven) | (with_reducible apply RowAt.six) | (with_reducible refine RowAt.far7 ?_ ?_) | (with_reducible refine RowAt.far6 ?_ ?_) | (with_reducible refine RowAt.far1 ?_ ?_) | ((with_reducible refine RowAt.mk ?_ ?_); (focus (first | (with_reducible rfl) | (simp; done))); rfl) | (with_reducible refine RowAt.alloc ?_ _) | (with_reducible refine RowAt.run ?_ (by assumption)) | (with_reducible refine RowAt.below ?_ (by assumption) ?_) | (with_reducible refine RowAt.upd ?_ (by assumption) ?_) | (with_reducible show _ < _; first | omega | (simp; done) | (simp; omega)) | (with_reducible show ¬ _ = _; first | omega | (simp; done) | (simp; omega)) | (with_reducible exact rfl)))
                  have ka := row_two ((own1.alloc _).alloc _) ka0 (by decide) hgrow
                  have hsz4 := hb4.size
                  obtain ⟨x1, x2, x3, x4, x5, x6⟩ := row_facts ka
                  clear own1 own2 hgrow kd hM3 ka0 d1 d2 d3 d4 d5 d6 hbr3
                  cases q
                  · go_wp2
                    go_roundw
                    case rel => exact ⟨k + 1, by omega, by go_num, by rw [HSD.out]; exact hown1, by rw [HSA.out]; simpa using hown2, hb4⟩
                    case measure => simp [intOf]; omega
                  · go_wp2_with (at_builtin; refine wpList_append_own _ rfl (.tmp 62) (.tmp 64) 138 rfl w1.heap.size 52 i1 _ 6 56 Tryz.underlying138 hi' hz0' hz1' hz2' rfl (by decide) _ _ _ rfl (hown2.alloc _) ⟨w4.heap.size, 0, none⟩ 1 1 (msgA a').toList rfl rfl ?e1 (msg_ones a') ?e3 ?e4 ?e5 ?_)
                    case e1 => first | exact msg_news (d := a') (RowAt.mk (by first | rfl | simp) rfl) | (intro j u hj; simpa [msgA] using hj)
                    case e3 => unfold maxLen; omega
                    case e4 => omega
                    case e5 => first | omega | (simp; omega)
                    · intro v2' w5 hown2' hgrow2 _
                      have hown1' := own_two (hown2.alloc _) (hown1.alloc _) (by decide) hgrow2
                      have hb5 := below_grown (hb4.alloc (by omega) _) (hown2.alloc _) (Nat.le_refl _) hgrow2 (by simp; omega)
                      clear hown1 hown2 hgrow2
                      go_wp2
                      go_roundw
                      case rel => exact ⟨k + 1, by omega, by go_num, by rw [HSD.out]; exact hown1', by rw [HSA.out]; simp only [if_true, List.length_append, msgsL_append]; exact hown2', hb5⟩
                      case measure => simp [intOf]; omega
              · obtain rfl : k = l.length := by omega
                go_wp2
                go_ret3
                rw [List.take_length] at hown1 hown2
                have hbe : busE l ⟨dst, src, seq, kind, par, dat⟩ = 0 := busE_msg HE0.out HM.out
                have hlen := sentA_length l ⟨dst, src, seq, kind, par, dat⟩
                exact bus2_good hbe (own_devs (by rw [sentD_length]; exact hown1) (by rw [sentD_length]; omega)) (own_msgs hown2 (by omega)) hbw (typed_own hown1)
          · have e9 : (n2 != 0) = true := by simpa using z2
            have HZ := Lib.hid z2
            clear z2
            go_wp2_with fail
            refine (chk_is n2 dst src seq kind par dat _ HM).mono ?_
            rintro e w1 ⟨rfl, hb⟩
            go_wp2
            go_ret3
            exact bus2_bad HZ.out (busE_msg HE0.out HM.out) (by (repeat' (first | (with_reducible exact Below.refl _ _) | (with_reducible assumption) | (with_reducible refine below_run ?_ (by assumption)) | (with_reducible refine below_of_upd ?_ (by assumption) ?_) | (with_reducible refine below_drewN ?_ _) | (with_reducible refine Below.drew ?_) | (with_reducible refine below_seven ?_ ?_) | (with_reducible refine below_six ?_ ?_) | (with_reducible refine below_one ?_ ?_) | (with_reducible refine Below.alloc ?_ ?_ _) | (with_reducible refine below_after ?_ ?_ (by assumption)) | (show _ ≤ _; first | omega | (simp; done) | (simp; omega)))))
    · have h3 : 64 < (l.length : Int) := by omega
      have hE : Hid (devsE l = 5) := by show devsE l = _; rw [devsE, if_pos (by omega)]
      go_enter Tryz.func88, Tryz.ntmps88
      go_wp2
      go_ret3
      exact bus2_bad (by decide) (busE_devs hE.out (by decide)) (by (repeat' (first | (with_reducible exact Below.refl _ _) | (with_reducible assumption) | (with_reducible refine below_run ?_ (by assumption)) | (with_reducible refine below_of_upd ?_ (by assumption) ?_) | (with_reducible refine below_drewN ?_ _) | (with_reducible refine Below.drew ?_) | (with_reducible refine below_seven ?_ ?_) | (with_reducible refine below_six ?_ ?_) | (with_reducible refine below_one ?_ ?_) | (with_reducible refine Below.alloc ?_ ?_ _) | (with_reducible refine below_after ?_ ?_ (by assumption)) | (show _ ≤ _; first | omega | (simp; done) | (simp; omega)))))

theorem bus_any (v : Value) (l : List Dev) (dst src seq kind par : Int) (dat : ByteArray) (w : World) (hv : DevsAt w v l) :
    Calls Tryz.prog 88 #[v, .agg #[.int .u64 dst, .int .u64 src, .int .i64 seq, .int .i64 kind, .int .i64 par, .string dat]] w (BusPost (busE l ⟨dst, src, seq, kind, par, dat⟩) (busD l ⟨dst, src, seq, kind, par, dat⟩) (busA l ⟨dst, src, seq, kind, par, dat⟩) w) :=
  (bus2_any v l dst src seq kind par dat w hv).mono fun _ _ ⟨v1, v2, h1, h2, h3, h4, _⟩ => ⟨v1, v2, h1, h2, h3, h4⟩

end Go.Proofs.YtpkhcehddfmhpaaGreat

namespace Go.Proofs.YtpkhcehddfmhpaaGreat
open Go.RowKit

theorem devsL_ones : ∀ (l : List Dev), ∀ u ∈ devsL l, u.oneCell' = true
  | [], u, hu => by cases hu
  | d :: l, u, hu => by
    rcases List.mem_append.1 hu with hu | hu
    · exact dev_ones d u hu
    · exact devsL_ones l u hu

set_option maxHeartbeats 2000000 in
set_option maxRecDepth 100000 in
theorem clone_devs (v : Value) (l : List Dev) (w : World) (hv : DevsAt w v l) (hl : l.length ≤ 1000) :
    Calls Tryz.prog 64 #[v] w fun e w' => ∃ v', e = .returned v' ∧ w'.ownsRow w.heap.size 91 7 v' l.length (devsL l) ∧ Below w.heap.size w w' := by
  obtain ⟨i0, hi, hz0, hz1, hz2⟩ := info_parts Tryz.info_dev
  have q22 : ∀ (w : World) (a : Option Addr) (n c n' c' : Nat), (binOp .eql 25 (.slice a n c) (.slice none n' c')).run Tryz.prog w = .ok (.bool a.isNone) w := fun w a n c n' c' => Lib.run_eql_slice_nil w _ _ a n c n' c' Tryz.underlying25
  have own0 := World.ownsRow_made (e := 91) (size := 7) w #[] 0 (Nat.le_refl _) (Nat.zero_le _) rfl
  rcases hv with ⟨h0, a, cap, rfl⟩ | ⟨h0, h1, b, off, cap, rfl, hlt, hc⟩
  · have hl : l = [] := List.eq_nil_of_length_eq_zero h0
    subst hl
    cases a with
    | none =>
      go_enter Tryz.func64, Tryz.ntmps64
      go_wp2
      go_ret
      exact ⟨_, rfl, World.ownsRow_nil _ _ _ _, Below.refl _ _⟩
    | some a =>
      go_enter Tryz.func64, Tryz.ntmps64
      go_wp2_with (at_builtin; refine wpList_append_own _ rfl _ _ 25 rfl w.heap.size 91 i0 _ 7 56 Tryz.underlying25 hi hz0 hz1 hz2 rfl (by decide) _ _ _ rfl own0 a 0 cap [] rfl ?c0 ?c1 ?c2 ?c3 ?c4 ?c5 ?_)
      case c0 => rfl
      case c1 => intro j u hj; cases hj
      case c2 => intro u hu; cases hu
      case c3 => unfold maxLen; omega
      case c4 => omega
      case c5 => simp
      · intro v' w1 hown hgrow _
        go_wp2
        go_ret
        exact ⟨_, rfl, by simpa [devsL] using hown, ((Below.refl _ w).alloc (Nat.le_refl _) _).grown hgrow (by simp) (by intro k hk; simp [Value.ownBlock] at hk; omega)⟩
  · have A := Lib.hid hc
    clear hc
    go_enter Tryz.func64, Tryz.ntmps64
    go_wp2_with (at_builtin; refine wpList_append_own _ rfl _ _ 25 rfl w.heap.size 91 i0 _ 7 56 Tryz.underlying25 hi hz0 hz1 hz2 rfl (by decide) _ _ _ rfl own0 ⟨b, off, none⟩ l.length cap (devsL l) rfl ?c0 ?c1 ?c2 ?c3 ?c4 ?c5 ?_)
    case c0 => exact devsL_length l
    case c1 =>
      intro j u hj
      have hjn : j < l.length * 7 := by
        have := (List.getElem?_eq_some_iff.1 hj).1
        rw [devsL_length] at this
        exact this
      rw [Addr.add_lit]
      refine Lib.cell?_alloc_some _ ?_
      rw [A.out j hjn, ← devsL_get]
      exact hj
    case c2 => exact devsL_ones l
    case c3 => unfold maxLen; omega
    case c4 => omega
    case c5 => simp
    · intro v' w1 hown hgrow _
      go_wp2
      go_ret
      exact ⟨_, rfl, by simpa using hown, ((Below.refl _ w).alloc (Nat.le_refl _) _).grown hgrow (by simp) (by intro k hk; simp [Value.ownBlock] at hk; omega)⟩
end Go.Proofs.YtpkhcehddfmhpaaGreat
