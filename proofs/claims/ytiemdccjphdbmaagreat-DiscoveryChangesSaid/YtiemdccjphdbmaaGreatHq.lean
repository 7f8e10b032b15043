/-
  What is heard behind a message that seeks devices: the reference.
-/
import Derived.Test.YtiemdccjphdbmaaGreatHr
import Derived.Test.YtiemdccjphdbmaaGreatRovr
import Derived.Test.YtiemdccjphdbmaaGreatRreqM
import Derived.Test.YtiemdccjphdbmaaGreatRenc
import Derived.Deep.RegionWith
import Derived.Deep.RegionHeld
import Derived.Deep.RegionHeld3
namespace Go.Proofs.YtiemdccjphdbmaaGreat
open Go.RowKit

set_option maxHeartbeats 400000 in
theorem number48_any (s : ByteArray) (w : World) (hs : s.size ≤ 7) :
    Calls Tryz.prog 76 #[.string s] w fun e w' => e = .returned (.int .u64 (numOf s.data.toList)) ∧ w = w' := by
  go_enter Tryz.func76, Tryz.ntmps76
  go_wp2
  go_loop [3, 4] (fun n i => ∃ k : Nat, k ≤ s.size ∧ i = .int .i64 k ∧ n = .int .u64 (numOf (s.data.toList.take k))) (fun _ i => s.size - (intOf i).toNat)
  case atStart => exact ⟨0, Nat.zero_le _, rfl, rfl⟩
  case round =>
    obtain ⟨k, hk, rfl, rfl⟩ := hrel
    by_cases hlt : k < s.size
    · have hb := numOf_take_lt s k (by omega)
      have hsn := numOf_snoc (s.data.toList.take k) s[k]
      have hts := take_snoc s k hlt
      have HS : Hid (numOf (s.data.toList.take (k + 1)) = numOf (s.data.toList.take k) * 256 + s[k].toNat) := by rw [hts]; exact hsn
      clear hsn hts
      go_wp2
      go_round
      case rel => exact ⟨k + 1, by omega, by go_num, by rw [HS.out, Int.mul_comm, num_add _ _ hb]⟩
      case measure => simp [intOf]; omega
    · go_wp2
      go_ret
      exact ⟨ret_int (by rw [List.take_of_length_le (by simp; omega)]), rfl⟩

theorem chk_twelve {m : Msg} (h : chk m = 0) (hk : m.kind = 1) : m.dat.size = 12 := by
  unfold chk at h
  rw [hk] at h
  simp only [lenOf, if_true] at h
  repeat' split at h
  all_goals first | (cases h; done) | omega

theorem texts_short (l : List Msg) (hc : ∀ a ∈ l, chk a = 0) : (textsM l).any tooLong = false := by
  rw [List.any_eq_false]
  intro s hs
  simp only [textsM, List.mem_map] at hs
  obtain ⟨a, ha, rfl⟩ := hs
  have := (small_of_chk (hc a ha))
  have hz : (str (madeL a)).size = 21 + a.dat.size := by rw [str_size, madeL_length]
  simp [tooLong, hz]
  omega

set_option maxHeartbeats 4000000 in
set_option maxRecDepth 100000 in
theorem runderstood_any (v : Value) (l : List Msg) (dst src seq kind par : Int) (dat : ByteArray) (w : World) (hv : MsgsAt w v l) (hl : l.length ≤ 64) (hc : ∀ a ∈ l, chk a = 0) (hm : chk ⟨dst, src, seq, kind, par, dat⟩ = 0) (hk : kind = 1) :
    Calls Tryz.prog 45 #[.agg #[.int .u64 dst, .int .u64 src, .int .i64 seq, .int .i64 kind, .int .i64 par, .string dat], v] w fun e w' => ∃ k id, e = .returned (.tuple #[.int .i64 k, .int .u64 id]) ∧ Hid (hearM ⟨dst, src, seq, kind, par, dat⟩ l = (k, id)) ∧ Below w.heap.size w w' := by
  obtain ⟨i0, hi, hz0, hz1, hz2⟩ := info_parts Tryz.info_strH
  have HC := Lib.hid hc
  have HM := Lib.hid hm
  have HK := Lib.hid hk
  clear hc hm hk
  rcases hv with ⟨h0, a, cap, rfl⟩ | ⟨h0, h1, b, off, cap, rfl, hlt, hcel⟩
  · have hl0 : l = [] := List.eq_nil_of_length_eq_zero h0
    subst hl0
    go_enter Tryz.func45, Tryz.ntmps45
    go_wp2
    go_ret2
    exact ⟨0, 0, rfl, rfl, by (repeat' (first | (with_reducible exact Below.refl _ _) | (with_reducible assumption) | (with_reducible refine below_drewN ?_ _) | (with_reducible refine Below.drew ?_) | (with_reducible refine Below.setCell ?_ ?_ _) | (with_reducible refine Below.alloc ?_ ?_ _) | (with_reducible refine below_after ?_ ?_ (by assumption)) | (show _ ≤ _; first | omega | (simp; done) | (simp; omega))))⟩
  · have h4 : (0 : Int) < (l.length : Int) := by omega
    have h5 : ((l.length : Int) == 0) = false := beq_eq_false_iff_ne.2 (by omega)
    have hne : l ≠ [] := fun e => by rw [e] at h0; simp at h0
    have HNE := Lib.hid hne
    clear hne
    go_enter Tryz.func45, Tryz.ntmps45
    go_wp2
    go_loopw [6, 7] (fun v6 i wr => ∃ k : Nat, k ≤ l.length ∧ i = .int .i64 k ∧ wr.ownsRow (w.heap.size + 1) 9 1 v6 k (strsV ((textsM l).take k)) ∧ RowAt wr w.heap.size 43 #[.int .u64 dst, .int .u64 src, .int .i64 seq, .int .i64 kind, .int .i64 par, .string dat] ∧ Below w.heap.size w wr ∧ w.heap.size + 1 ≤ wr.heap.size) (fun _ i _ => l.length - (intOf i).toNat)
    case atStart => exact ⟨0, Nat.zero_le _, rfl, World.ownsRow_nil _ _ _ _, RowAt.mk rfl rfl, by (repeat' (first | (with_reducible exact Below.refl _ _) | (with_reducible assumption) | (with_reducible refine below_drewN ?_ _) | (with_reducible refine Below.drew ?_) | (with_reducible refine Below.setCell ?_ ?_ _) | (with_reducible refine Below.alloc ?_ ?_ _) | (with_reducible refine below_after ?_ ?_ (by assumption)) | (show _ ≤ _; first | omega | (simp; done) | (simp; omega)))), by simp⟩
    case round =>
      obtain ⟨k, hk, rfl, hown, hR, hb0, hzr⟩ := hrel
      by_cases hlt2 : k < l.length
      · have hlt3 : (k : Int) < (l.length : Int) := by omega
        have hw1 : ∀ j, j < l.length * 6 → wr.cell? ⟨b, off + j, none⟩ = msgsC l j := fun j hj => (hb0.cell (p := ⟨b, off + j, none⟩) hlt).trans (hcel j hj)
        obtain ⟨a, ha, e0, e1, e2, e3, e4, e5⟩ := msg_cells hw1 k hlt2
        have hca := HC.out a (List.mem_of_getElem? ha)
        have C : Hid (∀ W, Calls Tryz.prog 72 #[.agg #[.int .u64 a.dst, .int .u64 a.src, .int .i64 a.seq, .int .i64 a.kind, .int .i64 a.par, .string a.dat]] W fun e w' => e = .returned (.string (str (madeL a))) ∧ Below W.heap.size W w') := fun W => refmade_any a.dst a.src a.seq a.kind a.par a.dat W hca
        have hT : strsV ((textsM l).take (k + 1)) = strsV ((textsM l).take k) ++ [.string (str (madeL a))] := by
          have : (textsM l)[k]? = some (str (madeL a)) := by simp [textsM, ha]
          rw [take_succ_some this]
          simp [strsV]
        have HT := Lib.hid hT
        obtain ⟨t, ht⟩ : ∃ t, str (madeL a) = t := ⟨_, rfl⟩
        rw [ht] at C HT
        clear hw1 hcel hca ha hT ht
        go_wp2_with fail
        refine (C.out _).mono ?_
        rintro e w1 ⟨rfl, hb1⟩
        have own1 := own_run hown hb1
        have hR1 := hR.run hb1
        have hbw := below_run hb0 hb1
        have hz1' := hb1.size
        clear hown hR hb0 hb1 e0 e1 e2 e3 e4 e5
        go_wp2_with (at_builtin; refine wpList_append_own _ rfl (.tmp 21) (.tmp 27) 114 rfl (w.heap.size + 1) 9 i0 _ 1 16 Tryz.underlying114 hi hz0 hz1 hz2 rfl (by decide) _ _ _ rfl (own1.alloc _) ⟨w1.heap.size, 0, none⟩ 1 1 [.string t] rfl rfl ?c1 ?c2 ?c3 ?c4 ?c5 ?_)
        case c1 =>
          intro j u hj
          match j, hj with
          | 0, hj =>
            simp at hj
            subst hj
            have hr0 : RowAt (w1.alloc (.cells #[.string t] 9)) w1.heap.size 9 #[.string t] := RowAt.new _ _ _
            exact (row_facts hr0).1 0
        case c2 => intro u hu; simp at hu; subst hu; rfl
        case c3 => unfold maxLen; omega
        case c4 => omega
        case c5 => simp; omega
        · intro v' w4 hown1 hgrow _
          have hb4 := below_grown (hbw.alloc (by omega) _) (own1.alloc _) (by omega) hgrow (by simp; omega)
          have hR4 := row_two (own1.alloc _) (hR1.alloc _) (by decide) hgrow
          have hz4 := hb4.size
          have hz5 : w.heap.size + 1 ≤ w4.heap.size := lt_of_block hR4
          clear own1 hR1 hgrow hbw
          go_wp2
          go_roundw
          case rel => exact ⟨k + 1, by omega, by go_num, by rw [HT.out]; exact hown1, hR4, hb4, hz5⟩
          case measure => simp [intOf]; omega
      · obtain rfl : k = l.length := by omega
        have htl : (textsM l).length = l.length := by simp [textsM]
        rw [List.take_of_length_le (by omega)] at hown
        have hstr := strs_of hown htl.symm (by omega)
        rcases hstr with ⟨g0, -⟩ | ⟨g0, g1, b2, off2, cap2, rfl, hlt2, hc2⟩
        · omega
        have hlong := texts_short l HC.out
        have CO := Lib.hid (refshown_any b2 off2 cap2 (textsM l) wr g0 (by omega) hlong hlt2 hc2)
        rw [texts_lists, htl] at CO
        rw [htl]
        clear htl
        obtain ⟨t, ht⟩ : ∃ t, str (overL (l.map madeL)) = t := ⟨_, rfl⟩
        have htz : t.size ≤ 100000 := by
          rw [← ht, str_size]
          refine Nat.le_trans (overL_length_le _ 276 fun s hs => ?_) (by decide)
          rw [List.mem_map] at hs
          obtain ⟨a, ha, rfl⟩ := hs
          have := small_of_chk (HC.out a ha)
          rw [madeL_length]
          omega
        have htd : t.data.toList = overL (l.map madeL) := by rw [← ht]; simp [str]
        rw [ht] at CO
        have CD := Lib.hid (fun W => refdec_any t W htz)
        obtain ⟨x, n, hx⟩ : ∃ x n, decM t.data.toList = (x, n) := ⟨_, _, rfl⟩
        have HX := Lib.hid hx
        have HE : Hid (decM (overL (l.map madeL)) = (x, n)) := by rw [← htd]; exact hx
        clear hown hcel ht htz htd hx hc2 hlong hlt2
        go_wp2_with fail
        refine CO.out.mono ?_
        rintro e w1 ⟨rfl, hb1⟩
        have hbw := below_run hb0 hb1
        have hR1 := hR.run hb1
        clear hb0 hb1 hR CO
        go_wp2_with fail
        refine (CD.out _).mono ?_
        rintro e w2 ⟨x', n', rfl, h2o, hb2⟩
        have h2e := h2o.out
        rw [HX.out] at h2e
        obtain ⟨rfl, rfl⟩ := Prod.mk.inj h2e
        have hbw2 := below_run hbw hb2
        have hR2 := hR1.run hb2
        have hz2' := hbw2.size
        clear hbw hb2 hR1 h2o h2e CD
        by_cases hn : n = 0
        · subst hn
          have HH : Hid (hearM ⟨dst, src, seq, kind, par, dat⟩ l = heardX ⟨dst, src, seq, kind, par, dat⟩ x) := by
            show hearM _ l = _
            rw [hearM, if_neg HNE.out, HE.out, if_neg (by simp)]
          obtain ⟨q, hq⟩ : ∃ q, matchesM ⟨dst, src, seq, kind, par, dat⟩ x = q := ⟨_, rfl⟩
          have CM : Hid (∀ W, Calls Tryz.prog 75 #[.agg #[.int .u64 dst, .int .u64 src, .int .i64 seq, .int .i64 kind, .int .i64 par, .string dat], .agg #[.int .u64 x.dst, .int .u64 x.src, .int .i64 x.seq, .int .i64 x.kind, .int .i64 x.par, .string x.dat]] W fun e w' => e = .returned (.bool q) ∧ Below W.heap.size W w') := fun W => by
            have := refmatches_any dst src seq kind par x.dst x.src x.seq x.kind x.par dat x.dat W
            rw [← hq]
            exact this
          have HQ := Lib.hid hq
          clear hq
          cases q with
          | false =>
            go_wp2_with fail
            refine wp_region_noPanic ?_
            refine wp_region_held_drew (S := (fun w' => RowAt w' w.heap.size 43 #[.int .u64 dst, .int .u64 src, .int .i64 seq, .int .i64 kind, .int .i64 par, .string dat] ∧ RowAt w' w2.heap.size 43 #[.int .u64 x.dst, .int .u64 x.src, .int .i64 x.seq, .int .i64 x.kind, .int .i64 x.par, .string x.dat])) (by kernel_rfl) ?_ (fun hHeld => ?_)
            · exact ⟨hR2.alloc _, RowAt.new _ _ _⟩
            refine wpAnyH_take (i := 0) (oi := _) (v := ?_) rfl (by kernel_rfl) (by kernel_rfl) (by kernel_rfl) (fun _ _ _ h => h) (Or.inl ⟨by rfl, ?_⟩) (by assumption) ?_
            rotate_left
            · intro w' hSw
              (obtain ⟨r1, r2⟩ := hSw; obtain ⟨p1, p2, p3, p4, p5, p6⟩ := row_facts r1; obtain ⟨q1, q2, q3, q4, q5, q6⟩ := row_facts r2)
              go_simp
              (try with_reducible rfl)
            (try simp only [Act.put, List.setIfInBounds_toArray, List.set_cons_zero, List.set_cons_succ, List.getElem_toArray, List.getElem_cons_zero])
            refine wpAnyH_take (i := 1) (oi := _) (v := ?_) rfl (by kernel_rfl) (by kernel_rfl) (by kernel_rfl) (fun _ _ _ h => h) (Or.inl ⟨by rfl, ?_⟩) (by assumption) ?_
            rotate_left
            · intro w' hSw
              (obtain ⟨r1, r2⟩ := hSw; obtain ⟨p1, p2, p3, p4, p5, p6⟩ := row_facts r1; obtain ⟨q1, q2, q3, q4, q5, q6⟩ := row_facts r2)
              go_simp
              (try with_reducible rfl)
            (try simp only [Act.put, List.setIfInBounds_toArray, List.set_cons_zero, List.set_cons_succ, List.getElem_toArray, List.getElem_cons_succ, List.getElem_cons_zero])
            refine wpAnyH_take (i := 2) (oi := _) (v := ?_) rfl (by kernel_rfl) (by kernel_rfl) (by kernel_rfl) (fun _ _ _ h => h) (Or.inl ⟨by rfl, ?_⟩) (by assumption) ?_
            rotate_left
            · intro w' hSw
              (obtain ⟨r1, r2⟩ := hSw; obtain ⟨p1, p2, p3, p4, p5, p6⟩ := row_facts r1; obtain ⟨q1, q2, q3, q4, q5, q6⟩ := row_facts r2)
              go_simp
              (try with_reducible rfl)
            (try simp only [Act.put, List.setIfInBounds_toArray, List.set_cons_zero, List.set_cons_succ, List.getElem_toArray, List.getElem_cons_succ, List.getElem_cons_zero])
            refine wpAnyH_take (i := 3) (oi := _) (v := ?_) rfl (by kernel_rfl) (by kernel_rfl) (by kernel_rfl) (fun _ _ _ h => h) (Or.inl ⟨by rfl, ?_⟩) (by assumption) ?_
            rotate_left
            · intro w' hSw
              (obtain ⟨r1, r2⟩ := hSw; obtain ⟨p1, p2, p3, p4, p5, p6⟩ := row_facts r1; obtain ⟨q1, q2, q3, q4, q5, q6⟩ := row_facts r2)
              go_simp
              (try with_reducible rfl)
            (try simp only [Act.put, List.setIfInBounds_toArray, List.set_cons_zero, List.set_cons_succ, List.getElem_toArray, List.getElem_cons_succ, List.getElem_cons_zero])
            refine wpAnyH_take (i := 4) (oi := _) (v := ?_) rfl (by kernel_rfl) (by kernel_rfl) (by kernel_rfl) (fun _ _ _ h => h) (Or.inl ⟨by rfl, ?_⟩) (by assumption) ?_
            rotate_left
            · intro w' hSw
              (obtain ⟨r1, r2⟩ := hSw; obtain ⟨p1, p2, p3, p4, p5, p6⟩ := row_facts r1; obtain ⟨q1, q2, q3, q4, q5, q6⟩ := row_facts r2)
              go_simp
              (try with_reducible rfl)
            (try simp only [Act.put, List.setIfInBounds_toArray, List.set_cons_zero, List.set_cons_succ, List.getElem_toArray, List.getElem_cons_succ, List.getElem_cons_zero])
            refine wpAnyH_ready (rs := [5]) (by kernel_rfl) (by simp) ?_
            refine AllReadyH.cons (o := _) rfl (fun K hK => ?_) AllReadyH.nil
            go_simp
            (go_at_call 75; with_reducible refine (CM.out _).mono ?_; rintro e u1 ⟨rfl, hbu1⟩)
            refine hK.out _ _ ?_ (fun hHeld => ?_)
            · exact ⟨RowAt.run hHeld.1 hbu1, RowAt.run hHeld.2 hbu1⟩
            (try simp only [Act.put, List.setIfInBounds_toArray, List.set_cons_zero, List.set_cons_succ, List.getElem_toArray, List.getElem_cons_succ, List.getElem_cons_zero])
            refine wpAnyH_take (i := 6) (oi := _) (v := ?_) rfl (by kernel_rfl) (by kernel_rfl) (by kernel_rfl) (fun _ _ _ h => h) (Or.inl ⟨by rfl, ?_⟩) (by assumption) ?_
            rotate_left
            · intro w' hSw
              (obtain ⟨r1, r2⟩ := hSw; obtain ⟨p1, p2, p3, p4, p5, p6⟩ := row_facts r1; obtain ⟨q1, q2, q3, q4, q5, q6⟩ := row_facts r2)
              go_simp
              (try with_reducible rfl)
            (try simp only [Act.put, List.setIfInBounds_toArray, List.set_cons_zero, List.set_cons_succ, List.getElem_toArray, List.getElem_cons_succ, List.getElem_cons_zero])
            refine wpAnyH_take (i := 7) (oi := _) (v := ?_) rfl (by kernel_rfl) (by kernel_rfl) (by kernel_rfl) (fun _ _ _ h => h) (Or.inl ⟨by rfl, ?_⟩) (by assumption) ?_
            rotate_left
            · intro w' hSw
              (obtain ⟨r1, r2⟩ := hSw; obtain ⟨p1, p2, p3, p4, p5, p6⟩ := row_facts r1; obtain ⟨q1, q2, q3, q4, q5, q6⟩ := row_facts r2)
              go_simp
              (try with_reducible rfl)
            (try simp only [Act.put, List.setIfInBounds_toArray, List.set_cons_zero, List.set_cons_succ, List.getElem_toArray, List.getElem_cons_succ, List.getElem_cons_zero])
            refine wpAnyH_take (i := 8) (oi := _) (v := ?_) rfl (by kernel_rfl) (by kernel_rfl) (by kernel_rfl) (fun _ _ _ h => h) (Or.inl ⟨by rfl, ?_⟩) (by assumption) ?_
            rotate_left
            · intro w' hSw
              (obtain ⟨r1, r2⟩ := hSw; obtain ⟨p1, p2, p3, p4, p5, p6⟩ := row_facts r1; obtain ⟨q1, q2, q3, q4, q5, q6⟩ := row_facts r2)
              go_simp
              (try with_reducible rfl)
            (try simp only [Act.put, List.setIfInBounds_toArray, List.set_cons_zero, List.set_cons_succ, List.getElem_toArray, List.getElem_cons_succ, List.getElem_cons_zero])
            refine wpAnyH_take (i := 9) (oi := _) (v := undef) rfl (by kernel_rfl) (by kernel_rfl) (by kernel_rfl) (fun _ _ _ h => h) (Or.inr ⟨by rfl, rfl⟩) (by assumption) ?_
            (try simp only [Act.put, List.setIfInBounds_toArray, List.set_cons_zero, List.set_cons_succ, List.getElem_toArray, List.getElem_cons_succ, List.getElem_cons_zero])
            refine wpAnyH_take (i := 10) (oi := _) (v := undef) rfl (by kernel_rfl) (by kernel_rfl) (by kernel_rfl) (fun _ _ _ h => h) (Or.inr ⟨by rfl, rfl⟩) (by assumption) ?_
            (try simp only [Act.put, List.setIfInBounds_toArray, List.set_cons_zero, List.set_cons_succ, List.getElem_toArray, List.getElem_cons_succ, List.getElem_cons_zero])
            refine wpAnyH_take (i := 11) (oi := _) (v := undef) rfl (by kernel_rfl) (by kernel_rfl) (by kernel_rfl) (fun _ _ _ h => h) (Or.inr ⟨by rfl, rfl⟩) (by assumption) ?_
            (try simp only [Act.put, List.setIfInBounds_toArray, List.set_cons_zero, List.set_cons_succ, List.getElem_toArray, List.getElem_cons_succ, List.getElem_cons_zero])
            refine wpAnyH_take (i := 12) (oi := _) (v := ?_) rfl (by kernel_rfl) (by kernel_rfl) (by kernel_rfl) (fun _ _ _ h => h) (Or.inl ⟨by rfl, ?_⟩) (by assumption) ?_
            rotate_left
            · intro w' hSw
              (obtain ⟨r1, r2⟩ := hSw; obtain ⟨p1, p2, p3, p4, p5, p6⟩ := row_facts r1; obtain ⟨q1, q2, q3, q4, q5, q6⟩ := row_facts r2)
              go_simp
              (try with_reducible rfl)
            (try simp only [Act.put, List.setIfInBounds_toArray, List.set_cons_zero, List.set_cons_succ, List.getElem_toArray, List.getElem_cons_succ, List.getElem_cons_zero])
            refine wpAnyH_take (i := 13) (oi := _) (v := ?_) rfl (by kernel_rfl) (by kernel_rfl) (by kernel_rfl) (fun _ _ _ h => h) (Or.inl ⟨by rfl, ?_⟩) (by assumption) ?_
            rotate_left
            · intro w' hSw
              (obtain ⟨r1, r2⟩ := hSw; obtain ⟨p1, p2, p3, p4, p5, p6⟩ := row_facts r1; obtain ⟨q1, q2, q3, q4, q5, q6⟩ := row_facts r2)
              go_simp
              (try with_reducible rfl)
            (try simp only [Act.put, List.setIfInBounds_toArray, List.set_cons_zero, List.set_cons_succ, List.getElem_toArray, List.getElem_cons_succ, List.getElem_cons_zero])
            refine wpAnyH_take (i := 14) (oi := _) (v := undef) rfl (by kernel_rfl) (by kernel_rfl) (by kernel_rfl) (fun _ _ _ h => h) (Or.inr ⟨by rfl, rfl⟩) (by assumption) ?_
            (try simp only [Act.put, List.setIfInBounds_toArray, List.set_cons_zero, List.set_cons_succ, List.getElem_toArray, List.getElem_cons_succ, List.getElem_cons_zero])
            refine wpAnyH_take (i := 15) (oi := _) (v := undef) rfl (by kernel_rfl) (by kernel_rfl) (by kernel_rfl) (fun _ _ _ h => h) (Or.inr ⟨by rfl, rfl⟩) (by assumption) ?_
            (try simp only [Act.put, List.setIfInBounds_toArray, List.set_cons_zero, List.set_cons_succ, List.getElem_toArray, List.getElem_cons_succ, List.getElem_cons_zero])
            refine wpAnyH_take (i := 16) (oi := _) (v := undef) rfl (by kernel_rfl) (by kernel_rfl) (by kernel_rfl) (fun _ _ _ h => h) (Or.inr ⟨by rfl, rfl⟩) (by assumption) ?_
            (try simp only [Act.put, List.setIfInBounds_toArray, List.set_cons_zero, List.set_cons_succ, List.getElem_toArray, List.getElem_cons_succ, List.getElem_cons_zero])
            refine wpAnyH_take (i := 17) (oi := _) (v := undef) rfl (by kernel_rfl) (by kernel_rfl) (by kernel_rfl) (fun _ _ _ h => h) (Or.inr ⟨by rfl, rfl⟩) (by assumption) ?_
            (try simp only [Act.put, List.setIfInBounds_toArray, List.set_cons_zero, List.set_cons_succ, List.getElem_toArray, List.getElem_cons_succ, List.getElem_cons_zero])
            refine wpAnyH_take (i := 18) (oi := _) (v := ?_) rfl (by kernel_rfl) (by kernel_rfl) (by kernel_rfl) (fun _ _ _ h => h) (Or.inl ⟨by rfl, ?_⟩) (by assumption) ?_
            rotate_left
            · intro w' hSw
              (obtain ⟨r1, r2⟩ := hSw; obtain ⟨p1, p2, p3, p4, p5, p6⟩ := row_facts r1; obtain ⟨q1, q2, q3, q4, q5, q6⟩ := row_facts r2)
              go_simp
              (try with_reducible rfl)
            (try simp only [Act.put, List.setIfInBounds_toArray, List.set_cons_zero, List.set_cons_succ, List.getElem_toArray, List.getElem_cons_succ, List.getElem_cons_zero])
            refine wpAnyH_take (i := 19) (oi := _) (v := ?_) rfl (by kernel_rfl) (by kernel_rfl) (by kernel_rfl) (fun _ _ _ h => h) (Or.inl ⟨by rfl, ?_⟩) (by assumption) ?_
            rotate_left
            · intro w' hSw
              (obtain ⟨r1, r2⟩ := hSw; obtain ⟨p1, p2, p3, p4, p5, p6⟩ := row_facts r1; obtain ⟨q1, q2, q3, q4, q5, q6⟩ := row_facts r2)
              go_simp
              (try with_reducible rfl)
            (try simp only [Act.put, List.setIfInBounds_toArray, List.set_cons_zero, List.set_cons_succ, List.getElem_toArray, List.getElem_cons_succ, List.getElem_cons_zero])
            refine wpAnyH_take (i := 20) (oi := _) (v := undef) rfl (by kernel_rfl) (by kernel_rfl) (by kernel_rfl) (fun _ _ _ h => h) (Or.inr ⟨by rfl, rfl⟩) (by assumption) ?_
            (try simp only [Act.put, List.setIfInBounds_toArray, List.set_cons_zero, List.set_cons_succ, List.getElem_toArray, List.getElem_cons_succ, List.getElem_cons_zero])
            refine wpAnyH_take (i := 21) (oi := _) (v := undef) rfl (by kernel_rfl) (by kernel_rfl) (by kernel_rfl) (fun _ _ _ h => h) (Or.inr ⟨by rfl, rfl⟩) (by assumption) ?_
            (try simp only [Act.put, List.setIfInBounds_toArray, List.set_cons_zero, List.set_cons_succ, List.getElem_toArray, List.getElem_cons_succ, List.getElem_cons_zero])
            refine wpAnyH_take (i := 22) (oi := _) (v := undef) rfl (by kernel_rfl) (by kernel_rfl) (by kernel_rfl) (fun _ _ _ h => h) (Or.inr ⟨by rfl, rfl⟩) (by assumption) ?_
            (try simp only [Act.put, List.setIfInBounds_toArray, List.set_cons_zero, List.set_cons_succ, List.getElem_toArray, List.getElem_cons_succ, List.getElem_cons_zero])
            refine wpAnyH_take (i := 23) (oi := _) (v := undef) rfl (by kernel_rfl) (by kernel_rfl) (by kernel_rfl) (fun _ _ _ h => h) (Or.inr ⟨by rfl, rfl⟩) (by assumption) ?_
            (try simp only [Act.put, List.setIfInBounds_toArray, List.set_cons_zero, List.set_cons_succ, List.getElem_toArray, List.getElem_cons_succ, List.getElem_cons_zero])
            refine wpAnyH_take (i := 24) (oi := _) (v := undef) rfl (by kernel_rfl) (by kernel_rfl) (by kernel_rfl) (fun _ _ _ h => h) (Or.inr ⟨by rfl, rfl⟩) (by assumption) ?_
            (try simp only [Act.put, List.setIfInBounds_toArray, List.set_cons_zero, List.set_cons_succ, List.getElem_toArray, List.getElem_cons_succ, List.getElem_cons_zero])
            refine wpAnyH_take (i := 25) (oi := _) (v := undef) rfl (by kernel_rfl) (by kernel_rfl) (by kernel_rfl) (fun _ _ _ h => h) (Or.inr ⟨by rfl, rfl⟩) (by assumption) ?_
            (try simp only [Act.put, List.setIfInBounds_toArray, List.set_cons_zero, List.set_cons_succ, List.getElem_toArray, List.getElem_cons_succ, List.getElem_cons_zero])
            refine wpAnyH_take (i := 26) (oi := _) (v := ?_) rfl (by kernel_rfl) (by kernel_rfl) (by kernel_rfl) (fun _ _ _ h => h) (Or.inl ⟨by rfl, ?_⟩) (by assumption) ?_
            rotate_left
            · intro w' hSw
              (obtain ⟨r1, r2⟩ := hSw; obtain ⟨p1, p2, p3, p4, p5, p6⟩ := row_facts r1; obtain ⟨q1, q2, q3, q4, q5, q6⟩ := row_facts r2)
              go_simp
              (try with_reducible rfl)
            (try simp only [Act.put, List.setIfInBounds_toArray, List.set_cons_zero, List.set_cons_succ, List.getElem_toArray, List.getElem_cons_succ, List.getElem_cons_zero])
            refine wpAnyH_done (by kernel_rfl) ?_ _
            refine NoPanic.normal ?_
            go_wp2
            go_ret2
            refine ⟨2, 0, rfl, ?_, by (repeat' (first | (with_reducible exact Below.refl _ _) | (with_reducible assumption) | (with_reducible refine below_run ?_ (by assumption)) | (with_reducible refine below_of_upd ?_ (by assumption) ?_) | (with_reducible refine below_drewN ?_ _) | (with_reducible refine Below.drew ?_) | (with_reducible refine Below.setCell ?_ ?_ _) | (with_reducible refine Below.alloc ?_ ?_ _) | (with_reducible refine below_after ?_ ?_ (by assumption)) | (show _ ≤ _; first | omega | (simp; done) | (simp; omega))))⟩
            show hearM _ l = (2, 0)
            rw [HH.out, heardX, if_pos (.inl HQ.out)]
          | true =>
            obtain ⟨kq, hkq⟩ : ∃ kq, (x.kind != 6) = kq := ⟨_, rfl⟩
            cases kq with
            | true =>
              have HKQ : Hid (x.kind ≠ 6) := bne_iff_ne.1 hkq
              go_wp2_with fail
              refine wp_region_noPanic ?_
              refine wp_region_held_drew (S := (fun w' => RowAt w' w.heap.size 43 #[.int .u64 dst, .int .u64 src, .int .i64 seq, .int .i64 kind, .int .i64 par, .string dat] ∧ RowAt w' w2.heap.size 43 #[.int .u64 x.dst, .int .u64 x.src, .int .i64 x.seq, .int .i64 x.kind, .int .i64 x.par, .string x.dat])) (by kernel_rfl) ?_ (fun hHeld => ?_)
              · exact ⟨hR2.alloc _, RowAt.new _ _ _⟩
              refine wpAnyH_take (i := 0) (oi := _) (v := ?_) rfl (by kernel_rfl) (by kernel_rfl) (by kernel_rfl) (fun _ _ _ h => h) (Or.inl ⟨by rfl, ?_⟩) (by assumption) ?_
              rotate_left
              · intro w' hSw
                (obtain ⟨r1, r2⟩ := hSw; obtain ⟨p1, p2, p3, p4, p5, p6⟩ := row_facts r1; obtain ⟨q1, q2, q3, q4, q5, q6⟩ := row_facts r2)
                go_simp
                (try with_reducible rfl)
              (try simp only [Act.put, List.setIfInBounds_toArray, List.set_cons_zero, List.set_cons_succ, List.getElem_toArray, List.getElem_cons_zero])
              refine wpAnyH_take (i := 1) (oi := _) (v := ?_) rfl (by kernel_rfl) (by kernel_rfl) (by kernel_rfl) (fun _ _ _ h => h) (Or.inl ⟨by rfl, ?_⟩) (by assumption) ?_
              rotate_left
              · intro w' hSw
                (obtain ⟨r1, r2⟩ := hSw; obtain ⟨p1, p2, p3, p4, p5, p6⟩ := row_facts r1; obtain ⟨q1, q2, q3, q4, q5, q6⟩ := row_facts r2)
                go_simp
                (try with_reducible rfl)
              (try simp only [Act.put, List.setIfInBounds_toArray, List.set_cons_zero, List.set_cons_succ, List.getElem_toArray, List.getElem_cons_succ, List.getElem_cons_zero])
              refine wpAnyH_take (i := 2) (oi := _) (v := ?_) rfl (by kernel_rfl) (by kernel_rfl) (by kernel_rfl) (fun _ _ _ h => h) (Or.inl ⟨by rfl, ?_⟩) (by assumption) ?_
              rotate_left
              · intro w' hSw
                (obtain ⟨r1, r2⟩ := hSw; obtain ⟨p1, p2, p3, p4, p5, p6⟩ := row_facts r1; obtain ⟨q1, q2, q3, q4, q5, q6⟩ := row_facts r2)
                go_simp
                (try with_reducible rfl)
              (try simp only [Act.put, List.setIfInBounds_toArray, List.set_cons_zero, List.set_cons_succ, List.getElem_toArray, List.getElem_cons_succ, List.getElem_cons_zero])
              refine wpAnyH_take (i := 3) (oi := _) (v := ?_) rfl (by kernel_rfl) (by kernel_rfl) (by kernel_rfl) (fun _ _ _ h => h) (Or.inl ⟨by rfl, ?_⟩) (by assumption) ?_
              rotate_left
              · intro w' hSw
                (obtain ⟨r1, r2⟩ := hSw; obtain ⟨p1, p2, p3, p4, p5, p6⟩ := row_facts r1; obtain ⟨q1, q2, q3, q4, q5, q6⟩ := row_facts r2)
                go_simp
                (try with_reducible rfl)
              (try simp only [Act.put, List.setIfInBounds_toArray, List.set_cons_zero, List.set_cons_succ, List.getElem_toArray, List.getElem_cons_succ, List.getElem_cons_zero])
              refine wpAnyH_take (i := 4) (oi := _) (v := ?_) rfl (by kernel_rfl) (by kernel_rfl) (by kernel_rfl) (fun _ _ _ h => h) (Or.inl ⟨by rfl, ?_⟩) (by assumption) ?_
              rotate_left
              · intro w' hSw
                (obtain ⟨r1, r2⟩ := hSw; obtain ⟨p1, p2, p3, p4, p5, p6⟩ := row_facts r1; obtain ⟨q1, q2, q3, q4, q5, q6⟩ := row_facts r2)
                go_simp
                (try with_reducible rfl)
              (try simp only [Act.put, List.setIfInBounds_toArray, List.set_cons_zero, List.set_cons_succ, List.getElem_toArray, List.getElem_cons_succ, List.getElem_cons_zero])
              refine wpAnyH_ready (rs := [5]) (by kernel_rfl) (by simp) ?_
              refine AllReadyH.cons (o := _) rfl (fun K hK => ?_) AllReadyH.nil
              go_simp
              (go_at_call 75; with_reducible refine (CM.out _).mono ?_; rintro e u1 ⟨rfl, hbu1⟩)
              refine hK.out _ _ ?_ (fun hHeld => ?_)
              · exact ⟨RowAt.run hHeld.1 hbu1, RowAt.run hHeld.2 hbu1⟩
              (try simp only [Act.put, List.setIfInBounds_toArray, List.set_cons_zero, List.set_cons_succ, List.getElem_toArray, List.getElem_cons_succ, List.getElem_cons_zero])
              refine wpAnyH_take (i := 6) (oi := _) (v := ?_) rfl (by kernel_rfl) (by kernel_rfl) (by kernel_rfl) (fun _ _ _ h => h) (Or.inl ⟨by rfl, ?_⟩) (by assumption) ?_
              rotate_left
              · intro w' hSw
                (obtain ⟨r1, r2⟩ := hSw; obtain ⟨p1, p2, p3, p4, p5, p6⟩ := row_facts r1; obtain ⟨q1, q2, q3, q4, q5, q6⟩ := row_facts r2)
                go_simp
                (try with_reducible rfl)
              (try simp only [Act.put, List.setIfInBounds_toArray, List.set_cons_zero, List.set_cons_succ, List.getElem_toArray, List.getElem_cons_succ, List.getElem_cons_zero])
              refine wpAnyH_take (i := 7) (oi := _) (v := ?_) rfl (by kernel_rfl) (by kernel_rfl) (by kernel_rfl) (fun _ _ _ h => h) (Or.inl ⟨by rfl, ?_⟩) (by assumption) ?_
              rotate_left
              · intro w' hSw
                (obtain ⟨r1, r2⟩ := hSw; obtain ⟨p1, p2, p3, p4, p5, p6⟩ := row_facts r1; obtain ⟨q1, q2, q3, q4, q5, q6⟩ := row_facts r2)
                go_simp
                (try with_reducible rfl)
              (try simp only [Act.put, List.setIfInBounds_toArray, List.set_cons_zero, List.set_cons_succ, List.getElem_toArray, List.getElem_cons_succ, List.getElem_cons_zero])
              refine wpAnyH_take (i := 8) (oi := _) (v := ?_) rfl (by kernel_rfl) (by kernel_rfl) (by kernel_rfl) (fun _ _ _ h => h) (Or.inl ⟨by rfl, ?_⟩) (by assumption) ?_
              rotate_left
              · intro w' hSw
                (obtain ⟨r1, r2⟩ := hSw; obtain ⟨p1, p2, p3, p4, p5, p6⟩ := row_facts r1; obtain ⟨q1, q2, q3, q4, q5, q6⟩ := row_facts r2)
                go_simp
                (try with_reducible rfl)
              (try simp only [Act.put, List.setIfInBounds_toArray, List.set_cons_zero, List.set_cons_succ, List.getElem_toArray, List.getElem_cons_succ, List.getElem_cons_zero])
              refine wpAnyH_take (i := 9) (oi := _) (v := ?_) rfl (by kernel_rfl) (by kernel_rfl) (by kernel_rfl) (fun _ _ _ h => h) (Or.inl ⟨by rfl, ?_⟩) (by assumption) ?_
              rotate_left
              · intro w' hSw
                (obtain ⟨r1, r2⟩ := hSw; obtain ⟨p1, p2, p3, p4, p5, p6⟩ := row_facts r1; obtain ⟨q1, q2, q3, q4, q5, q6⟩ := row_facts r2)
                go_simp
                (try with_reducible rfl)
              (try simp only [Act.put, List.setIfInBounds_toArray, List.set_cons_zero, List.set_cons_succ, List.getElem_toArray, List.getElem_cons_succ, List.getElem_cons_zero])
              refine wpAnyH_take (i := 10) (oi := _) (v := ?_) rfl (by kernel_rfl) (by kernel_rfl) (by kernel_rfl) (fun _ _ _ h => h) (Or.inl ⟨by rfl, ?_⟩) (by assumption) ?_
              rotate_left
              · intro w' hSw
                (obtain ⟨r1, r2⟩ := hSw; obtain ⟨p1, p2, p3, p4, p5, p6⟩ := row_facts r1; obtain ⟨q1, q2, q3, q4, q5, q6⟩ := row_facts r2)
                go_simp
                (try with_reducible rfl)
              (try simp only [Act.put, List.setIfInBounds_toArray, List.set_cons_zero, List.set_cons_succ, List.getElem_toArray, List.getElem_cons_succ, List.getElem_cons_zero])
              refine wpAnyH_take (i := 11) (oi := _) (v := ?_) rfl (by kernel_rfl) (by kernel_rfl) (by kernel_rfl) (fun _ _ _ h => h) (Or.inl ⟨by rfl, ?_⟩) (by assumption) ?_
              rotate_left
              · intro w' hSw
                (obtain ⟨r1, r2⟩ := hSw; obtain ⟨p1, p2, p3, p4, p5, p6⟩ := row_facts r1; obtain ⟨q1, q2, q3, q4, q5, q6⟩ := row_facts r2)
                go_simp
                (try with_reducible rfl)
              (try simp only [Act.put, List.setIfInBounds_toArray, List.set_cons_zero, List.set_cons_succ, List.getElem_toArray, List.getElem_cons_succ, List.getElem_cons_zero])
              refine wpAnyH_take (i := 12) (oi := _) (v := ?_) rfl (by kernel_rfl) (by kernel_rfl) (by kernel_rfl) (fun _ _ _ h => h) (Or.inl ⟨by rfl, ?_⟩) (by assumption) ?_
              rotate_left
              · intro w' hSw
                (obtain ⟨r1, r2⟩ := hSw; obtain ⟨p1, p2, p3, p4, p5, p6⟩ := row_facts r1; obtain ⟨q1, q2, q3, q4, q5, q6⟩ := row_facts r2)
                go_simp
                (try with_reducible rfl)
              (try simp only [Act.put, List.setIfInBounds_toArray, List.set_cons_zero, List.set_cons_succ, List.getElem_toArray, List.getElem_cons_succ, List.getElem_cons_zero])
              refine wpAnyH_take (i := 13) (oi := _) (v := ?_) rfl (by kernel_rfl) (by kernel_rfl) (by kernel_rfl) (fun _ _ _ h => h) (Or.inl ⟨by rfl, ?_⟩) (by assumption) ?_
              rotate_left
              · intro w' hSw
                (obtain ⟨r1, r2⟩ := hSw; obtain ⟨p1, p2, p3, p4, p5, p6⟩ := row_facts r1; obtain ⟨q1, q2, q3, q4, q5, q6⟩ := row_facts r2)
                go_simp
                (try with_reducible rfl)
              (try simp only [Act.put, List.setIfInBounds_toArray, List.set_cons_zero, List.set_cons_succ, List.getElem_toArray, List.getElem_cons_succ, List.getElem_cons_zero])
              refine wpAnyH_take (i := 14) (oi := _) (v := undef) rfl (by kernel_rfl) (by kernel_rfl) (by kernel_rfl) (fun _ _ _ h => h) (Or.inr ⟨by rfl, rfl⟩) (by assumption) ?_
              (try simp only [Act.put, List.setIfInBounds_toArray, List.set_cons_zero, List.set_cons_succ, List.getElem_toArray, List.getElem_cons_succ, List.getElem_cons_zero])
              refine wpAnyH_take (i := 15) (oi := _) (v := undef) rfl (by kernel_rfl) (by kernel_rfl) (by kernel_rfl) (fun _ _ _ h => h) (Or.inr ⟨by rfl, rfl⟩) (by assumption) ?_
              (try simp only [Act.put, List.setIfInBounds_toArray, List.set_cons_zero, List.set_cons_succ, List.getElem_toArray, List.getElem_cons_succ, List.getElem_cons_zero])
              refine wpAnyH_take (i := 16) (oi := _) (v := undef) rfl (by kernel_rfl) (by kernel_rfl) (by kernel_rfl) (fun _ _ _ h => h) (Or.inr ⟨by rfl, rfl⟩) (by assumption) ?_
              (try simp only [Act.put, List.setIfInBounds_toArray, List.set_cons_zero, List.set_cons_succ, List.getElem_toArray, List.getElem_cons_succ, List.getElem_cons_zero])
              refine wpAnyH_take (i := 17) (oi := _) (v := undef) rfl (by kernel_rfl) (by kernel_rfl) (by kernel_rfl) (fun _ _ _ h => h) (Or.inr ⟨by rfl, rfl⟩) (by assumption) ?_
              (try simp only [Act.put, List.setIfInBounds_toArray, List.set_cons_zero, List.set_cons_succ, List.getElem_toArray, List.getElem_cons_succ, List.getElem_cons_zero])
              refine wpAnyH_take (i := 18) (oi := _) (v := ?_) rfl (by kernel_rfl) (by kernel_rfl) (by kernel_rfl) (fun _ _ _ h => h) (Or.inl ⟨by rfl, ?_⟩) (by assumption) ?_
              rotate_left
              · intro w' hSw
                (obtain ⟨r1, r2⟩ := hSw; obtain ⟨p1, p2, p3, p4, p5, p6⟩ := row_facts r1; obtain ⟨q1, q2, q3, q4, q5, q6⟩ := row_facts r2)
                go_simp
                (try with_reducible rfl)
              (try simp only [Act.put, List.setIfInBounds_toArray, List.set_cons_zero, List.set_cons_succ, List.getElem_toArray, List.getElem_cons_succ, List.getElem_cons_zero])
              refine wpAnyH_take (i := 19) (oi := _) (v := ?_) rfl (by kernel_rfl) (by kernel_rfl) (by kernel_rfl) (fun _ _ _ h => h) (Or.inl ⟨by rfl, ?_⟩) (by assumption) ?_
              rotate_left
              · intro w' hSw
                (obtain ⟨r1, r2⟩ := hSw; obtain ⟨p1, p2, p3, p4, p5, p6⟩ := row_facts r1; obtain ⟨q1, q2, q3, q4, q5, q6⟩ := row_facts r2)
                go_simp
                (try with_reducible rfl)
              (try simp only [Act.put, List.setIfInBounds_toArray, List.set_cons_zero, List.set_cons_succ, List.getElem_toArray, List.getElem_cons_succ, List.getElem_cons_zero])
              refine wpAnyH_take (i := 20) (oi := _) (v := undef) rfl (by kernel_rfl) (by kernel_rfl) (by kernel_rfl) (fun _ _ _ h => h) (Or.inr ⟨by rfl, rfl⟩) (by assumption) ?_
              (try simp only [Act.put, List.setIfInBounds_toArray, List.set_cons_zero, List.set_cons_succ, List.getElem_toArray, List.getElem_cons_succ, List.getElem_cons_zero])
              refine wpAnyH_take (i := 21) (oi := _) (v := undef) rfl (by kernel_rfl) (by kernel_rfl) (by kernel_rfl) (fun _ _ _ h => h) (Or.inr ⟨by rfl, rfl⟩) (by assumption) ?_
              (try simp only [Act.put, List.setIfInBounds_toArray, List.set_cons_zero, List.set_cons_succ, List.getElem_toArray, List.getElem_cons_succ, List.getElem_cons_zero])
              refine wpAnyH_take (i := 22) (oi := _) (v := undef) rfl (by kernel_rfl) (by kernel_rfl) (by kernel_rfl) (fun _ _ _ h => h) (Or.inr ⟨by rfl, rfl⟩) (by assumption) ?_
              (try simp only [Act.put, List.setIfInBounds_toArray, List.set_cons_zero, List.set_cons_succ, List.getElem_toArray, List.getElem_cons_succ, List.getElem_cons_zero])
              refine wpAnyH_take (i := 23) (oi := _) (v := undef) rfl (by kernel_rfl) (by kernel_rfl) (by kernel_rfl) (fun _ _ _ h => h) (Or.inr ⟨by rfl, rfl⟩) (by assumption) ?_
              (try simp only [Act.put, List.setIfInBounds_toArray, List.set_cons_zero, List.set_cons_succ, List.getElem_toArray, List.getElem_cons_succ, List.getElem_cons_zero])
              refine wpAnyH_take (i := 24) (oi := _) (v := undef) rfl (by kernel_rfl) (by kernel_rfl) (by kernel_rfl) (fun _ _ _ h => h) (Or.inr ⟨by rfl, rfl⟩) (by assumption) ?_
              (try simp only [Act.put, List.setIfInBounds_toArray, List.set_cons_zero, List.set_cons_succ, List.getElem_toArray, List.getElem_cons_succ, List.getElem_cons_zero])
              refine wpAnyH_take (i := 25) (oi := _) (v := undef) rfl (by kernel_rfl) (by kernel_rfl) (by kernel_rfl) (fun _ _ _ h => h) (Or.inr ⟨by rfl, rfl⟩) (by assumption) ?_
              (try simp only [Act.put, List.setIfInBounds_toArray, List.set_cons_zero, List.set_cons_succ, List.getElem_toArray, List.getElem_cons_succ, List.getElem_cons_zero])
              refine wpAnyH_take (i := 26) (oi := _) (v := ?_) rfl (by kernel_rfl) (by kernel_rfl) (by kernel_rfl) (fun _ _ _ h => h) (Or.inl ⟨by rfl, ?_⟩) (by assumption) ?_
              rotate_left
              · intro w' hSw
                (obtain ⟨r1, r2⟩ := hSw; obtain ⟨p1, p2, p3, p4, p5, p6⟩ := row_facts r1; obtain ⟨q1, q2, q3, q4, q5, q6⟩ := row_facts r2)
                go_simp
                (try with_reducible rfl)
              (try simp only [Act.put, List.setIfInBounds_toArray, List.set_cons_zero, List.set_cons_succ, List.getElem_toArray, List.getElem_cons_succ, List.getElem_cons_zero])
              refine wpAnyH_done (by kernel_rfl) ?_ _
              refine NoPanic.normal ?_
              go_wp2
              go_ret2
              refine ⟨2, 0, rfl, ?_, by (repeat' (first | (with_reducible exact Below.refl _ _) | (with_reducible assumption) | (with_reducible refine below_run ?_ (by assumption)) | (with_reducible refine below_of_upd ?_ (by assumption) ?_) | (with_reducible refine below_drewN ?_ _) | (with_reducible refine Below.drew ?_) | (with_reducible refine Below.setCell ?_ ?_ _) | (with_reducible refine Below.alloc ?_ ?_ _) | (with_reducible refine below_after ?_ ?_ (by assumption)) | (show _ ≤ _; first | omega | (simp; done) | (simp; omega))))⟩
              show hearM _ l = (2, 0)
              rw [HH.out, heardX, if_pos (.inr (.inl HKQ.out))]
            | false =>
              have HKQ : Hid (x.kind = 6) := by
                show x.kind = 6
                simpa using hkq
              by_cases hsz : x.dat.size = 6
              · have hs6 : ((x.dat.size : Int) != 6) = false := by rw [hsz]; rfl
                have CN : Hid (∀ W, Calls Tryz.prog 76 #[.string x.dat] W fun e w' => e = .returned (.int .u64 (numOf x.dat.data.toList : Nat)) ∧ W = w') := fun W => number48_any x.dat W (by omega)
                obtain ⟨N, hN⟩ : ∃ N : Int, ((numOf x.dat.data.toList : Nat) : Int) = N := ⟨_, rfl⟩
                rw [hN] at CN
                have HN := Lib.hid hN
                have HSZ := Lib.hid hsz
                have CE : Hid (∀ W, Calls Tryz.prog 77 #[.agg #[.int .u64 dst, .int .u64 src, .int .i64 seq, .int .i64 kind, .int .i64 par, .string dat]] W fun e w' => ∃ l h, e = .returned (.tuple #[.int .u64 l, .int .u64 h]) ∧ Hid (lowM ⟨dst, src, seq, kind, par, dat⟩ = l ∧ highM ⟨dst, src, seq, kind, par, dat⟩ = h) ∧ Below W.heap.size W w') := fun W => ends_any dst src seq kind par dat W (chk_twelve HM.out HK.out)
                clear hN hsz
                by_cases t1 : N = x.src
                · have t1b : (N != x.src) = false := by rw [t1]; simp
                  have HT1 := Lib.hid t1
                  clear t1
                  go_wp2_with fail
                  refine wp_region_noPanic ?_
                  refine wp_region_held_drew (S := (fun w' => RowAt w' w.heap.size 43 #[.int .u64 dst, .int .u64 src, .int .i64 seq, .int .i64 kind, .int .i64 par, .string dat] ∧ RowAt w' w2.heap.size 43 #[.int .u64 x.dst, .int .u64 x.src, .int .i64 x.seq, .int .i64 x.kind, .int .i64 x.par, .string x.dat])) (by kernel_rfl) ?_ (fun hHeld => ?_)
                  · exact ⟨hR2.alloc _, RowAt.new _ _ _⟩
                  refine wpAnyH_take (i := 0) (oi := _) (v := ?_) rfl (by kernel_rfl) (by kernel_rfl) (by kernel_rfl) (fun _ _ _ h => h) (Or.inl ⟨by rfl, ?_⟩) (by assumption) ?_
                  rotate_left
                  · intro w' hSw
                    (obtain ⟨r1, r2⟩ := hSw; obtain ⟨p1, p2, p3, p4, p5, p6⟩ := row_facts r1; obtain ⟨q1, q2, q3, q4, q5, q6⟩ := row_facts r2)
                    go_simp
                    (try with_reducible rfl)
                  (try simp only [Act.put, List.setIfInBounds_toArray, List.set_cons_zero, List.set_cons_succ, List.getElem_toArray, List.getElem_cons_zero])
                  refine wpAnyH_take (i := 1) (oi := _) (v := ?_) rfl (by kernel_rfl) (by kernel_rfl) (by kernel_rfl) (fun _ _ _ h => h) (Or.inl ⟨by rfl, ?_⟩) (by assumption) ?_
                  rotate_left
                  · intro w' hSw
                    (obtain ⟨r1, r2⟩ := hSw; obtain ⟨p1, p2, p3, p4, p5, p6⟩ := row_facts r1; obtain ⟨q1, q2, q3, q4, q5, q6⟩ := row_facts r2)
                    go_simp
                    (try with_reducible rfl)
                  (try simp only [Act.put, List.setIfInBounds_toArray, List.set_cons_zero, List.set_cons_succ, List.getElem_toArray, List.getElem_cons_succ, List.getElem_cons_zero])
                  refine wpAnyH_take (i := 2) (oi := _) (v := ?_) rfl (by kernel_rfl) (by kernel_rfl) (by kernel_rfl) (fun _ _ _ h => h) (Or.inl ⟨by rfl, ?_⟩) (by assumption) ?_
                  rotate_left
                  · intro w' hSw
                    (obtain ⟨r1, r2⟩ := hSw; obtain ⟨p1, p2, p3, p4, p5, p6⟩ := row_facts r1; obtain ⟨q1, q2, q3, q4, q5, q6⟩ := row_facts r2)
                    go_simp
                    (try with_reducible rfl)
                  (try simp only [Act.put, List.setIfInBounds_toArray, List.set_cons_zero, List.set_cons_succ, List.getElem_toArray, List.getElem_cons_succ, List.getElem_cons_zero])
                  refine wpAnyH_take (i := 3) (oi := _) (v := ?_) rfl (by kernel_rfl) (by kernel_rfl) (by kernel_rfl) (fun _ _ _ h => h) (Or.inl ⟨by rfl, ?_⟩) (by assumption) ?_
                  rotate_left
                  · intro w' hSw
                    (obtain ⟨r1, r2⟩ := hSw; obtain ⟨p1, p2, p3, p4, p5, p6⟩ := row_facts r1; obtain ⟨q1, q2, q3, q4, q5, q6⟩ := row_facts r2)
                    go_simp
                    (try with_reducible rfl)
                  (try simp only [Act.put, List.setIfInBounds_toArray, List.set_cons_zero, List.set_cons_succ, List.getElem_toArray, List.getElem_cons_succ, List.getElem_cons_zero])
                  refine wpAnyH_take (i := 4) (oi := _) (v := ?_) rfl (by kernel_rfl) (by kernel_rfl) (by kernel_rfl) (fun _ _ _ h => h) (Or.inl ⟨by rfl, ?_⟩) (by assumption) ?_
                  rotate_left
                  · intro w' hSw
                    (obtain ⟨r1, r2⟩ := hSw; obtain ⟨p1, p2, p3, p4, p5, p6⟩ := row_facts r1; obtain ⟨q1, q2, q3, q4, q5, q6⟩ := row_facts r2)
                    go_simp
                    (try with_reducible rfl)
                  (try simp only [Act.put, List.setIfInBounds_toArray, List.set_cons_zero, List.set_cons_succ, List.getElem_toArray, List.getElem_cons_succ, List.getElem_cons_zero])
                  refine wpAnyH_ready (rs := [5]) (by kernel_rfl) (by simp) ?_
                  refine AllReadyH.cons (o := _) rfl (fun K hK => ?_) AllReadyH.nil
                  go_simp
                  (go_at_call 75; with_reducible refine (CM.out _).mono ?_; rintro e u1 ⟨rfl, hbu1⟩)
                  refine hK.out _ _ ?_ (fun hHeld => ?_)
                  · exact ⟨RowAt.run hHeld.1 hbu1, RowAt.run hHeld.2 hbu1⟩
                  (try simp only [Act.put, List.setIfInBounds_toArray, List.set_cons_zero, List.set_cons_succ, List.getElem_toArray, List.getElem_cons_succ, List.getElem_cons_zero])
                  refine wpAnyH_take (i := 6) (oi := _) (v := ?_) rfl (by kernel_rfl) (by kernel_rfl) (by kernel_rfl) (fun _ _ _ h => h) (Or.inl ⟨by rfl, ?_⟩) (by assumption) ?_
                  rotate_left
                  · intro w' hSw
                    (obtain ⟨r1, r2⟩ := hSw; obtain ⟨p1, p2, p3, p4, p5, p6⟩ := row_facts r1; obtain ⟨q1, q2, q3, q4, q5, q6⟩ := row_facts r2)
                    go_simp
                    (try with_reducible rfl)
                  (try simp only [Act.put, List.setIfInBounds_toArray, List.set_cons_zero, List.set_cons_succ, List.getElem_toArray, List.getElem_cons_succ, List.getElem_cons_zero])
                  refine wpAnyH_take (i := 7) (oi := _) (v := ?_) rfl (by kernel_rfl) (by kernel_rfl) (by kernel_rfl) (fun _ _ _ h => h) (Or.inl ⟨by rfl, ?_⟩) (by assumption) ?_
                  rotate_left
                  · intro w' hSw
                    (obtain ⟨r1, r2⟩ := hSw; obtain ⟨p1, p2, p3, p4, p5, p6⟩ := row_facts r1; obtain ⟨q1, q2, q3, q4, q5, q6⟩ := row_facts r2)
                    go_simp
                    (try with_reducible rfl)
                  (try simp only [Act.put, List.setIfInBounds_toArray, List.set_cons_zero, List.set_cons_succ, List.getElem_toArray, List.getElem_cons_succ, List.getElem_cons_zero])
                  refine wpAnyH_take (i := 8) (oi := _) (v := ?_) rfl (by kernel_rfl) (by kernel_rfl) (by kernel_rfl) (fun _ _ _ h => h) (Or.inl ⟨by rfl, ?_⟩) (by assumption) ?_
                  rotate_left
                  · intro w' hSw
                    (obtain ⟨r1, r2⟩ := hSw; obtain ⟨p1, p2, p3, p4, p5, p6⟩ := row_facts r1; obtain ⟨q1, q2, q3, q4, q5, q6⟩ := row_facts r2)
                    go_simp
                    (try with_reducible rfl)
                  (try simp only [Act.put, List.setIfInBounds_toArray, List.set_cons_zero, List.set_cons_succ, List.getElem_toArray, List.getElem_cons_succ, List.getElem_cons_zero])
                  refine wpAnyH_take (i := 9) (oi := _) (v := ?_) rfl (by kernel_rfl) (by kernel_rfl) (by kernel_rfl) (fun _ _ _ h => h) (Or.inl ⟨by rfl, ?_⟩) (by assumption) ?_
                  rotate_left
                  · intro w' hSw
                    (obtain ⟨r1, r2⟩ := hSw; obtain ⟨p1, p2, p3, p4, p5, p6⟩ := row_facts r1; obtain ⟨q1, q2, q3, q4, q5, q6⟩ := row_facts r2)
                    go_simp
                    (try with_reducible rfl)
                  (try simp only [Act.put, List.setIfInBounds_toArray, List.set_cons_zero, List.set_cons_succ, List.getElem_toArray, List.getElem_cons_succ, List.getElem_cons_zero])
                  refine wpAnyH_take (i := 10) (oi := _) (v := ?_) rfl (by kernel_rfl) (by kernel_rfl) (by kernel_rfl) (fun _ _ _ h => h) (Or.inl ⟨by rfl, ?_⟩) (by assumption) ?_
                  rotate_left
                  · intro w' hSw
                    (obtain ⟨r1, r2⟩ := hSw; obtain ⟨p1, p2, p3, p4, p5, p6⟩ := row_facts r1; obtain ⟨q1, q2, q3, q4, q5, q6⟩ := row_facts r2)
                    go_simp
                    (try with_reducible rfl)
                  (try simp only [Act.put, List.setIfInBounds_toArray, List.set_cons_zero, List.set_cons_succ, List.getElem_toArray, List.getElem_cons_succ, List.getElem_cons_zero])
                  refine wpAnyH_take (i := 11) (oi := _) (v := ?_) rfl (by kernel_rfl) (by kernel_rfl) (by kernel_rfl) (fun _ _ _ h => h) (Or.inl ⟨by rfl, ?_⟩) (by assumption) ?_
                  rotate_left
                  · intro w' hSw
                    (obtain ⟨r1, r2⟩ := hSw; obtain ⟨p1, p2, p3, p4, p5, p6⟩ := row_facts r1; obtain ⟨q1, q2, q3, q4, q5, q6⟩ := row_facts r2)
                    go_simp
                    (try with_reducible rfl)
                  (try simp only [Act.put, List.setIfInBounds_toArray, List.set_cons_zero, List.set_cons_succ, List.getElem_toArray, List.getElem_cons_succ, List.getElem_cons_zero])
                  refine wpAnyH_take (i := 12) (oi := _) (v := ?_) rfl (by kernel_rfl) (by kernel_rfl) (by kernel_rfl) (fun _ _ _ h => h) (Or.inl ⟨by rfl, ?_⟩) (by assumption) ?_
                  rotate_left
                  · intro w' hSw
                    (obtain ⟨r1, r2⟩ := hSw; obtain ⟨p1, p2, p3, p4, p5, p6⟩ := row_facts r1; obtain ⟨q1, q2, q3, q4, q5, q6⟩ := row_facts r2)
                    go_simp
                    (try with_reducible rfl)
                  (try simp only [Act.put, List.setIfInBounds_toArray, List.set_cons_zero, List.set_cons_succ, List.getElem_toArray, List.getElem_cons_succ, List.getElem_cons_zero])
                  refine wpAnyH_take (i := 13) (oi := _) (v := ?_) rfl (by kernel_rfl) (by kernel_rfl) (by kernel_rfl) (fun _ _ _ h => h) (Or.inl ⟨by rfl, ?_⟩) (by assumption) ?_
                  rotate_left
                  · intro w' hSw
                    (obtain ⟨r1, r2⟩ := hSw; obtain ⟨p1, p2, p3, p4, p5, p6⟩ := row_facts r1; obtain ⟨q1, q2, q3, q4, q5, q6⟩ := row_facts r2)
                    go_simp
                    (try with_reducible rfl)
                  (try simp only [Act.put, List.setIfInBounds_toArray, List.set_cons_zero, List.set_cons_succ, List.getElem_toArray, List.getElem_cons_succ, List.getElem_cons_zero])
                  refine wpAnyH_take (i := 14) (oi := _) (v := ?_) rfl (by kernel_rfl) (by kernel_rfl) (by kernel_rfl) (fun _ _ _ h => h) (Or.inl ⟨by rfl, ?_⟩) (by assumption) ?_
                  rotate_left
                  · intro w' hSw
                    (obtain ⟨r1, r2⟩ := hSw; obtain ⟨p1, p2, p3, p4, p5, p6⟩ := row_facts r1; obtain ⟨q1, q2, q3, q4, q5, q6⟩ := row_facts r2)
                    go_simp
                    (try with_reducible rfl)
                  (try simp only [Act.put, List.setIfInBounds_toArray, List.set_cons_zero, List.set_cons_succ, List.getElem_toArray, List.getElem_cons_succ, List.getElem_cons_zero])
                  refine wpAnyH_take (i := 15) (oi := _) (v := ?_) rfl (by kernel_rfl) (by kernel_rfl) (by kernel_rfl) (fun _ _ _ h => h) (Or.inl ⟨by rfl, ?_⟩) (by assumption) ?_
                  rotate_left
                  · intro w' hSw
                    (obtain ⟨r1, r2⟩ := hSw; obtain ⟨p1, p2, p3, p4, p5, p6⟩ := row_facts r1; obtain ⟨q1, q2, q3, q4, q5, q6⟩ := row_facts r2)
                    go_simp
                    (try with_reducible rfl)
                  (try simp only [Act.put, List.setIfInBounds_toArray, List.set_cons_zero, List.set_cons_succ, List.getElem_toArray, List.getElem_cons_succ, List.getElem_cons_zero])
                  refine wpAnyH_take (i := 16) (oi := _) (v := ?_) rfl (by kernel_rfl) (by kernel_rfl) (by kernel_rfl) (fun _ _ _ h => h) (Or.inl ⟨by rfl, ?_⟩) (by assumption) ?_
                  rotate_left
                  · intro w' hSw
                    (obtain ⟨r1, r2⟩ := hSw; obtain ⟨p1, p2, p3, p4, p5, p6⟩ := row_facts r1; obtain ⟨q1, q2, q3, q4, q5, q6⟩ := row_facts r2)
                    go_simp
                    (try with_reducible rfl)
                  (try simp only [Act.put, List.setIfInBounds_toArray, List.set_cons_zero, List.set_cons_succ, List.getElem_toArray, List.getElem_cons_succ, List.getElem_cons_zero])
                  refine wpAnyH_take (i := 17) (oi := _) (v := ?_) rfl (by kernel_rfl) (by kernel_rfl) (by kernel_rfl) (fun _ _ _ h => h) (Or.inl ⟨by rfl, ?_⟩) (by assumption) ?_
                  rotate_left
                  · intro w' hSw
                    (obtain ⟨r1, r2⟩ := hSw; obtain ⟨p1, p2, p3, p4, p5, p6⟩ := row_facts r1; obtain ⟨q1, q2, q3, q4, q5, q6⟩ := row_facts r2)
                    go_simp
                    (try with_reducible rfl)
                  (try simp only [Act.put, List.setIfInBounds_toArray, List.set_cons_zero, List.set_cons_succ, List.getElem_toArray, List.getElem_cons_succ, List.getElem_cons_zero])
                  refine wpAnyH_take (i := 18) (oi := _) (v := ?_) rfl (by kernel_rfl) (by kernel_rfl) (by kernel_rfl) (fun _ _ _ h => h) (Or.inl ⟨by rfl, ?_⟩) (by assumption) ?_
                  rotate_left
                  · intro w' hSw
                    (obtain ⟨r1, r2⟩ := hSw; obtain ⟨p1, p2, p3, p4, p5, p6⟩ := row_facts r1; obtain ⟨q1, q2, q3, q4, q5, q6⟩ := row_facts r2)
                    go_simp
                    (try with_reducible rfl)
                  (try simp only [Act.put, List.setIfInBounds_toArray, List.set_cons_zero, List.set_cons_succ, List.getElem_toArray, List.getElem_cons_succ, List.getElem_cons_zero])
                  refine wpAnyH_take (i := 19) (oi := _) (v := ?_) rfl (by kernel_rfl) (by kernel_rfl) (by kernel_rfl) (fun _ _ _ h => h) (Or.inl ⟨by rfl, ?_⟩) (by assumption) ?_
                  rotate_left
                  · intro w' hSw
                    (obtain ⟨r1, r2⟩ := hSw; obtain ⟨p1, p2, p3, p4, p5, p6⟩ := row_facts r1; obtain ⟨q1, q2, q3, q4, q5, q6⟩ := row_facts r2)
                    go_simp
                    (try with_reducible rfl)
                  (try simp only [Act.put, List.setIfInBounds_toArray, List.set_cons_zero, List.set_cons_succ, List.getElem_toArray, List.getElem_cons_succ, List.getElem_cons_zero])
                  refine wpAnyH_take (i := 20) (oi := _) (v := ?_) rfl (by kernel_rfl) (by kernel_rfl) (by kernel_rfl) (fun _ _ _ h => h) (Or.inl ⟨by rfl, ?_⟩) (by assumption) ?_
                  rotate_left
                  · intro w' hSw
                    (obtain ⟨r1, r2⟩ := hSw; obtain ⟨p1, p2, p3, p4, p5, p6⟩ := row_facts r1; obtain ⟨q1, q2, q3, q4, q5, q6⟩ := row_facts r2)
                    go_simp
                    (try with_reducible rfl)
                  (try simp only [Act.put, List.setIfInBounds_toArray, List.set_cons_zero, List.set_cons_succ, List.getElem_toArray, List.getElem_cons_succ, List.getElem_cons_zero])
                  refine wpAnyH_take (i := 21) (oi := _) (v := ?_) rfl (by kernel_rfl) (by kernel_rfl) (by kernel_rfl) (fun _ _ _ h => h) (Or.inl ⟨by rfl, ?_⟩) (by assumption) ?_
                  rotate_left
                  · intro w' hSw
                    (obtain ⟨r1, r2⟩ := hSw; obtain ⟨p1, p2, p3, p4, p5, p6⟩ := row_facts r1; obtain ⟨q1, q2, q3, q4, q5, q6⟩ := row_facts r2)
                    go_simp
                    (try with_reducible rfl)
                  (try simp only [Act.put, List.setIfInBounds_toArray, List.set_cons_zero, List.set_cons_succ, List.getElem_toArray, List.getElem_cons_succ, List.getElem_cons_zero])
                  refine wpAnyH_take (i := 23) (oi := _) (v := ?_) rfl (by kernel_rfl) (by kernel_rfl) (by kernel_rfl) (fun _ _ _ h => h) (Or.inl ⟨by rfl, ?_⟩) (by assumption) ?_
                  rotate_left
                  · intro w' hSw
                    (obtain ⟨r1, r2⟩ := hSw; obtain ⟨p1, p2, p3, p4, p5, p6⟩ := row_facts r1; obtain ⟨q1, q2, q3, q4, q5, q6⟩ := row_facts r2)
                    go_simp
                    (try with_reducible rfl)
                  (try simp only [Act.put, List.setIfInBounds_toArray, List.set_cons_zero, List.set_cons_succ, List.getElem_toArray, List.getElem_cons_succ, List.getElem_cons_zero])
                  refine wpAnyH_take (i := 24) (oi := _) (v := ?_) rfl (by kernel_rfl) (by kernel_rfl) (by kernel_rfl) (fun _ _ _ h => h) (Or.inl ⟨by rfl, ?_⟩) (by assumption) ?_
                  rotate_left
                  · intro w' hSw
                    (obtain ⟨r1, r2⟩ := hSw; obtain ⟨p1, p2, p3, p4, p5, p6⟩ := row_facts r1; obtain ⟨q1, q2, q3, q4, q5, q6⟩ := row_facts r2)
                    go_simp
                    (try with_reducible rfl)
                  (try simp only [Act.put, List.setIfInBounds_toArray, List.set_cons_zero, List.set_cons_succ, List.getElem_toArray, List.getElem_cons_succ, List.getElem_cons_zero])
                  refine wpAnyH_ready (rs := [22]) (by kernel_rfl) (by simp) ?_
                  refine AllReadyH.cons (o := _) rfl (fun K hK => ?_) AllReadyH.nil
                  go_simp
                  (go_at_call 76; with_reducible refine (CN.out _).mono ?_; rintro e u2 ⟨rfl, rfl⟩)
                  refine hK.out _ _ ?_ (fun hHeld => ?_)
                  · exact hHeld
                  (try simp only [Act.put, List.setIfInBounds_toArray, List.set_cons_zero, List.set_cons_succ, List.getElem_toArray, List.getElem_cons_succ, List.getElem_cons_zero])
                  refine wpAnyH_take (i := 25) (oi := _) (v := ?_) rfl (by kernel_rfl) (by kernel_rfl) (by kernel_rfl) (fun _ _ _ h => h) (Or.inl ⟨by rfl, ?_⟩) (by assumption) ?_
                  rotate_left
                  · intro w' hSw
                    (obtain ⟨r1, r2⟩ := hSw; obtain ⟨p1, p2, p3, p4, p5, p6⟩ := row_facts r1; obtain ⟨q1, q2, q3, q4, q5, q6⟩ := row_facts r2)
                    go_simp
                    (try with_reducible rfl)
                  (try simp only [Act.put, List.setIfInBounds_toArray, List.set_cons_zero, List.set_cons_succ, List.getElem_toArray, List.getElem_cons_succ, List.getElem_cons_zero])
                  refine wpAnyH_take (i := 26) (oi := _) (v := ?_) rfl (by kernel_rfl) (by kernel_rfl) (by kernel_rfl) (fun _ _ _ h => h) (Or.inl ⟨by rfl, ?_⟩) (by assumption) ?_
                  rotate_left
                  · intro w' hSw
                    (obtain ⟨r1, r2⟩ := hSw; obtain ⟨p1, p2, p3, p4, p5, p6⟩ := row_facts r1; obtain ⟨q1, q2, q3, q4, q5, q6⟩ := row_facts r2)
                    go_simp
                    (try with_reducible rfl)
                  (try simp only [Act.put, List.setIfInBounds_toArray, List.set_cons_zero, List.set_cons_succ, List.getElem_toArray, List.getElem_cons_succ, List.getElem_cons_zero])
                  refine wpAnyH_done (by kernel_rfl) ?_ _
                  refine NoPanic.normal ?_
                  obtain ⟨k1, k2⟩ := hHeld
                  obtain ⟨d1, d2, d3, d4, d5, d6⟩ := row_facts k1
                  obtain ⟨f1, f2, f3, f4, f5, f6⟩ := row_facts k2
                  go_wp2_with fail
                  refine (CE.out _).mono ?_
                  rintro e w4 ⟨lo, hg, rfl, hlo, hb4⟩
                  have k4 := k2.run hb4
                  obtain ⟨g1, g2, g3, g4, g5, g6⟩ := row_facts k4
                  have hbw4 : Below w.heap.size w w4 := by (repeat' (first | (with_reducible exact Below.refl _ _) | (with_reducible assumption) | (with_reducible refine below_run ?_ (by assumption)) | (with_reducible refine below_of_upd ?_ (by assumption) ?_) | (with_reducible refine below_drewN ?_ _) | (with_reducible refine Below.drew ?_) | (with_reducible refine Below.setCell ?_ ?_ _) | (with_reducible refine Below.alloc ?_ ?_ _) | (with_reducible refine below_after ?_ ?_ (by assumption)) | (show _ ≤ _; first | omega | (simp; done) | (simp; omega))))
                  clear hb4 d1 d2 d3 d4 d5 d6 f1 f2 f3 f4 f5 f6 k1 k2
                  by_cases t2 : x.src < lo
                  · have HT2 := Lib.hid t2
                    go_wp2
                    go_ret2
                    refine ⟨2, 0, rfl, ?_, hbw4⟩
                    show hearM _ l = (2, 0)
                    rw [HH.out, heardX, if_neg (by rw [HQ.out, HKQ.out, HSZ.out]; simp), if_pos (.inr (.inl (by rw [hlo.out.1]; exact HT2.out)))]
                  · by_cases t3 : hg < x.src
                    · have HT3 := Lib.hid t3
                      go_wp2
                      go_ret2
                      refine ⟨2, 0, rfl, ?_, hbw4⟩
                      show hearM _ l = (2, 0)
                      rw [HH.out, heardX, if_neg (by rw [HQ.out, HKQ.out, HSZ.out]; simp), if_pos (.inr (.inr (by rw [hlo.out.2]; exact HT3.out)))]
                    · have HT := Lib.hid (And.intro t2 t3)
                      go_wp2_with fail
                      go_quiet (fail)
                      go_wp2
                      go_ret2
                      refine ⟨1, x.src, rfl, ?_, by (repeat' (first | (with_reducible exact Below.refl _ _) | (with_reducible assumption) | (with_reducible refine below_run ?_ (by assumption)) | (with_reducible refine below_of_upd ?_ (by assumption) ?_) | (with_reducible refine below_drewN ?_ _) | (with_reducible refine Below.drew ?_) | (with_reducible refine Below.setCell ?_ ?_ _) | (with_reducible refine Below.alloc ?_ ?_ _) | (with_reducible refine below_after ?_ ?_ (by assumption)) | (show _ ≤ _; first | omega | (simp; done) | (simp; omega))))⟩
                      show hearM _ l = (1, x.src)
                      obtain ⟨u2, u3⟩ := HT.out
                      obtain ⟨l1, l2⟩ := hlo.out
                      have u1 := HT1.out
                      rw [HH.out, heardX, if_neg (by rw [HQ.out, HKQ.out, HSZ.out]; simp), HN.out, l1, l2, if_neg (by omega)]
                · have t1b : (N != x.src) = true := bne_iff_ne.2 t1
                  have HT := Lib.hid t1
                  clear t1
                  go_wp2_with fail
                  refine wp_region_noPanic ?_
                  refine wp_region_held_drew (S := (fun w' => RowAt w' w.heap.size 43 #[.int .u64 dst, .int .u64 src, .int .i64 seq, .int .i64 kind, .int .i64 par, .string dat] ∧ RowAt w' w2.heap.size 43 #[.int .u64 x.dst, .int .u64 x.src, .int .i64 x.seq, .int .i64 x.kind, .int .i64 x.par, .string x.dat])) (by kernel_rfl) ?_ (fun hHeld => ?_)
                  · exact ⟨hR2.alloc _, RowAt.new _ _ _⟩
                  refine wpAnyH_take (i := 0) (oi := _) (v := ?_) rfl (by kernel_rfl) (by kernel_rfl) (by kernel_rfl) (fun _ _ _ h => h) (Or.inl ⟨by rfl, ?_⟩) (by assumption) ?_
                  rotate_left
                  · intro w' hSw
                    (obtain ⟨r1, r2⟩ := hSw; obtain ⟨p1, p2, p3, p4, p5, p6⟩ := row_facts r1; obtain ⟨q1, q2, q3, q4, q5, q6⟩ := row_facts r2)
                    go_simp
                    (try with_reducible rfl)
                  (try simp only [Act.put, List.setIfInBounds_toArray, List.set_cons_zero, List.set_cons_succ, List.getElem_toArray, List.getElem_cons_zero])
                  refine wpAnyH_take (i := 1) (oi := _) (v := ?_) rfl (by kernel_rfl) (by kernel_rfl) (by kernel_rfl) (fun _ _ _ h => h) (Or.inl ⟨by rfl, ?_⟩) (by assumption) ?_
                  rotate_left
                  · intro w' hSw
                    (obtain ⟨r1, r2⟩ := hSw; obtain ⟨p1, p2, p3, p4, p5, p6⟩ := row_facts r1; obtain ⟨q1, q2, q3, q4, q5, q6⟩ := row_facts r2)
                    go_simp
                    (try with_reducible rfl)
                  (try simp only [Act.put, List.setIfInBounds_toArray, List.set_cons_zero, List.set_cons_succ, List.getElem_toArray, List.getElem_cons_succ, List.getElem_cons_zero])
                  refine wpAnyH_take (i := 2) (oi := _) (v := ?_) rfl (by kernel_rfl) (by kernel_rfl) (by kernel_rfl) (fun _ _ _ h => h) (Or.inl ⟨by rfl, ?_⟩) (by assumption) ?_
                  rotate_left
                  · intro w' hSw
                    (obtain ⟨r1, r2⟩ := hSw; obtain ⟨p1, p2, p3, p4, p5, p6⟩ := row_facts r1; obtain ⟨q1, q2, q3, q4, q5, q6⟩ := row_facts r2)
                    go_simp
                    (try with_reducible rfl)
                  (try simp only [Act.put, List.setIfInBounds_toArray, List.set_cons_zero, List.set_cons_succ, List.getElem_toArray, List.getElem_cons_succ, List.getElem_cons_zero])
                  refine wpAnyH_take (i := 3) (oi := _) (v := ?_) rfl (by kernel_rfl) (by kernel_rfl) (by kernel_rfl) (fun _ _ _ h => h) (Or.inl ⟨by rfl, ?_⟩) (by assumption) ?_
                  rotate_left
                  · intro w' hSw
                    (obtain ⟨r1, r2⟩ := hSw; obtain ⟨p1, p2, p3, p4, p5, p6⟩ := row_facts r1; obtain ⟨q1, q2, q3, q4, q5, q6⟩ := row_facts r2)
                    go_simp
                    (try with_reducible rfl)
                  (try simp only [Act.put, List.setIfInBounds_toArray, List.set_cons_zero, List.set_cons_succ, List.getElem_toArray, List.getElem_cons_succ, List.getElem_cons_zero])
                  refine wpAnyH_take (i := 4) (oi := _) (v := ?_) rfl (by kernel_rfl) (by kernel_rfl) (by kernel_rfl) (fun _ _ _ h => h) (Or.inl ⟨by rfl, ?_⟩) (by assumption) ?_
                  rotate_left
                  · intro w' hSw
                    (obtain ⟨r1, r2⟩ := hSw; obtain ⟨p1, p2, p3, p4, p5, p6⟩ := row_facts r1; obtain ⟨q1, q2, q3, q4, q5, q6⟩ := row_facts r2)
                    go_simp
                    (try with_reducible rfl)
                  (try simp only [Act.put, List.setIfInBounds_toArray, List.set_cons_zero, List.set_cons_succ, List.getElem_toArray, List.getElem_cons_succ, List.getElem_cons_zero])
                  refine wpAnyH_ready (rs := [5]) (by kernel_rfl) (by simp) ?_
                  refine AllReadyH.cons (o := _) rfl (fun K hK => ?_) AllReadyH.nil
                  go_simp
                  (go_at_call 75; with_reducible refine (CM.out _).mono ?_; rintro e u1 ⟨rfl, hbu1⟩)
                  refine hK.out _ _ ?_ (fun hHeld => ?_)
                  · exact ⟨RowAt.run hHeld.1 hbu1, RowAt.run hHeld.2 hbu1⟩
                  (try simp only [Act.put, List.setIfInBounds_toArray, List.set_cons_zero, List.set_cons_succ, List.getElem_toArray, List.getElem_cons_succ, List.getElem_cons_zero])
                  refine wpAnyH_take (i := 6) (oi := _) (v := ?_) rfl (by kernel_rfl) (by kernel_rfl) (by kernel_rfl) (fun _ _ _ h => h) (Or.inl ⟨by rfl, ?_⟩) (by assumption) ?_
                  rotate_left
                  · intro w' hSw
                    (obtain ⟨r1, r2⟩ := hSw; obtain ⟨p1, p2, p3, p4, p5, p6⟩ := row_facts r1; obtain ⟨q1, q2, q3, q4, q5, q6⟩ := row_facts r2)
                    go_simp
                    (try with_reducible rfl)
                  (try simp only [Act.put, List.setIfInBounds_toArray, List.set_cons_zero, List.set_cons_succ, List.getElem_toArray, List.getElem_cons_succ, List.getElem_cons_zero])
                  refine wpAnyH_take (i := 7) (oi := _) (v := ?_) rfl (by kernel_rfl) (by kernel_rfl) (by kernel_rfl) (fun _ _ _ h => h) (Or.inl ⟨by rfl, ?_⟩) (by assumption) ?_
                  rotate_left
                  · intro w' hSw
                    (obtain ⟨r1, r2⟩ := hSw; obtain ⟨p1, p2, p3, p4, p5, p6⟩ := row_facts r1; obtain ⟨q1, q2, q3, q4, q5, q6⟩ := row_facts r2)
                    go_simp
                    (try with_reducible rfl)
                  (try simp only [Act.put, List.setIfInBounds_toArray, List.set_cons_zero, List.set_cons_succ, List.getElem_toArray, List.getElem_cons_succ, List.getElem_cons_zero])
                  refine wpAnyH_take (i := 8) (oi := _) (v := ?_) rfl (by kernel_rfl) (by kernel_rfl) (by kernel_rfl) (fun _ _ _ h => h) (Or.inl ⟨by rfl, ?_⟩) (by assumption) ?_
                  rotate_left
                  · intro w' hSw
                    (obtain ⟨r1, r2⟩ := hSw; obtain ⟨p1, p2, p3, p4, p5, p6⟩ := row_facts r1; obtain ⟨q1, q2, q3, q4, q5, q6⟩ := row_facts r2)
                    go_simp
                    (try with_reducible rfl)
                  (try simp only [Act.put, List.setIfInBounds_toArray, List.set_cons_zero, List.set_cons_succ, List.getElem_toArray, List.getElem_cons_succ, List.getElem_cons_zero])
                  refine wpAnyH_take (i := 9) (oi := _) (v := ?_) rfl (by kernel_rfl) (by kernel_rfl) (by kernel_rfl) (fun _ _ _ h => h) (Or.inl ⟨by rfl, ?_⟩) (by assumption) ?_
                  rotate_left
                  · intro w' hSw
                    (obtain ⟨r1, r2⟩ := hSw; obtain ⟨p1, p2, p3, p4, p5, p6⟩ := row_facts r1; obtain ⟨q1, q2, q3, q4, q5, q6⟩ := row_facts r2)
                    go_simp
                    (try with_reducible rfl)
                  (try simp only [Act.put, List.setIfInBounds_toArray, List.set_cons_zero, List.set_cons_succ, List.getElem_toArray, List.getElem_cons_succ, List.getElem_cons_zero])
                  refine wpAnyH_take (i := 10) (oi := _) (v := ?_) rfl (by kernel_rfl) (by kernel_rfl) (by kernel_rfl) (fun _ _ _ h => h) (Or.inl ⟨by rfl, ?_⟩) (by assumption) ?_
                  rotate_left
                  · intro w' hSw
                    (obtain ⟨r1, r2⟩ := hSw; obtain ⟨p1, p2, p3, p4, p5, p6⟩ := row_facts r1; obtain ⟨q1, q2, q3, q4, q5, q6⟩ := row_facts r2)
                    go_simp
                    (try with_reducible rfl)
                  (try simp only [Act.put, List.setIfInBounds_toArray, List.set_cons_zero, List.set_cons_succ, List.getElem_toArray, List.getElem_cons_succ, List.getElem_cons_zero])
                  refine wpAnyH_take (i := 11) (oi := _) (v := ?_) rfl (by kernel_rfl) (by kernel_rfl) (by kernel_rfl) (fun _ _ _ h => h) (Or.inl ⟨by rfl, ?_⟩) (by assumption) ?_
                  rotate_left
                  · intro w' hSw
                    (obtain ⟨r1, r2⟩ := hSw; obtain ⟨p1, p2, p3, p4, p5, p6⟩ := row_facts r1; obtain ⟨q1, q2, q3, q4, q5, q6⟩ := row_facts r2)
                    go_simp
                    (try with_reducible rfl)
                  (try simp only [Act.put, List.setIfInBounds_toArray, List.set_cons_zero, List.set_cons_succ, List.getElem_toArray, List.getElem_cons_succ, List.getElem_cons_zero])
                  refine wpAnyH_take (i := 12) (oi := _) (v := ?_) rfl (by kernel_rfl) (by kernel_rfl) (by kernel_rfl) (fun _ _ _ h => h) (Or.inl ⟨by rfl, ?_⟩) (by assumption) ?_
                  rotate_left
                  · intro w' hSw
                    (obtain ⟨r1, r2⟩ := hSw; obtain ⟨p1, p2, p3, p4, p5, p6⟩ := row_facts r1; obtain ⟨q1, q2, q3, q4, q5, q6⟩ := row_facts r2)
                    go_simp
                    (try with_reducible rfl)
                  (try simp only [Act.put, List.setIfInBounds_toArray, List.set_cons_zero, List.set_cons_succ, List.getElem_toArray, List.getElem_cons_succ, List.getElem_cons_zero])
                  refine wpAnyH_take (i := 13) (oi := _) (v := ?_) rfl (by kernel_rfl) (by kernel_rfl) (by kernel_rfl) (fun _ _ _ h => h) (Or.inl ⟨by rfl, ?_⟩) (by assumption) ?_
                  rotate_left
                  · intro w' hSw
                    (obtain ⟨r1, r2⟩ := hSw; obtain ⟨p1, p2, p3, p4, p5, p6⟩ := row_facts r1; obtain ⟨q1, q2, q3, q4, q5, q6⟩ := row_facts r2)
                    go_simp
                    (try with_reducible rfl)
                  (try simp only [Act.put, List.setIfInBounds_toArray, List.set_cons_zero, List.set_cons_succ, List.getElem_toArray, List.getElem_cons_succ, List.getElem_cons_zero])
                  refine wpAnyH_take (i := 14) (oi := _) (v := ?_) rfl (by kernel_rfl) (by kernel_rfl) (by kernel_rfl) (fun _ _ _ h => h) (Or.inl ⟨by rfl, ?_⟩) (by assumption) ?_
                  rotate_left
                  · intro w' hSw
                    (obtain ⟨r1, r2⟩ := hSw; obtain ⟨p1, p2, p3, p4, p5, p6⟩ := row_facts r1; obtain ⟨q1, q2, q3, q4, q5, q6⟩ := row_facts r2)
                    go_simp
                    (try with_reducible rfl)
                  (try simp only [Act.put, List.setIfInBounds_toArray, List.set_cons_zero, List.set_cons_succ, List.getElem_toArray, List.getElem_cons_succ, List.getElem_cons_zero])
                  refine wpAnyH_take (i := 15) (oi := _) (v := ?_) rfl (by kernel_rfl) (by kernel_rfl) (by kernel_rfl) (fun _ _ _ h => h) (Or.inl ⟨by rfl, ?_⟩) (by assumption) ?_
                  rotate_left
                  · intro w' hSw
                    (obtain ⟨r1, r2⟩ := hSw; obtain ⟨p1, p2, p3, p4, p5, p6⟩ := row_facts r1; obtain ⟨q1, q2, q3, q4, q5, q6⟩ := row_facts r2)
                    go_simp
                    (try with_reducible rfl)
                  (try simp only [Act.put, List.setIfInBounds_toArray, List.set_cons_zero, List.set_cons_succ, List.getElem_toArray, List.getElem_cons_succ, List.getElem_cons_zero])
                  refine wpAnyH_take (i := 16) (oi := _) (v := ?_) rfl (by kernel_rfl) (by kernel_rfl) (by kernel_rfl) (fun _ _ _ h => h) (Or.inl ⟨by rfl, ?_⟩) (by assumption) ?_
                  rotate_left
                  · intro w' hSw
                    (obtain ⟨r1, r2⟩ := hSw; obtain ⟨p1, p2, p3, p4, p5, p6⟩ := row_facts r1; obtain ⟨q1, q2, q3, q4, q5, q6⟩ := row_facts r2)
                    go_simp
                    (try with_reducible rfl)
                  (try simp only [Act.put, List.setIfInBounds_toArray, List.set_cons_zero, List.set_cons_succ, List.getElem_toArray, List.getElem_cons_succ, List.getElem_cons_zero])
                  refine wpAnyH_take (i := 17) (oi := _) (v := ?_) rfl (by kernel_rfl) (by kernel_rfl) (by kernel_rfl) (fun _ _ _ h => h) (Or.inl ⟨by rfl, ?_⟩) (by assumption) ?_
                  rotate_left
                  · intro w' hSw
                    (obtain ⟨r1, r2⟩ := hSw; obtain ⟨p1, p2, p3, p4, p5, p6⟩ := row_facts r1; obtain ⟨q1, q2, q3, q4, q5, q6⟩ := row_facts r2)
                    go_simp
                    (try with_reducible rfl)
                  (try simp only [Act.put, List.setIfInBounds_toArray, List.set_cons_zero, List.set_cons_succ, List.getElem_toArray, List.getElem_cons_succ, List.getElem_cons_zero])
                  refine wpAnyH_take (i := 18) (oi := _) (v := ?_) rfl (by kernel_rfl) (by kernel_rfl) (by kernel_rfl) (fun _ _ _ h => h) (Or.inl ⟨by rfl, ?_⟩) (by assumption) ?_
                  rotate_left
                  · intro w' hSw
                    (obtain ⟨r1, r2⟩ := hSw; obtain ⟨p1, p2, p3, p4, p5, p6⟩ := row_facts r1; obtain ⟨q1, q2, q3, q4, q5, q6⟩ := row_facts r2)
                    go_simp
                    (try with_reducible rfl)
                  (try simp only [Act.put, List.setIfInBounds_toArray, List.set_cons_zero, List.set_cons_succ, List.getElem_toArray, List.getElem_cons_succ, List.getElem_cons_zero])
                  refine wpAnyH_take (i := 19) (oi := _) (v := ?_) rfl (by kernel_rfl) (by kernel_rfl) (by kernel_rfl) (fun _ _ _ h => h) (Or.inl ⟨by rfl, ?_⟩) (by assumption) ?_
                  rotate_left
                  · intro w' hSw
                    (obtain ⟨r1, r2⟩ := hSw; obtain ⟨p1, p2, p3, p4, p5, p6⟩ := row_facts r1; obtain ⟨q1, q2, q3, q4, q5, q6⟩ := row_facts r2)
                    go_simp
                    (try with_reducible rfl)
                  (try simp only [Act.put, List.setIfInBounds_toArray, List.set_cons_zero, List.set_cons_succ, List.getElem_toArray, List.getElem_cons_succ, List.getElem_cons_zero])
                  refine wpAnyH_take (i := 20) (oi := _) (v := ?_) rfl (by kernel_rfl) (by kernel_rfl) (by kernel_rfl) (fun _ _ _ h => h) (Or.inl ⟨by rfl, ?_⟩) (by assumption) ?_
                  rotate_left
                  · intro w' hSw
                    (obtain ⟨r1, r2⟩ := hSw; obtain ⟨p1, p2, p3, p4, p5, p6⟩ := row_facts r1; obtain ⟨q1, q2, q3, q4, q5, q6⟩ := row_facts r2)
                    go_simp
                    (try with_reducible rfl)
                  (try simp only [Act.put, List.setIfInBounds_toArray, List.set_cons_zero, List.set_cons_succ, List.getElem_toArray, List.getElem_cons_succ, List.getElem_cons_zero])
                  refine wpAnyH_take (i := 21) (oi := _) (v := ?_) rfl (by kernel_rfl) (by kernel_rfl) (by kernel_rfl) (fun _ _ _ h => h) (Or.inl ⟨by rfl, ?_⟩) (by assumption) ?_
                  rotate_left
                  · intro w' hSw
                    (obtain ⟨r1, r2⟩ := hSw; obtain ⟨p1, p2, p3, p4, p5, p6⟩ := row_facts r1; obtain ⟨q1, q2, q3, q4, q5, q6⟩ := row_facts r2)
                    go_simp
                    (try with_reducible rfl)
                  (try simp only [Act.put, List.setIfInBounds_toArray, List.set_cons_zero, List.set_cons_succ, List.getElem_toArray, List.getElem_cons_succ, List.getElem_cons_zero])
                  refine wpAnyH_take (i := 23) (oi := _) (v := ?_) rfl (by kernel_rfl) (by kernel_rfl) (by kernel_rfl) (fun _ _ _ h => h) (Or.inl ⟨by rfl, ?_⟩) (by assumption) ?_
                  rotate_left
                  · intro w' hSw
                    (obtain ⟨r1, r2⟩ := hSw; obtain ⟨p1, p2, p3, p4, p5, p6⟩ := row_facts r1; obtain ⟨q1, q2, q3, q4, q5, q6⟩ := row_facts r2)
                    go_simp
                    (try with_reducible rfl)
                  (try simp only [Act.put, List.setIfInBounds_toArray, List.set_cons_zero, List.set_cons_succ, List.getElem_toArray, List.getElem_cons_succ, List.getElem_cons_zero])
                  refine wpAnyH_take (i := 24) (oi := _) (v := ?_) rfl (by kernel_rfl) (by kernel_rfl) (by kernel_rfl) (fun _ _ _ h => h) (Or.inl ⟨by rfl, ?_⟩) (by assumption) ?_
                  rotate_left
                  · intro w' hSw
                    (obtain ⟨r1, r2⟩ := hSw; obtain ⟨p1, p2, p3, p4, p5, p6⟩ := row_facts r1; obtain ⟨q1, q2, q3, q4, q5, q6⟩ := row_facts r2)
                    go_simp
                    (try with_reducible rfl)
                  (try simp only [Act.put, List.setIfInBounds_toArray, List.set_cons_zero, List.set_cons_succ, List.getElem_toArray, List.getElem_cons_succ, List.getElem_cons_zero])
                  refine wpAnyH_ready (rs := [22]) (by kernel_rfl) (by simp) ?_
                  refine AllReadyH.cons (o := _) rfl (fun K hK => ?_) AllReadyH.nil
                  go_simp
                  (go_at_call 76; with_reducible refine (CN.out _).mono ?_; rintro e u2 ⟨rfl, rfl⟩)
                  refine hK.out _ _ ?_ (fun hHeld => ?_)
                  · exact hHeld
                  (try simp only [Act.put, List.setIfInBounds_toArray, List.set_cons_zero, List.set_cons_succ, List.getElem_toArray, List.getElem_cons_succ, List.getElem_cons_zero])
                  refine wpAnyH_take (i := 25) (oi := _) (v := ?_) rfl (by kernel_rfl) (by kernel_rfl) (by kernel_rfl) (fun _ _ _ h => h) (Or.inl ⟨by rfl, ?_⟩) (by assumption) ?_
                  rotate_left
                  · intro w' hSw
                    (obtain ⟨r1, r2⟩ := hSw; obtain ⟨p1, p2, p3, p4, p5, p6⟩ := row_facts r1; obtain ⟨q1, q2, q3, q4, q5, q6⟩ := row_facts r2)
                    go_simp
                    (try with_reducible rfl)
                  (try simp only [Act.put, List.setIfInBounds_toArray, List.set_cons_zero, List.set_cons_succ, List.getElem_toArray, List.getElem_cons_succ, List.getElem_cons_zero])
                  refine wpAnyH_take (i := 26) (oi := _) (v := ?_) rfl (by kernel_rfl) (by kernel_rfl) (by kernel_rfl) (fun _ _ _ h => h) (Or.inl ⟨by rfl, ?_⟩) (by assumption) ?_
                  rotate_left
                  · intro w' hSw
                    (obtain ⟨r1, r2⟩ := hSw; obtain ⟨p1, p2, p3, p4, p5, p6⟩ := row_facts r1; obtain ⟨q1, q2, q3, q4, q5, q6⟩ := row_facts r2)
                    go_simp
                    (try with_reducible rfl)
                  (try simp only [Act.put, List.setIfInBounds_toArray, List.set_cons_zero, List.set_cons_succ, List.getElem_toArray, List.getElem_cons_succ, List.getElem_cons_zero])
                  refine wpAnyH_done (by kernel_rfl) ?_ _
                  refine NoPanic.normal ?_
                  go_wp2
                  go_ret2
                  refine ⟨2, 0, rfl, ?_, by (repeat' (first | (with_reducible exact Below.refl _ _) | (with_reducible assumption) | (with_reducible refine below_run ?_ (by assumption)) | (with_reducible refine below_of_upd ?_ (by assumption) ?_) | (with_reducible refine below_drewN ?_ _) | (with_reducible refine Below.drew ?_) | (with_reducible refine Below.setCell ?_ ?_ _) | (with_reducible refine Below.alloc ?_ ?_ _) | (with_reducible refine below_after ?_ ?_ (by assumption)) | (show _ ≤ _; first | omega | (simp; done) | (simp; omega))))⟩
                  show hearM _ l = (2, 0)
                  rw [HH.out, heardX, if_neg (by rw [HQ.out, HKQ.out, HSZ.out]; simp), if_pos (.inl (by rw [HN.out]; exact HT.out))]
              · have hs6 : ((x.dat.size : Int) != 6) = true := bne_iff_ne.2 (by omega)
                have HSZ := Lib.hid hsz
                clear hsz
                go_wp2_with fail
                refine wp_region_noPanic ?_
                refine wp_region_held_drew (S := (fun w' => RowAt w' w.heap.size 43 #[.int .u64 dst, .int .u64 src, .int .i64 seq, .int .i64 kind, .int .i64 par, .string dat] ∧ RowAt w' w2.heap.size 43 #[.int .u64 x.dst, .int .u64 x.src, .int .i64 x.seq, .int .i64 x.kind, .int .i64 x.par, .string x.dat])) (by kernel_rfl) ?_ (fun hHeld => ?_)
                · exact ⟨hR2.alloc _, RowAt.new _ _ _⟩
                refine wpAnyH_take (i := 0) (oi := _) (v := ?_) rfl (by kernel_rfl) (by kernel_rfl) (by kernel_rfl) (fun _ _ _ h => h) (Or.inl ⟨by rfl, ?_⟩) (by assumption) ?_
                rotate_left
                · intro w' hSw
                  (obtain ⟨r1, r2⟩ := hSw; obtain ⟨p1, p2, p3, p4, p5, p6⟩ := row_facts r1; obtain ⟨q1, q2, q3, q4, q5, q6⟩ := row_facts r2)
                  go_simp
                  (try with_reducible rfl)
                (try simp only [Act.put, List.setIfInBounds_toArray, List.set_cons_zero, List.set_cons_succ, List.getElem_toArray, List.getElem_cons_zero])
                refine wpAnyH_take (i := 1) (oi := _) (v := ?_) rfl (by kernel_rfl) (by kernel_rfl) (by kernel_rfl) (fun _ _ _ h => h) (Or.inl ⟨by rfl, ?_⟩) (by assumption) ?_
                rotate_left
                · intro w' hSw
                  (obtain ⟨r1, r2⟩ := hSw; obtain ⟨p1, p2, p3, p4, p5, p6⟩ := row_facts r1; obtain ⟨q1, q2, q3, q4, q5, q6⟩ := row_facts r2)
                  go_simp
                  (try with_reducible rfl)
                (try simp only [Act.put, List.setIfInBounds_toArray, List.set_cons_zero, List.set_cons_succ, List.getElem_toArray, List.getElem_cons_succ, List.getElem_cons_zero])
                refine wpAnyH_take (i := 2) (oi := _) (v := ?_) rfl (by kernel_rfl) (by kernel_rfl) (by kernel_rfl) (fun _ _ _ h => h) (Or.inl ⟨by rfl, ?_⟩) (by assumption) ?_
                rotate_left
                · intro w' hSw
                  (obtain ⟨r1, r2⟩ := hSw; obtain ⟨p1, p2, p3, p4, p5, p6⟩ := row_facts r1; obtain ⟨q1, q2, q3, q4, q5, q6⟩ := row_facts r2)
                  go_simp
                  (try with_reducible rfl)
                (try simp only [Act.put, List.setIfInBounds_toArray, List.set_cons_zero, List.set_cons_succ, List.getElem_toArray, List.getElem_cons_succ, List.getElem_cons_zero])
                refine wpAnyH_take (i := 3) (oi := _) (v := ?_) rfl (by kernel_rfl) (by kernel_rfl) (by kernel_rfl) (fun _ _ _ h => h) (Or.inl ⟨by rfl, ?_⟩) (by assumption) ?_
                rotate_left
                · intro w' hSw
                  (obtain ⟨r1, r2⟩ := hSw; obtain ⟨p1, p2, p3, p4, p5, p6⟩ := row_facts r1; obtain ⟨q1, q2, q3, q4, q5, q6⟩ := row_facts r2)
                  go_simp
                  (try with_reducible rfl)
                (try simp only [Act.put, List.setIfInBounds_toArray, List.set_cons_zero, List.set_cons_succ, List.getElem_toArray, List.getElem_cons_succ, List.getElem_cons_zero])
                refine wpAnyH_take (i := 4) (oi := _) (v := ?_) rfl (by kernel_rfl) (by kernel_rfl) (by kernel_rfl) (fun _ _ _ h => h) (Or.inl ⟨by rfl, ?_⟩) (by assumption) ?_
                rotate_left
                · intro w' hSw
                  (obtain ⟨r1, r2⟩ := hSw; obtain ⟨p1, p2, p3, p4, p5, p6⟩ := row_facts r1; obtain ⟨q1, q2, q3, q4, q5, q6⟩ := row_facts r2)
                  go_simp
                  (try with_reducible rfl)
                (try simp only [Act.put, List.setIfInBounds_toArray, List.set_cons_zero, List.set_cons_succ, List.getElem_toArray, List.getElem_cons_succ, List.getElem_cons_zero])
                refine wpAnyH_ready (rs := [5]) (by kernel_rfl) (by simp) ?_
                refine AllReadyH.cons (o := _) rfl (fun K hK => ?_) AllReadyH.nil
                go_simp
                (go_at_call 75; with_reducible refine (CM.out _).mono ?_; rintro e u1 ⟨rfl, hbu1⟩)
                refine hK.out _ _ ?_ (fun hHeld => ?_)
                · exact ⟨RowAt.run hHeld.1 hbu1, RowAt.run hHeld.2 hbu1⟩
                (try simp only [Act.put, List.setIfInBounds_toArray, List.set_cons_zero, List.set_cons_succ, List.getElem_toArray, List.getElem_cons_succ, List.getElem_cons_zero])
                refine wpAnyH_take (i := 6) (oi := _) (v := ?_) rfl (by kernel_rfl) (by kernel_rfl) (by kernel_rfl) (fun _ _ _ h => h) (Or.inl ⟨by rfl, ?_⟩) (by assumption) ?_
                rotate_left
                · intro w' hSw
                  (obtain ⟨r1, r2⟩ := hSw; obtain ⟨p1, p2, p3, p4, p5, p6⟩ := row_facts r1; obtain ⟨q1, q2, q3, q4, q5, q6⟩ := row_facts r2)
                  go_simp
                  (try with_reducible rfl)
                (try simp only [Act.put, List.setIfInBounds_toArray, List.set_cons_zero, List.set_cons_succ, List.getElem_toArray, List.getElem_cons_succ, List.getElem_cons_zero])
                refine wpAnyH_take (i := 7) (oi := _) (v := ?_) rfl (by kernel_rfl) (by kernel_rfl) (by kernel_rfl) (fun _ _ _ h => h) (Or.inl ⟨by rfl, ?_⟩) (by assumption) ?_
                rotate_left
                · intro w' hSw
                  (obtain ⟨r1, r2⟩ := hSw; obtain ⟨p1, p2, p3, p4, p5, p6⟩ := row_facts r1; obtain ⟨q1, q2, q3, q4, q5, q6⟩ := row_facts r2)
                  go_simp
                  (try with_reducible rfl)
                (try simp only [Act.put, List.setIfInBounds_toArray, List.set_cons_zero, List.set_cons_succ, List.getElem_toArray, List.getElem_cons_succ, List.getElem_cons_zero])
                refine wpAnyH_take (i := 8) (oi := _) (v := ?_) rfl (by kernel_rfl) (by kernel_rfl) (by kernel_rfl) (fun _ _ _ h => h) (Or.inl ⟨by rfl, ?_⟩) (by assumption) ?_
                rotate_left
                · intro w' hSw
                  (obtain ⟨r1, r2⟩ := hSw; obtain ⟨p1, p2, p3, p4, p5, p6⟩ := row_facts r1; obtain ⟨q1, q2, q3, q4, q5, q6⟩ := row_facts r2)
                  go_simp
                  (try with_reducible rfl)
                (try simp only [Act.put, List.setIfInBounds_toArray, List.set_cons_zero, List.set_cons_succ, List.getElem_toArray, List.getElem_cons_succ, List.getElem_cons_zero])
                refine wpAnyH_take (i := 9) (oi := _) (v := ?_) rfl (by kernel_rfl) (by kernel_rfl) (by kernel_rfl) (fun _ _ _ h => h) (Or.inl ⟨by rfl, ?_⟩) (by assumption) ?_
                rotate_left
                · intro w' hSw
                  (obtain ⟨r1, r2⟩ := hSw; obtain ⟨p1, p2, p3, p4, p5, p6⟩ := row_facts r1; obtain ⟨q1, q2, q3, q4, q5, q6⟩ := row_facts r2)
                  go_simp
                  (try with_reducible rfl)
                (try simp only [Act.put, List.setIfInBounds_toArray, List.set_cons_zero, List.set_cons_succ, List.getElem_toArray, List.getElem_cons_succ, List.getElem_cons_zero])
                refine wpAnyH_take (i := 10) (oi := _) (v := ?_) rfl (by kernel_rfl) (by kernel_rfl) (by kernel_rfl) (fun _ _ _ h => h) (Or.inl ⟨by rfl, ?_⟩) (by assumption) ?_
                rotate_left
                · intro w' hSw
                  (obtain ⟨r1, r2⟩ := hSw; obtain ⟨p1, p2, p3, p4, p5, p6⟩ := row_facts r1; obtain ⟨q1, q2, q3, q4, q5, q6⟩ := row_facts r2)
                  go_simp
                  (try with_reducible rfl)
                (try simp only [Act.put, List.setIfInBounds_toArray, List.set_cons_zero, List.set_cons_succ, List.getElem_toArray, List.getElem_cons_succ, List.getElem_cons_zero])
                refine wpAnyH_take (i := 11) (oi := _) (v := ?_) rfl (by kernel_rfl) (by kernel_rfl) (by kernel_rfl) (fun _ _ _ h => h) (Or.inl ⟨by rfl, ?_⟩) (by assumption) ?_
                rotate_left
                · intro w' hSw
                  (obtain ⟨r1, r2⟩ := hSw; obtain ⟨p1, p2, p3, p4, p5, p6⟩ := row_facts r1; obtain ⟨q1, q2, q3, q4, q5, q6⟩ := row_facts r2)
                  go_simp
                  (try with_reducible rfl)
                (try simp only [Act.put, List.setIfInBounds_toArray, List.set_cons_zero, List.set_cons_succ, List.getElem_toArray, List.getElem_cons_succ, List.getElem_cons_zero])
                refine wpAnyH_take (i := 12) (oi := _) (v := ?_) rfl (by kernel_rfl) (by kernel_rfl) (by kernel_rfl) (fun _ _ _ h => h) (Or.inl ⟨by rfl, ?_⟩) (by assumption) ?_
                rotate_left
                · intro w' hSw
                  (obtain ⟨r1, r2⟩ := hSw; obtain ⟨p1, p2, p3, p4, p5, p6⟩ := row_facts r1; obtain ⟨q1, q2, q3, q4, q5, q6⟩ := row_facts r2)
                  go_simp
                  (try with_reducible rfl)
                (try simp only [Act.put, List.setIfInBounds_toArray, List.set_cons_zero, List.set_cons_succ, List.getElem_toArray, List.getElem_cons_succ, List.getElem_cons_zero])
                refine wpAnyH_take (i := 13) (oi := _) (v := ?_) rfl (by kernel_rfl) (by kernel_rfl) (by kernel_rfl) (fun _ _ _ h => h) (Or.inl ⟨by rfl, ?_⟩) (by assumption) ?_
                rotate_left
                · intro w' hSw
                  (obtain ⟨r1, r2⟩ := hSw; obtain ⟨p1, p2, p3, p4, p5, p6⟩ := row_facts r1; obtain ⟨q1, q2, q3, q4, q5, q6⟩ := row_facts r2)
                  go_simp
                  (try with_reducible rfl)
                (try simp only [Act.put, List.setIfInBounds_toArray, List.set_cons_zero, List.set_cons_succ, List.getElem_toArray, List.getElem_cons_succ, List.getElem_cons_zero])
                refine wpAnyH_take (i := 14) (oi := _) (v := ?_) rfl (by kernel_rfl) (by kernel_rfl) (by kernel_rfl) (fun _ _ _ h => h) (Or.inl ⟨by rfl, ?_⟩) (by assumption) ?_
                rotate_left
                · intro w' hSw
                  (obtain ⟨r1, r2⟩ := hSw; obtain ⟨p1, p2, p3, p4, p5, p6⟩ := row_facts r1; obtain ⟨q1, q2, q3, q4, q5, q6⟩ := row_facts r2)
                  go_simp
                  (try with_reducible rfl)
                (try simp only [Act.put, List.setIfInBounds_toArray, List.set_cons_zero, List.set_cons_succ, List.getElem_toArray, List.getElem_cons_succ, List.getElem_cons_zero])
                refine wpAnyH_take (i := 15) (oi := _) (v := ?_) rfl (by kernel_rfl) (by kernel_rfl) (by kernel_rfl) (fun _ _ _ h => h) (Or.inl ⟨by rfl, ?_⟩) (by assumption) ?_
                rotate_left
                · intro w' hSw
                  (obtain ⟨r1, r2⟩ := hSw; obtain ⟨p1, p2, p3, p4, p5, p6⟩ := row_facts r1; obtain ⟨q1, q2, q3, q4, q5, q6⟩ := row_facts r2)
                  go_simp
                  (try with_reducible rfl)
                (try simp only [Act.put, List.setIfInBounds_toArray, List.set_cons_zero, List.set_cons_succ, List.getElem_toArray, List.getElem_cons_succ, List.getElem_cons_zero])
                refine wpAnyH_take (i := 16) (oi := _) (v := ?_) rfl (by kernel_rfl) (by kernel_rfl) (by kernel_rfl) (fun _ _ _ h => h) (Or.inl ⟨by rfl, ?_⟩) (by assumption) ?_
                rotate_left
                · intro w' hSw
                  (obtain ⟨r1, r2⟩ := hSw; obtain ⟨p1, p2, p3, p4, p5, p6⟩ := row_facts r1; obtain ⟨q1, q2, q3, q4, q5, q6⟩ := row_facts r2)
                  go_simp
                  (try with_reducible rfl)
                (try simp only [Act.put, List.setIfInBounds_toArray, List.set_cons_zero, List.set_cons_succ, List.getElem_toArray, List.getElem_cons_succ, List.getElem_cons_zero])
                refine wpAnyH_take (i := 17) (oi := _) (v := ?_) rfl (by kernel_rfl) (by kernel_rfl) (by kernel_rfl) (fun _ _ _ h => h) (Or.inl ⟨by rfl, ?_⟩) (by assumption) ?_
                rotate_left
                · intro w' hSw
                  (obtain ⟨r1, r2⟩ := hSw; obtain ⟨p1, p2, p3, p4, p5, p6⟩ := row_facts r1; obtain ⟨q1, q2, q3, q4, q5, q6⟩ := row_facts r2)
                  go_simp
                  (try with_reducible rfl)
                (try simp only [Act.put, List.setIfInBounds_toArray, List.set_cons_zero, List.set_cons_succ, List.getElem_toArray, List.getElem_cons_succ, List.getElem_cons_zero])
                refine wpAnyH_take (i := 18) (oi := _) (v := ?_) rfl (by kernel_rfl) (by kernel_rfl) (by kernel_rfl) (fun _ _ _ h => h) (Or.inl ⟨by rfl, ?_⟩) (by assumption) ?_
                rotate_left
                · intro w' hSw
                  (obtain ⟨r1, r2⟩ := hSw; obtain ⟨p1, p2, p3, p4, p5, p6⟩ := row_facts r1; obtain ⟨q1, q2, q3, q4, q5, q6⟩ := row_facts r2)
                  go_simp
                  (try with_reducible rfl)
                (try simp only [Act.put, List.setIfInBounds_toArray, List.set_cons_zero, List.set_cons_succ, List.getElem_toArray, List.getElem_cons_succ, List.getElem_cons_zero])
                refine wpAnyH_take (i := 19) (oi := _) (v := ?_) rfl (by kernel_rfl) (by kernel_rfl) (by kernel_rfl) (fun _ _ _ h => h) (Or.inl ⟨by rfl, ?_⟩) (by assumption) ?_
                rotate_left
                · intro w' hSw
                  (obtain ⟨r1, r2⟩ := hSw; obtain ⟨p1, p2, p3, p4, p5, p6⟩ := row_facts r1; obtain ⟨q1, q2, q3, q4, q5, q6⟩ := row_facts r2)
                  go_simp
                  (try with_reducible rfl)
                (try simp only [Act.put, List.setIfInBounds_toArray, List.set_cons_zero, List.set_cons_succ, List.getElem_toArray, List.getElem_cons_succ, List.getElem_cons_zero])
                refine wpAnyH_take (i := 20) (oi := _) (v := undef) rfl (by kernel_rfl) (by kernel_rfl) (by kernel_rfl) (fun _ _ _ h => h) (Or.inr ⟨by rfl, rfl⟩) (by assumption) ?_
                (try simp only [Act.put, List.setIfInBounds_toArray, List.set_cons_zero, List.set_cons_succ, List.getElem_toArray, List.getElem_cons_succ, List.getElem_cons_zero])
                refine wpAnyH_take (i := 21) (oi := _) (v := undef) rfl (by kernel_rfl) (by kernel_rfl) (by kernel_rfl) (fun _ _ _ h => h) (Or.inr ⟨by rfl, rfl⟩) (by assumption) ?_
                (try simp only [Act.put, List.setIfInBounds_toArray, List.set_cons_zero, List.set_cons_succ, List.getElem_toArray, List.getElem_cons_succ, List.getElem_cons_zero])
                refine wpAnyH_take (i := 22) (oi := _) (v := undef) rfl (by kernel_rfl) (by kernel_rfl) (by kernel_rfl) (fun _ _ _ h => h) (Or.inr ⟨by rfl, rfl⟩) (by assumption) ?_
                (try simp only [Act.put, List.setIfInBounds_toArray, List.set_cons_zero, List.set_cons_succ, List.getElem_toArray, List.getElem_cons_succ, List.getElem_cons_zero])
                refine wpAnyH_take (i := 23) (oi := _) (v := undef) rfl (by kernel_rfl) (by kernel_rfl) (by kernel_rfl) (fun _ _ _ h => h) (Or.inr ⟨by rfl, rfl⟩) (by assumption) ?_
                (try simp only [Act.put, List.setIfInBounds_toArray, List.set_cons_zero, List.set_cons_succ, List.getElem_toArray, List.getElem_cons_succ, List.getElem_cons_zero])
                refine wpAnyH_take (i := 24) (oi := _) (v := undef) rfl (by kernel_rfl) (by kernel_rfl) (by kernel_rfl) (fun _ _ _ h => h) (Or.inr ⟨by rfl, rfl⟩) (by assumption) ?_
                (try simp only [Act.put, List.setIfInBounds_toArray, List.set_cons_zero, List.set_cons_succ, List.getElem_toArray, List.getElem_cons_succ, List.getElem_cons_zero])
                refine wpAnyH_take (i := 25) (oi := _) (v := undef) rfl (by kernel_rfl) (by kernel_rfl) (by kernel_rfl) (fun _ _ _ h => h) (Or.inr ⟨by rfl, rfl⟩) (by assumption) ?_
                (try simp only [Act.put, List.setIfInBounds_toArray, List.set_cons_zero, List.set_cons_succ, List.getElem_toArray, List.getElem_cons_succ, List.getElem_cons_zero])
                refine wpAnyH_take (i := 26) (oi := _) (v := ?_) rfl (by kernel_rfl) (by kernel_rfl) (by kernel_rfl) (fun _ _ _ h => h) (Or.inl ⟨by rfl, ?_⟩) (by assumption) ?_
                rotate_left
                · intro w' hSw
                  (obtain ⟨r1, r2⟩ := hSw; obtain ⟨p1, p2, p3, p4, p5, p6⟩ := row_facts r1; obtain ⟨q1, q2, q3, q4, q5, q6⟩ := row_facts r2)
                  go_simp
                  (try with_reducible rfl)
                (try simp only [Act.put, List.setIfInBounds_toArray, List.set_cons_zero, List.set_cons_succ, List.getElem_toArray, List.getElem_cons_succ, List.getElem_cons_zero])
                refine wpAnyH_done (by kernel_rfl) ?_ _
                refine NoPanic.normal ?_
                go_wp2
                go_ret2
                refine ⟨2, 0, rfl, ?_, by (repeat' (first | (with_reducible exact Below.refl _ _) | (with_reducible assumption) | (with_reducible refine below_run ?_ (by assumption)) | (with_reducible refine below_of_upd ?_ (by assumption) ?_) | (with_reducible refine below_drewN ?_ _) | (with_reducible refine Below.drew ?_) | (with_reducible refine Below.setCell ?_ ?_ _) | (with_reducible refine Below.alloc ?_ ?_ _) | (with_reducible refine below_after ?_ ?_ (by assumption)) | (show _ ≤ _; first | omega | (simp; done) | (simp; omega))))⟩
                show hearM _ l = (2, 0)
                rw [HH.out, heardX, if_pos (.inr (.inr HSZ.out))]
        · have e9 : (n != 0) = true := by simpa using hn
          have HN := Lib.hid hn
          clear hn
          go_wp2_with fail
          refine wp_region_noPanic ?_
          refine wp_region_held_drew (S := (fun w' => RowAt w' w.heap.size 43 #[.int .u64 dst, .int .u64 src, .int .i64 seq, .int .i64 kind, .int .i64 par, .string dat] ∧ RowAt w' w2.heap.size 43 #[.int .u64 x.dst, .int .u64 x.src, .int .i64 x.seq, .int .i64 x.kind, .int .i64 x.par, .string x.dat])) (by kernel_rfl) ?_ (fun hHeld => ?_)
          · exact ⟨hR2.alloc _, RowAt.new _ _ _⟩
          refine wpAnyH_take (i := 0) (oi := _) (v := ?_) rfl (by kernel_rfl) (by kernel_rfl) (by kernel_rfl) (fun _ _ _ h => h) (Or.inl ⟨by rfl, ?_⟩) (by assumption) ?_
          rotate_left
          · intro w' hSw
            (obtain ⟨r1, r2⟩ := hSw; obtain ⟨p1, p2, p3, p4, p5, p6⟩ := row_facts r1; obtain ⟨q1, q2, q3, q4, q5, q6⟩ := row_facts r2)
            go_simp
            (try with_reducible rfl)
          (try simp only [Act.put, List.setIfInBounds_toArray, List.set_cons_zero, List.set_cons_succ, List.getElem_toArray, List.getElem_cons_zero])
          refine wpAnyH_take (i := 1) (oi := _) (v := ?_) rfl (by kernel_rfl) (by kernel_rfl) (by kernel_rfl) (fun _ _ _ h => h) (Or.inl ⟨by rfl, ?_⟩) (by assumption) ?_
          rotate_left
          · intro w' hSw
            (obtain ⟨r1, r2⟩ := hSw; obtain ⟨p1, p2, p3, p4, p5, p6⟩ := row_facts r1; obtain ⟨q1, q2, q3, q4, q5, q6⟩ := row_facts r2)
            go_simp
            (try with_reducible rfl)
          (try simp only [Act.put, List.setIfInBounds_toArray, List.set_cons_zero, List.set_cons_succ, List.getElem_toArray, List.getElem_cons_succ, List.getElem_cons_zero])
          refine wpAnyH_take (i := 2) (oi := _) (v := ?_) rfl (by kernel_rfl) (by kernel_rfl) (by kernel_rfl) (fun _ _ _ h => h) (Or.inl ⟨by rfl, ?_⟩) (by assumption) ?_
          rotate_left
          · intro w' hSw
            (obtain ⟨r1, r2⟩ := hSw; obtain ⟨p1, p2, p3, p4, p5, p6⟩ := row_facts r1; obtain ⟨q1, q2, q3, q4, q5, q6⟩ := row_facts r2)
            go_simp
            (try with_reducible rfl)
          (try simp only [Act.put, List.setIfInBounds_toArray, List.set_cons_zero, List.set_cons_succ, List.getElem_toArray, List.getElem_cons_succ, List.getElem_cons_zero])
          refine wpAnyH_take (i := 3) (oi := _) (v := undef) rfl (by kernel_rfl) (by kernel_rfl) (by kernel_rfl) (fun _ _ _ h => h) (Or.inr ⟨by rfl, rfl⟩) (by assumption) ?_
          (try simp only [Act.put, List.setIfInBounds_toArray, List.set_cons_zero, List.set_cons_succ, List.getElem_toArray, List.getElem_cons_succ, List.getElem_cons_zero])
          refine wpAnyH_take (i := 4) (oi := _) (v := undef) rfl (by kernel_rfl) (by kernel_rfl) (by kernel_rfl) (fun _ _ _ h => h) (Or.inr ⟨by rfl, rfl⟩) (by assumption) ?_
          (try simp only [Act.put, List.setIfInBounds_toArray, List.set_cons_zero, List.set_cons_succ, List.getElem_toArray, List.getElem_cons_succ, List.getElem_cons_zero])
          refine wpAnyH_take (i := 5) (oi := _) (v := undef) rfl (by kernel_rfl) (by kernel_rfl) (by kernel_rfl) (fun _ _ _ h => h) (Or.inr ⟨by rfl, rfl⟩) (by assumption) ?_
          (try simp only [Act.put, List.setIfInBounds_toArray, List.set_cons_zero, List.set_cons_succ, List.getElem_toArray, List.getElem_cons_succ, List.getElem_cons_zero])
          refine wpAnyH_take (i := 6) (oi := _) (v := undef) rfl (by kernel_rfl) (by kernel_rfl) (by kernel_rfl) (fun _ _ _ h => h) (Or.inr ⟨by rfl, rfl⟩) (by assumption) ?_
          (try simp only [Act.put, List.setIfInBounds_toArray, List.set_cons_zero, List.set_cons_succ, List.getElem_toArray, List.getElem_cons_succ, List.getElem_cons_zero])
          refine wpAnyH_take (i := 7) (oi := _) (v := ?_) rfl (by kernel_rfl) (by kernel_rfl) (by kernel_rfl) (fun _ _ _ h => h) (Or.inl ⟨by rfl, ?_⟩) (by assumption) ?_
          rotate_left
          · intro w' hSw
            (obtain ⟨r1, r2⟩ := hSw; obtain ⟨p1, p2, p3, p4, p5, p6⟩ := row_facts r1; obtain ⟨q1, q2, q3, q4, q5, q6⟩ := row_facts r2)
            go_simp
            (try with_reducible rfl)
          (try simp only [Act.put, List.setIfInBounds_toArray, List.set_cons_zero, List.set_cons_succ, List.getElem_toArray, List.getElem_cons_succ, List.getElem_cons_zero])
          refine wpAnyH_take (i := 8) (oi := _) (v := ?_) rfl (by kernel_rfl) (by kernel_rfl) (by kernel_rfl) (fun _ _ _ h => h) (Or.inl ⟨by rfl, ?_⟩) (by assumption) ?_
          rotate_left
          · intro w' hSw
            (obtain ⟨r1, r2⟩ := hSw; obtain ⟨p1, p2, p3, p4, p5, p6⟩ := row_facts r1; obtain ⟨q1, q2, q3, q4, q5, q6⟩ := row_facts r2)
            go_simp
            (try with_reducible rfl)
          (try simp only [Act.put, List.setIfInBounds_toArray, List.set_cons_zero, List.set_cons_succ, List.getElem_toArray, List.getElem_cons_succ, List.getElem_cons_zero])
          refine wpAnyH_take (i := 9) (oi := _) (v := undef) rfl (by kernel_rfl) (by kernel_rfl) (by kernel_rfl) (fun _ _ _ h => h) (Or.inr ⟨by rfl, rfl⟩) (by assumption) ?_
          (try simp only [Act.put, List.setIfInBounds_toArray, List.set_cons_zero, List.set_cons_succ, List.getElem_toArray, List.getElem_cons_succ, List.getElem_cons_zero])
          refine wpAnyH_take (i := 10) (oi := _) (v := undef) rfl (by kernel_rfl) (by kernel_rfl) (by kernel_rfl) (fun _ _ _ h => h) (Or.inr ⟨by rfl, rfl⟩) (by assumption) ?_
          (try simp only [Act.put, List.setIfInBounds_toArray, List.set_cons_zero, List.set_cons_succ, List.getElem_toArray, List.getElem_cons_succ, List.getElem_cons_zero])
          refine wpAnyH_take (i := 11) (oi := _) (v := undef) rfl (by kernel_rfl) (by kernel_rfl) (by kernel_rfl) (fun _ _ _ h => h) (Or.inr ⟨by rfl, rfl⟩) (by assumption) ?_
          (try simp only [Act.put, List.setIfInBounds_toArray, List.set_cons_zero, List.set_cons_succ, List.getElem_toArray, List.getElem_cons_succ, List.getElem_cons_zero])
          refine wpAnyH_take (i := 12) (oi := _) (v := ?_) rfl (by kernel_rfl) (by kernel_rfl) (by kernel_rfl) (fun _ _ _ h => h) (Or.inl ⟨by rfl, ?_⟩) (by assumption) ?_
          rotate_left
          · intro w' hSw
            (obtain ⟨r1, r2⟩ := hSw; obtain ⟨p1, p2, p3, p4, p5, p6⟩ := row_facts r1; obtain ⟨q1, q2, q3, q4, q5, q6⟩ := row_facts r2)
            go_simp
            (try with_reducible rfl)
          (try simp only [Act.put, List.setIfInBounds_toArray, List.set_cons_zero, List.set_cons_succ, List.getElem_toArray, List.getElem_cons_succ, List.getElem_cons_zero])
          refine wpAnyH_take (i := 13) (oi := _) (v := ?_) rfl (by kernel_rfl) (by kernel_rfl) (by kernel_rfl) (fun _ _ _ h => h) (Or.inl ⟨by rfl, ?_⟩) (by assumption) ?_
          rotate_left
          · intro w' hSw
            (obtain ⟨r1, r2⟩ := hSw; obtain ⟨p1, p2, p3, p4, p5, p6⟩ := row_facts r1; obtain ⟨q1, q2, q3, q4, q5, q6⟩ := row_facts r2)
            go_simp
            (try with_reducible rfl)
          (try simp only [Act.put, List.setIfInBounds_toArray, List.set_cons_zero, List.set_cons_succ, List.getElem_toArray, List.getElem_cons_succ, List.getElem_cons_zero])
          refine wpAnyH_take (i := 14) (oi := _) (v := undef) rfl (by kernel_rfl) (by kernel_rfl) (by kernel_rfl) (fun _ _ _ h => h) (Or.inr ⟨by rfl, rfl⟩) (by assumption) ?_
          (try simp only [Act.put, List.setIfInBounds_toArray, List.set_cons_zero, List.set_cons_succ, List.getElem_toArray, List.getElem_cons_succ, List.getElem_cons_zero])
          refine wpAnyH_take (i := 15) (oi := _) (v := undef) rfl (by kernel_rfl) (by kernel_rfl) (by kernel_rfl) (fun _ _ _ h => h) (Or.inr ⟨by rfl, rfl⟩) (by assumption) ?_
          (try simp only [Act.put, List.setIfInBounds_toArray, List.set_cons_zero, List.set_cons_succ, List.getElem_toArray, List.getElem_cons_succ, List.getElem_cons_zero])
          refine wpAnyH_take (i := 16) (oi := _) (v := undef) rfl (by kernel_rfl) (by kernel_rfl) (by kernel_rfl) (fun _ _ _ h => h) (Or.inr ⟨by rfl, rfl⟩) (by assumption) ?_
          (try simp only [Act.put, List.setIfInBounds_toArray, List.set_cons_zero, List.set_cons_succ, List.getElem_toArray, List.getElem_cons_succ, List.getElem_cons_zero])
          refine wpAnyH_take (i := 17) (oi := _) (v := undef) rfl (by kernel_rfl) (by kernel_rfl) (by kernel_rfl) (fun _ _ _ h => h) (Or.inr ⟨by rfl, rfl⟩) (by assumption) ?_
          (try simp only [Act.put, List.setIfInBounds_toArray, List.set_cons_zero, List.set_cons_succ, List.getElem_toArray, List.getElem_cons_succ, List.getElem_cons_zero])
          refine wpAnyH_take (i := 18) (oi := _) (v := ?_) rfl (by kernel_rfl) (by kernel_rfl) (by kernel_rfl) (fun _ _ _ h => h) (Or.inl ⟨by rfl, ?_⟩) (by assumption) ?_
          rotate_left
          · intro w' hSw
            (obtain ⟨r1, r2⟩ := hSw; obtain ⟨p1, p2, p3, p4, p5, p6⟩ := row_facts r1; obtain ⟨q1, q2, q3, q4, q5, q6⟩ := row_facts r2)
            go_simp
            (try with_reducible rfl)
          (try simp only [Act.put, List.setIfInBounds_toArray, List.set_cons_zero, List.set_cons_succ, List.getElem_toArray, List.getElem_cons_succ, List.getElem_cons_zero])
          refine wpAnyH_take (i := 19) (oi := _) (v := ?_) rfl (by kernel_rfl) (by kernel_rfl) (by kernel_rfl) (fun _ _ _ h => h) (Or.inl ⟨by rfl, ?_⟩) (by assumption) ?_
          rotate_left
          · intro w' hSw
            (obtain ⟨r1, r2⟩ := hSw; obtain ⟨p1, p2, p3, p4, p5, p6⟩ := row_facts r1; obtain ⟨q1, q2, q3, q4, q5, q6⟩ := row_facts r2)
            go_simp
            (try with_reducible rfl)
          (try simp only [Act.put, List.setIfInBounds_toArray, List.set_cons_zero, List.set_cons_succ, List.getElem_toArray, List.getElem_cons_succ, List.getElem_cons_zero])
          refine wpAnyH_take (i := 20) (oi := _) (v := undef) rfl (by kernel_rfl) (by kernel_rfl) (by kernel_rfl) (fun _ _ _ h => h) (Or.inr ⟨by rfl, rfl⟩) (by assumption) ?_
          (try simp only [Act.put, List.setIfInBounds_toArray, List.set_cons_zero, List.set_cons_succ, List.getElem_toArray, List.getElem_cons_succ, List.getElem_cons_zero])
          refine wpAnyH_take (i := 21) (oi := _) (v := undef) rfl (by kernel_rfl) (by kernel_rfl) (by kernel_rfl) (fun _ _ _ h => h) (Or.inr ⟨by rfl, rfl⟩) (by assumption) ?_
          (try simp only [Act.put, List.setIfInBounds_toArray, List.set_cons_zero, List.set_cons_succ, List.getElem_toArray, List.getElem_cons_succ, List.getElem_cons_zero])
          refine wpAnyH_take (i := 22) (oi := _) (v := undef) rfl (by kernel_rfl) (by kernel_rfl) (by kernel_rfl) (fun _ _ _ h => h) (Or.inr ⟨by rfl, rfl⟩) (by assumption) ?_
          (try simp only [Act.put, List.setIfInBounds_toArray, List.set_cons_zero, List.set_cons_succ, List.getElem_toArray, List.getElem_cons_succ, List.getElem_cons_zero])
          refine wpAnyH_take (i := 23) (oi := _) (v := undef) rfl (by kernel_rfl) (by kernel_rfl) (by kernel_rfl) (fun _ _ _ h => h) (Or.inr ⟨by rfl, rfl⟩) (by assumption) ?_
          (try simp only [Act.put, List.setIfInBounds_toArray, List.set_cons_zero, List.set_cons_succ, List.getElem_toArray, List.getElem_cons_succ, List.getElem_cons_zero])
          refine wpAnyH_take (i := 24) (oi := _) (v := undef) rfl (by kernel_rfl) (by kernel_rfl) (by kernel_rfl) (fun _ _ _ h => h) (Or.inr ⟨by rfl, rfl⟩) (by assumption) ?_
          (try simp only [Act.put, List.setIfInBounds_toArray, List.set_cons_zero, List.set_cons_succ, List.getElem_toArray, List.getElem_cons_succ, List.getElem_cons_zero])
          refine wpAnyH_take (i := 25) (oi := _) (v := undef) rfl (by kernel_rfl) (by kernel_rfl) (by kernel_rfl) (fun _ _ _ h => h) (Or.inr ⟨by rfl, rfl⟩) (by assumption) ?_
          (try simp only [Act.put, List.setIfInBounds_toArray, List.set_cons_zero, List.set_cons_succ, List.getElem_toArray, List.getElem_cons_succ, List.getElem_cons_zero])
          refine wpAnyH_take (i := 26) (oi := _) (v := ?_) rfl (by kernel_rfl) (by kernel_rfl) (by kernel_rfl) (fun _ _ _ h => h) (Or.inl ⟨by rfl, ?_⟩) (by assumption) ?_
          rotate_left
          · intro w' hSw
            (obtain ⟨r1, r2⟩ := hSw; obtain ⟨p1, p2, p3, p4, p5, p6⟩ := row_facts r1; obtain ⟨q1, q2, q3, q4, q5, q6⟩ := row_facts r2)
            go_simp
            (try with_reducible rfl)
          (try simp only [Act.put, List.setIfInBounds_toArray, List.set_cons_zero, List.set_cons_succ, List.getElem_toArray, List.getElem_cons_succ, List.getElem_cons_zero])
          refine wpAnyH_done (by kernel_rfl) ?_ _
          refine NoPanic.normal ?_
          go_wp2
          go_ret2
          refine ⟨2, 0, rfl, ?_, by (repeat' (first | (with_reducible exact Below.refl _ _) | (with_reducible assumption) | (with_reducible refine below_run ?_ (by assumption)) | (with_reducible refine below_of_upd ?_ (by assumption) ?_) | (with_reducible refine below_drewN ?_ _) | (with_reducible refine Below.drew ?_) | (with_reducible refine Below.setCell ?_ ?_ _) | (with_reducible refine Below.alloc ?_ ?_ _) | (with_reducible refine below_after ?_ ?_ (by assumption)) | (show _ ≤ _; first | omega | (simp; done) | (simp; omega))))⟩
          show hearM _ l = (2, 0)
          rw [hearM, if_neg HNE.out, if_pos (by rw [HE.out]; exact HN.out)]
end Go.Proofs.YtiemdccjphdbmaaGreat
