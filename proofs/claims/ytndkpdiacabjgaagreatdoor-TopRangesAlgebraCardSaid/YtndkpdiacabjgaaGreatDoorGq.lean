/-
  The law TopRangesTexts.
-/
import Derived.Test.YtndkpdiacabjgaaGreatDoorGp
import Derived.Test.YtndkpdiacabjgaaGreatDoorGl
namespace Go.Proofs.YtndkpdiacabjgaaGreatDoor
open Go.RowKit

theorem text_len {l : List (Int × Int)} (h : Canon l) (hn : l.length ≤ 30) : (textG l).length ≤ 450 := by
  cases l with
  | nil => simp [textG, Lib.join_nil]
  | cons r l' =>
    rw [textG_cons, List.length_append]
    have a1 := fmtG_len (h.1 r (by simp))
    have a2 := moreG_len (termsG true l') (fun t ht => by
      obtain ⟨r', hr', rfl⟩ := List.mem_map.1 ht
      exact h.1 r' (by simp [hr']))
    have a3 : (termsG true l').length = l'.length := by simp [termsG]
    simp at hn
    omega
theorem terms_right {l : List (Int × Int)} (h : Canon l) (q : Bool) : ∀ t ∈ termsG q l, rightG t.2 = true := fun t ht => by
  obtain ⟨r', hr', rfl⟩ := List.mem_map.1 ht
  exact h.1 r' hr'
theorem runT_or (x : Int × Int) (xs lb : List (Int × Int)) (c : Nat) : runG ((true, x) :: (termsG true xs ++ termsG true lb)) (fun _ => false) c = (memG (x :: xs) c || memG lb c) := by
  have : (true, x) :: (termsG true xs ++ termsG true lb) = termsG true (x :: xs) ++ termsG true lb := rfl
  rw [this, runG_append, runG_terms, runG_terms, putsG_true, putsG_true]
  simp
theorem runT_not (x : Int × Int) (xs lb : List (Int × Int)) (c : Nat) : runG ((true, x) :: (termsG true xs ++ termsG false lb)) (fun _ => false) c = (memG (x :: xs) c && !memG lb c) := by
  have : (true, x) :: (termsG true xs ++ termsG false lb) = termsG true (x :: xs) ++ termsG false lb := rfl
  rw [this, runG_append, runG_terms, runG_terms, putsG_false, putsG_true]
  simp
theorem text_or (x y : Int × Int) (xs ys : List (Int × Int)) : (textG (x :: xs) ++ [32, 43, 32]) ++ textG (y :: ys) = fmtG x ++ moreG (termsG true xs ++ termsG true (y :: ys)) := by
  rw [textG_cons, textG_cons, moreG_append]
  show _ = fmtG x ++ (moreG (termsG true xs) ++ moreG ((true, y) :: termsG true ys))
  rw [moreG]
  simp
theorem more_snoc (l : List (Int × Int)) (k : Nat) (r : Int × Int) (h : l.take (k + 1) = l.take k ++ [r]) : moreG (termsG false (l.take (k + 1))) = moreG (termsG false (l.take k)) ++ ([32, 45, 32] ++ fmtG r) := by
  rw [h, termsG, List.map_append, moreG_append]
  show _ ++ moreG [(false, r)] = moreG (termsG false (l.take k)) ++ _
  rw [moreG, moreG]
  simp [termsG]
theorem pset_is (q : Bool) (l : List (Int × Int)) (v : Value) (w : World) (h : RngsAt w v l) (hr : l.length * 16 ≤ 140737488351232) (hq : (decide (l.length ≤ 30) && decide (chkG none l = 0)) = q) :
    Calls Tryz.prog 12 #[v] w fun e w' => e = .returned (.bool q) ∧ Below w.heap.size w w' := by
  have := pset_any l v w h hr
  rw [hq] at this
  exact this
theorem format_is (l : List (Int × Int)) (v : Value) (w : World) (s : ByteArray) (h : RngsAt w v l) (hl : Canon l) (hn : l.length ≤ 999) (hp : Pow w) (hs : str (textG l) = s) :
    Calls Tryz.prog 13 #[v] w fun e w' => e = .returned (.tuple #[.string s, .int .i64 0]) ∧ Below w.heap.size w w' := by
  have := gformat_any l v w h hl hn hp
  rw [hs] at this
  exact this

set_option maxHeartbeats 16000000 in
set_option maxRecDepth 100000 in
theorem law_texts (la lb : List (Int × Int)) (va vb : Value) (w : World) (ha : RngsAt w va la) (hb : RngsAt w vb lb) (hra : la.length * 16 ≤ 140737488351232) (hrb : lb.length * 16 ≤ 140737488351232) (hp : Pow w) :
    Calls Tryz.prog 4 #[va, vb] w fun e w' => e = .returned (.bool true) ∧ Below w.heap.size w w' := by
  obtain ⟨aa, ac, e⟩ := seq_shape ha
  subst e
  obtain ⟨ba, bc, e⟩ := seq_shape hb
  subst e
  have HP := Lib.hid hp
  have HA := Lib.hid ha
  have HB := Lib.hid hb
  obtain ⟨qa, hqa⟩ : ∃ q, (decide (la.length ≤ 30) && decide (chkG none la = 0)) = q := ⟨_, rfl⟩
  obtain ⟨qb, hqb⟩ : ∃ q, (decide (lb.length ≤ 30) && decide (chkG none lb = 0)) = q := ⟨_, rfl⟩
  have C1 := Lib.hid (pset_is qa la _ w ha hra hqa)
  have C2 := Lib.hid (fun W (hW : Below w.heap.size w W) => pset_is qb lb _ W (hb.run hW) hrb hqb)
  have C3 := Lib.hid (fun W (hW : Below w.heap.size w W) => playN_any W (hp.run hW))
  clear ha hb hp
  cases qa with
  | false =>
    clear hqa hqb hra hrb
    go_enter Tryz.func4, Tryz.ntmps4
    go_wp2_with fail
    refine C1.out.mono ?_
    rintro e w1 ⟨rfl, hb1⟩
    go_wp2_with fail
    refine (C3.out _ hb1).mono ?_
    rintro e w2 ⟨rfl, hb2⟩
    go_wp2
    go_ret
    exact ⟨rfl, below_run hb1 hb2⟩
  | true =>
    cases qb with
    | false =>
      clear hqa hqb hra hrb
      go_enter Tryz.func4, Tryz.ntmps4
      go_wp2_with fail
      refine C1.out.mono ?_
      rintro e w1 ⟨rfl, hb1⟩
      go_wp2_with fail
      refine (C2.out _ hb1).mono ?_
      rintro e w1a ⟨rfl, hb1a⟩
      have HB1 := Lib.hid (below_run hb1 hb1a)
      go_wp2_with fail
      refine (C3.out _ HB1.out).mono ?_
      rintro e w2 ⟨rfl, hb2⟩
      go_wp2
      go_ret
      exact ⟨rfl, below_run HB1.out hb2⟩
    | true =>
      rw [Bool.and_eq_true, decide_eq_true_eq, decide_eq_true_eq] at hqa hqb
      by_cases hza : la.length = 0
      · have hl0 : la = [] := List.eq_nil_of_length_eq_zero hza
        subst hl0
        clear hqa hqb hra hrb hza
        go_enter Tryz.func4, Tryz.ntmps4
        go_wp2_with fail
        refine C1.out.mono ?_
        rintro e w1 ⟨rfl, hb1⟩
        go_wp2_with fail
        refine (C2.out _ hb1).mono ?_
        rintro e w1a ⟨rfl, hb1a⟩
        have HB1 := Lib.hid (below_run hb1 hb1a)
        go_wp2_with fail
        refine (C3.out _ HB1.out).mono ?_
        rintro e w2 ⟨rfl, hb2⟩
        go_wp2
        go_ret
        exact ⟨rfl, below_run HB1.out hb2⟩
      · by_cases hzb : lb.length = 0
        · have hl0 : lb = [] := List.eq_nil_of_length_eq_zero hzb
          subst hl0
          have hz2 : ¬ (la.length : Int) = 0 := by omega
          have hz3 : ¬ la = [] := fun e => hza (by rw [e]; rfl)
          clear hqa hqb hra hrb hzb
          go_enter Tryz.func4, Tryz.ntmps4
          go_wp2_with fail
          refine C1.out.mono ?_
          rintro e w1 ⟨rfl, hb1⟩
          go_wp2_with fail
          refine (C2.out _ hb1).mono ?_
          rintro e w1a ⟨rfl, hb1a⟩
          have HB1 := Lib.hid (below_run hb1 hb1a)
          go_wp2_with fail
          refine (C3.out _ HB1.out).mono ?_
          rintro e w2 ⟨rfl, hb2⟩
          go_wp2
          go_ret
          exact ⟨rfl, below_run HB1.out hb2⟩
        · have hz1 : ¬ (lb.length : Int) = 0 := by omega
          have hz2 : ¬ (la.length : Int) = 0 := by omega
          have hz5 : ((la.length : Int) == 0) = false := beq_eq_false_iff_ne.2 hz2
          have hz6 : ((lb.length : Int) == 0) = false := beq_eq_false_iff_ne.2 hz1
          clear hz1 hz2
          have ca := (chkG_none la).1 hqa.2
          have cb := (chkG_none lb).1 hqb.2
          have CA := Lib.hid ca
          have CB := Lib.hid cb
          obtain ⟨x, xs, hla⟩ : ∃ x xs, la = x :: xs := by
            cases la with
            | nil => simp at hza
            | cons x xs => exact ⟨x, xs, rfl⟩
          obtain ⟨y, ys, hlb⟩ : ∃ x xs, lb = x :: xs := by
            cases lb with
            | nil => simp at hzb
            | cons x xs => exact ⟨x, xs, rfl⟩
          obtain ⟨s, hs⟩ : ∃ s, str (textG la) = s := ⟨_, rfl⟩
          obtain ⟨t, ht⟩ : ∃ s, str (textG lb) = s := ⟨_, rfl⟩
          have sa : s.size ≤ 450 := by rw [← hs]; exact text_len ca hqa.1
          have sb : t.size ≤ 450 := by rw [← ht]; exact text_len cb hqb.1
          have F1 := Lib.hid (fun W (hW : Below w.heap.size w W) => format_is la _ W s (HA.out.run hW) ca (by omega) (HP.out.run hW) hs)
          have F2 := Lib.hid (fun W (hW : Below w.heap.size w W) => format_is lb _ W t (HB.out.run hW) cb (by omega) (HP.out.run hW) ht)
          have UN := Lib.hid (fun W (hW : Below w.heap.size w W) => gUnion_any la lb _ _ W (HA.out.run hW) (HB.out.run hW) ca cb)
          have MN := Lib.hid (fun W (hW : Below w.heap.size w W) => gMinus_any la lb _ _ W (HA.out.run hW) (HB.out.run hW) ca cb)
          obtain ⟨st, hst⟩ : ∃ u : ByteArray, (s ++ (⟨#[32, 43, 32]⟩ : ByteArray)) ++ t = u := ⟨_, rfl⟩
          have hstl : st.data.toList = fmtG x ++ moreG (termsG true xs ++ termsG true lb) := by
            rw [← hst, ← hs, ← ht, hla, hlb, show (⟨#[32, 43, 32]⟩ : ByteArray) = str [32, 43, 32] from rfl, str_app, str_app, text_or]
            rfl
          have hsts : st.size = s.size + 3 + t.size := by rw [← hst, ByteArray.size_append, ByteArray.size_append]; rfl
          have hcax : Canon (x :: xs) := by rw [← hla]; exact ca
          have hrx : rightG x = true := hcax.1 x (by simp)
          have hcxs : Canon xs := (canon_cons.1 hcax).2.2
          have P1 := Lib.hid (fun W => gparse_any st x (termsG true xs ++ termsG true lb) W (by omega) hstl hrx (fun z hz => by
            rcases List.mem_append.1 hz with h | h
            · exact terms_right hcxs true z h
            · exact terms_right cb true z h))
          have EQ1 : Hid (∀ u v, SetOf (fun c => (fun p q : Bool => p || q) (memG la c) (memG lb c)) u → SetOf (runG ((true, x) :: (termsG true xs ++ termsG true lb)) fun _ => false) v → u = v) := Lib.hid (fun u v h1 h2 => set_eq h1 h2 (fun c _ _ => by rw [runT_or, ← hla]))
          have EQ2 : Hid (∀ u v, SetOf (fun c => (fun p q : Bool => p && !q) (memG la c) (memG lb c)) u → SetOf (runG ((true, x) :: (termsG true xs ++ termsG false lb)) fun _ => false) v → u = v) := Lib.hid (fun u v h1 h2 => set_eq h1 h2 (fun c _ _ => by rw [runT_not, ← hla]))
          have HS0 : Hid (s.data.toList = fmtG x ++ moreG (termsG true xs ++ termsG false (lb.take 0))) := Lib.hid (by
            rw [← hs, hla, textG_cons, List.take_zero]
            show _ = fmtG x ++ moreG (termsG true xs ++ [])
            rw [List.append_nil]; rfl)
          have P2 := Lib.hid (fun W (u : ByteArray) (hu : u.data.toList = fmtG x ++ moreG (termsG true xs ++ termsG false lb)) (hz : u.size ≤ 4096) => gparse_any u x (termsG true xs ++ termsG false lb) W hz hu hrx (fun z hz => by
            rcases List.mem_append.1 hz with h | h
            · exact terms_right hcxs true z h
            · exact terms_right cb false z h))
          have z1 : ¬ (9223372036854775807 : Int) < (s.size : Int) + 3 := by omega
          have z2 : ¬ (9223372036854775807 : Int) < (s.size : Int) + 3 + (t.size : Int) := by omega
          clear z1 z2
          have hla30 : la.length ≤ 30 := hqa.1
          have hlb30 : (lb.length : Int) ≤ 30 := by have := hqb.1; omega
          have hst1 := Lib.hid hst
          have HSA := Lib.hid sa
          clear hqa hqb hra hrb ca cb hla hlb hs ht hstl hsts hcax hrx hcxs hza hzb hst sa
          go_enter Tryz.func4, Tryz.ntmps4
          go_wp2_with fail
          refine C1.out.mono ?_
          rintro e w1 ⟨rfl, hb1⟩
          go_wp2_with fail
          refine (C2.out _ hb1).mono ?_
          rintro e w2 ⟨rfl, hb2⟩
          have HB2 := Lib.hid (below_run hb1 hb2)
          clear hb1 hb2
          go_wp2_with fail
          refine (F1.out _ HB2.out).mono ?_
          rintro e w3 ⟨rfl, hb3⟩
          have HB3 := Lib.hid (below_run HB2.out hb3)
          clear hb3
          go_wp2_with fail
          refine (F2.out _ HB3.out).mono ?_
          rintro e w4 ⟨rfl, hb4⟩
          have HB4 := Lib.hid (below_run HB3.out hb4)
          clear hb4
          go_wp2_with fail
          refine (UN.out _ HB4.out).mono ?_
          rintro e w5 ⟨ua, uc, U, rfl, hU, hUs, hU9, hb5⟩
          have HB5 := Lib.hid (below_run HB4.out hb5)
          have HU := Lib.hid hU
          have HUs := Lib.hid hUs
          clear hb5 hU hUs hU9
          have hst2 := hst1.out
          have sa1 : (s.size : Int) ≤ 450 := by have := HSA.out; omega
          have sb1 : (t.size : Int) ≤ 450 := by omega
          have z1 : ¬ (9223372036854775807 : Int) < (s.size : Int) + 3 := by omega
          have z2 : ¬ (9223372036854775807 : Int) < (s.size : Int) + 3 + (t.size : Int) := by omega
          go_wp2_with fail
          refine (P1.out w5).mono ?_
          rintro e w6 ⟨pa, pc, V, rfl, hV, hVs, hV9, hb6⟩
          have hUV := EQ1.out U V HUs.out hVs
          subst hUV
          have HB6 := Lib.hid (below_run HB5.out hb6)
          have E1 := Lib.hid (gequal_same U _ _ w6 (HU.out.run hb6) hV)
          clear hb6 hV hVs hV9 hst2 HU HUs z1 z2
          go_wp2_with fail
          refine E1.out.mono ?_
          rintro e w7 ⟨rfl, hb7⟩
          have HB7 := Lib.hid (below_run HB6.out hb7)
          clear hb7
          go_wp2_with fail
          refine (MN.out _ HB7.out).mono ?_
          rintro e w8 ⟨da, dc, D, rfl, hD, hDs, hD9, hb8⟩
          have HB8 := Lib.hid (below_run HB7.out hb8)
          have HD := Lib.hid hD
          have HDs := Lib.hid hDs
          clear hb8 hD hDs hD9 HB2 HB3 HB4 HB5 HB6 HB7 E1
          go_wp2
          go_loopw [5, 16, 17, 18, 87] (fun sv _ _ _ i wr => ∃ (k : Nat) (u : ByteArray), k ≤ lb.length ∧ i = .int .i64 k ∧ sv = .string u ∧ Hid (u.data.toList = fmtG x ++ moreG (termsG true xs ++ termsG false (lb.take k))) ∧ u.size ≤ 450 + 15 * k ∧ Hid (Below w8.heap.size w8 wr)) (fun _ _ _ _ i _ => lb.length - (intOf i).toNat)
          case atStart => exact ⟨0, s, by omega, rfl, rfl, HS0, by have := HSA.out; omega, Lib.hid (Below.refl _ _)⟩
          case round =>
            rename World => wr
            obtain ⟨k, u, hk, rfl, rfl, HUT, husz, HBr⟩ := hrel
            have HBw := Lib.hid (below_run HB8.out HBr.out)
            by_cases hlt2 : k < lb.length
            · have hlt3 : (k : Int) < (lb.length : Int) := by omega
              have hk0 : (0 : Int) ≤ (k : Int) := by omega
              have hw1 : ∃ b off cap, Value.slice ba lb.length bc = .slice (some ⟨b, off, none⟩) lb.length cap ∧ ∀ i, i < lb.length * 2 → wr.cell? ⟨b, off + i, none⟩ = rngsC lb i := by
                rcases (SeqAt.below HB.out HBw.out : RngsAt wr _ lb) with ⟨h0, _⟩ | ⟨h0, h1, b, off, cap, hv, hbl, hcel⟩
                · omega
                · exact ⟨b, off, cap, hv, hcel⟩
              obtain ⟨b, off, cap, hve, hcel⟩ := hw1
              cases hve
              obtain ⟨e1, e2⟩ := rng_cells hcel k hlt2
              have hT : lb.take (k + 1) = lb.take k ++ [lb[k]] := List.take_succ_eq_append_getElem hlt2
              have hri := CB.out.1 _ (List.getElem_mem hlt2)
              obtain ⟨p, hpx⟩ : ∃ p, lb[k].1 = p := ⟨_, rfl⟩
              obtain ⟨q, hqx⟩ : ∃ q, lb[k].2 = q := ⟨_, rfl⟩
              have hpq : lb[k] = (p, q) := by rw [← hpx, ← hqx]
              rw [hpx] at e1
              rw [hqx] at e2
              rw [hpq] at hT hri
              obtain ⟨one, hone⟩ : ∃ o, str (fmtG (p, q)) = o := ⟨_, rfl⟩
              have ho12 : one.size ≤ 12 := by rw [← hone]; exact fmtG_len hri
              have hc1 : Canon [(p, q)] := canon_cons.2 ⟨hri, by simp, canon_nil⟩
              have htx : textG [(p, q)] = fmtG (p, q) := by rw [textG_cons]; simp [termsG, moreG]
              have FO := Lib.hid (fun W (hW : Below w.heap.size w W) v (hv : RngsAt W v [(p, q)]) => format_is [(p, q)] v W one hv hc1 (by simp) (HP.out.run hW) (by rw [htx]; exact hone))
              obtain ⟨un, hun⟩ : ∃ o : ByteArray, u ++ ((⟨#[32, 45, 32]⟩ : ByteArray) ++ one) = o := ⟨_, rfl⟩
              have HUN : Hid (un.data.toList = fmtG x ++ moreG (termsG true xs ++ termsG false (lb.take (k + 1)))) := Lib.hid (by
                rw [← hun, ByteArray.data_append, Array.toList_append, HUT.out, ByteArray.data_append, Array.toList_append, ← hone, moreG_append, moreG_append, more_snoc lb k (p, q) hT]
                simp [str])
              have hunz : un.size = u.size + (3 + one.size) := by rw [← hun, ByteArray.size_append, ByteArray.size_append]; rfl
              have hunz2 : un.size ≤ 450 + 15 * (k + 1) := by omega
              have y1 : ¬ (9223372036854775807 : Int) < 3 + (one.size : Int) := by omega
              have y2 : ¬ (9223372036854775807 : Int) < (u.size : Int) + (3 + (one.size : Int)) := by omega
              have y3 : (((⟨#[32, 45, 32]⟩ : ByteArray) ++ one).size : Int) = 3 + (one.size : Int) := by rw [ByteArray.size_append]; rfl
              have HUZ := Lib.hid hun
              clear hcel hT hri hpx hqx hpq hone hc1 htx hun hunz
              go_wp2_with fail
              have hrow : RowAt ((wr.alloc (.cells #[.int .i64 p, .int .i64 q] 42)).alloc (.cells #[.int .i64 p, .int .i64 q] 42)) (wr.heap.size + 1) 42 (rngA (p, q)) := RowAt.mk (by simp) rfl
              refine (FO.out _ ((HBw.out.alloc HBw.out.size _).alloc (Nat.le_trans HBw.out.size (by simp)) _) _ (rngs_one hrow)).mono ?_
              rintro e w9 ⟨rfl, hb9⟩
              have HB9 := Lib.hid (below_run ((HBr.out.alloc HBr.out.size _).alloc (Nat.le_trans HBr.out.size (by simp)) _) hb9)
              have hun := HUZ.out
              clear hb9 hrow
              go_wp2
              go_roundw
              case rel => exact ⟨k + 1, un, by omega, by go_num, by first | rfl | rw [hun], HUN, hunz2, HB9⟩
              case measure => simp [intOf]; omega
            · obtain rfl : k = lb.length := by omega
              have hut := HUT.out
              rw [List.take_length] at hut
              have PU := Lib.hid (P2.out wr u hut (by omega))
              clear hut
              go_wp2_with fail
              refine PU.out.mono ?_
              rintro e w9 ⟨pa, pc, V, rfl, hV, hVs, hV9, hb9⟩
              have hDV := EQ2.out D V HDs.out hVs
              subst hDV
              have HB9 := Lib.hid (below_run HBr.out hb9)
              have HB9w := Lib.hid (below_run HB8.out HB9.out)
              have E1 := Lib.hid (gequal_same D _ _ w9 (HD.out.run HB9.out) hV)
              clear hb9 hV hVs hV9
              go_wp2_with fail
              refine E1.out.mono ?_
              rintro e w10 ⟨rfl, hb10⟩
              have HB10 := Lib.hid (below_run HB9w.out hb10)
              clear hb10
              go_wp2_with fail
              refine (C3.out _ HB10.out).mono ?_
              rintro e w11 ⟨rfl, hb11⟩
              go_wp2
              go_ret
              exact ⟨rfl, below_run HB10.out hb11⟩
end Go.Proofs.YtndkpdiacabjgaaGreatDoor
