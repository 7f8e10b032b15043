/-
  The law TopNumbersDense.
-/
import Derived.Test.YtndkpdiacabjgaaGreatDoorN5
import Derived.Test.YtndkpdiacabjgaaGreatDoorR5
import Derived.Test.YtndkpdiacabjgaaGreatDoorS5
import Derived.Test.YtndkpdiacabjgaaGreatDoorGl
namespace Go.Proofs.YtndkpdiacabjgaaGreatDoor
open Go.RowKit

theorem asc_snoc : ∀ (l : List ByteArray) (p : Int) (m s : ByteArray), asc5 p (l ++ [m]) = 0 → chk5 s.data.toList = 0 → val5 m.data.toList < val5 s.data.toList → asc5 p (l ++ [m] ++ [s]) = 0
  | [], p, m, s, h, hs, hv => by
    simp only [List.nil_append, asc5] at h
    by_cases h1 : chk5 m.data.toList = 0
    · rw [if_pos h1] at h
      by_cases h2 : (val5 m.data.toList : Int) ≤ p
      · rw [if_pos h2] at h; exact absurd h (by decide)
      · simp only [List.nil_append, List.cons_append, asc5]
        rw [if_pos h1, if_neg h2, if_pos hs, if_neg (by omega)]
    · rw [if_neg h1] at h; exact absurd h h1
  | a :: l, p, m, s, h, hs, hv => by
    simp only [List.cons_append, asc5] at h ⊢
    by_cases h1 : chk5 a.data.toList = 0
    · rw [if_pos h1] at h ⊢
      by_cases h2 : (val5 a.data.toList : Int) ≤ p
      · rw [if_pos h2] at h; exact absurd h (by decide)
      · rw [if_neg h2] at h ⊢
        exact asc_snoc l _ m s h hs hv
    · rw [if_neg h1] at h; exact absurd h h1

theorem bet_more (x y : Nat) (h : x < y) (hy : y ≤ 9999999) : (∃ z : Nat, betV x y = (named z, 0) ∧ x < z ∧ z < y) ∨ (betV x y = ([], 12) ∧ y = x + 1) := by
  have key : ∀ u : Int, 0 < u → (x : Int) < nextM x u := fun u hu => by
    have a := next_is x u
    have b := Int.emod_lt_of_pos (x : Int) hu
    omega
  have one : nextM x 1 = (x : Int) + 1 := by unfold nextM; simp
  have fin : ∀ u : Int, 0 < u → nextM x u < y → ∃ z : Nat, of5 (nextM x u) = (named z, 0) ∧ x < z ∧ z < y := fun u hu hl => by
    have a := key u hu
    exact ⟨(nextM x u).toNat, of5_in (by omega) (by omega), by omega, by omega⟩
  unfold betV
  by_cases h1 : nextM x 1000 < y
  · rw [if_pos h1]; exact .inl (fin _ (by decide) h1)
  · rw [if_neg h1]
    by_cases h2 : nextM x 100 < y
    · rw [if_pos h2]; exact .inl (fin _ (by decide) h2)
    · rw [if_neg h2]
      by_cases h3 : nextM x 10 < y
      · rw [if_pos h3]; exact .inl (fin _ (by decide) h3)
      · rw [if_neg h3]
        by_cases h4 : nextM x 1 < y
        · rw [if_pos h4]; exact .inl (fin _ (by decide) h4)
        · rw [if_neg h4, ]
          exact .inr ⟨rfl, by omega⟩

theorem str_news (w : World) (b : ByteArray) : ∀ (j : Nat) u, [Value.string b][j]? = some u → (w.alloc (.cells #[.string b] 9)).cell? ((⟨w.heap.size, 0, none⟩ : Addr).add j) = some u := by
  intro j u hj
  match j, hj with
  | 0, hj =>
    simp at hj
    subst hj
    have hr0 : RowAt (w.alloc (.cells #[.string b] 9)) w.heap.size 9 #[.string b] := RowAt.new _ _ _
    exact (row_facts hr0).1 0
theorem strs_own {w : World} {base : Nat} {v : Value} {l : List ByteArray} (h : w.ownsRow base 9 1 v l.length (l.map Value.string)) (hn : l.length ≤ 140737488351232) : StrsAt w v l :=
  own_seq h hn (fun j => by rw [strsC, List.getElem?_map])
theorem asc5_is (v : Value) (l : List ByteArray) (w : World) (hv : StrsAt w v l) (hs : ∀ s ∈ l, s.size ≤ 9223372036854775806) (h : asc5 0 l = 0) :
    Calls Tryz.prog 11 #[v] w fun e w' => e = .returned (.int .i64 0) ∧ Below w.heap.size w w' := by
  have := asc5_any v l w hv hs
  rw [h] at this
  exact this
theorem own_one (w : World) (a : ByteArray) : (w.alloc (.cells #[.string a] 9)).ownsRow w.heap.size 9 1 (.slice (some ⟨w.heap.size, 0, none⟩) 1 1) [a].length ([a].map Value.string) :=
  ⟨rfl, .inr ⟨w.heap.size, 1, #[.string a], rfl, Nat.le_refl _, heap_alloc_new w _, Nat.le_refl _, by decide, rfl, rfl⟩⟩
/-- The last text of a list that the call itself holds. -/
theorem own_lastS {w : World} {base T : Nat} {v : Value} {l0 : List ByteArray} {m : ByteArray} (h : w.ownsRow base T 1 v (l0 ++ [m]).length ((l0 ++ [m]).map Value.string)) :
    ∃ g cap, v = .slice (some ⟨g, 0, none⟩) (l0 ++ [m]).length cap ∧ w.cell? ⟨g, l0.length, none⟩ = some (.string m) ∧ g < w.heap.size := by
  rcases h.2 with ⟨_, h0⟩ | ⟨g, cap, cur, rfl, hb, hg, hnc, hcm, hcs, htake⟩
  · simp at h0
  · refine ⟨g, cap, rfl, ?_, lt_of_block hg⟩
    rw [cell_of_row w g _ _ _ _ hg]
    have e : ((l0 ++ [m]).map Value.string)[l0.length]? = some (.string m) := by simp
    rw [← htake, List.getElem?_take, if_pos (by simp)] at e
    simpa using e

/-- The length of a slice. -/
def lenOfSlice : Value → Nat
  | .slice _ n _ => n
  | _ => 0

set_option maxHeartbeats 8000000 in
set_option maxRecDepth 100000 in
theorem law_dense (a b : ByteArray) (w : World) (ha : a.size ≤ 9223372036854775806) (hbs : b.size ≤ 9223372036854775806) (hp : Pow w) :
    Calls Tryz.prog 3 #[.string a, .string b] w fun e w' => e = .returned (.bool true) ∧ Below w.heap.size w w' := by
  obtain ⟨i0, hi, hz0, hz1, hz2⟩ := info_parts Tryz.info_strg
  have HP := Lib.hid hp
  clear hp
  obtain ⟨n, hn⟩ : ∃ n, chk5 a.data.toList = n := ⟨_, rfl⟩
  obtain ⟨m, hm⟩ : ∃ n, chk5 b.data.toList = n := ⟨_, rfl⟩
  have C0 := Lib.hid (fun W => rcheck5_is n a W ha (Lib.hid hn))
  have C1 := Lib.hid (fun W => rcheck5_is m b W hbs (Lib.hid hm))
  by_cases h0 : n = 0
  · subst h0
    by_cases m0 : m = 0
    · subst m0
      obtain ⟨y, hy⟩ : ∃ y, val5 b.data.toList = y := ⟨_, rfl⟩
      obtain ⟨x0, hx0⟩ : ∃ y, val5 a.data.toList = y := ⟨_, rfl⟩
      have hy9 : y ≤ 9999999 := by rw [← hy]; exact val_bound hm
      have CO : Hid (∀ W : World, Calls Tryz.prog 7 #[.string a, .string b] W fun e w' => e = .returned (.int .i64 (ord5 x0 y)) ∧ Below W.heap.size W w') := Lib.hid (fun W => by
        have := rorder_any a b W ha hbs hn hm
        rw [hx0, hy] at this
        exact this)
      by_cases hxy : x0 < y
      · have ho : ord5 (x0 : Int) (y : Int) = -1 := ord_lt _ _ (by omega)
        rw [ho] at CO
        have HA0 := Lib.hid hn
        have HM := Lib.hid hm
        have HY := Lib.hid hy
        have HASC0 : Hid (asc5 0 [a] = 0) := Lib.hid (by
          have := val_pos hn
          simp only [asc5]
          rw [if_pos hn, if_neg (by omega)])
        have HV0 : Hid (val5 a.data.toList < y) := Lib.hid (by rw [hx0]; exact hxy)
        have CTB := Lib.hid (fun W => thou5_is y 0 b W hbs (Lib.hid (by rw [thou_good hm, hy])))
        have HALL0 : Hid (∀ s ∈ [a], s.size ≤ 9223372036854775806) := Lib.hid (fun s hs => by rw [List.mem_singleton] at hs; subst hs; exact ha)
        clear hn hm hy hx0 ho hxy
        go_enter Tryz.func3, Tryz.ntmps3
        go_wp2_with fail
        refine (C0.out _).mono ?_
        rintro e w1 ⟨rfl, hb1⟩
        go_wp2_with fail
        refine (C1.out _).mono ?_
        rintro e w2 ⟨rfl, hb2⟩
        go_wp2_with fail
        refine (CO.out _).mono ?_
        rintro e w3 ⟨rfl, hb3⟩
        have HB3 := Lib.hid (below_run (below_run hb1 hb2) hb3)
        have hown0 := own_one w3 a
        have hown1 : (w3.alloc (.cells #[.string a] 9)).ownsRow w.heap.size 9 1 (.slice (some ⟨w3.heap.size, 0, none⟩) 1 1) [a].length ([a].map Value.string) :=
          ⟨hown0.1, hown0.2.imp id (fun ⟨g, cap, cur, e, hg, r⟩ => ⟨g, cap, cur, e, Nat.le_trans HB3.out.size hg, r⟩)⟩
        clear hb1 hb2 hb3 hown0 C0 C1 CO
        go_wp2
        go_loopw [5, 6, 7, 8, 9, 10, 11, 12] (fun lv _ _ _ _ _ _ _ wr => ∃ (l0 : List ByteArray) (s : ByteArray), (l0 ++ [s]).length ≤ 60 ∧ wr.ownsRow w.heap.size 9 1 lv (l0 ++ [s]).length ((l0 ++ [s]).map Value.string) ∧ Hid (chk5 s.data.toList = 0) ∧ Hid (asc5 0 (l0 ++ [s]) = 0) ∧ Hid (val5 s.data.toList < y) ∧ Hid (∀ t ∈ l0 ++ [s], t.size ≤ 9223372036854775806) ∧ Hid (Below w.heap.size w wr)) (fun lv _ _ _ _ _ _ _ _ => 60 - lenOfSlice lv)
        case atStart => exact ⟨[], a, by simp, hown1, HA0, HASC0, HV0, HALL0, Lib.hid (HB3.out.alloc HB3.out.size _)⟩
        case round =>
          rename World => wr
          obtain ⟨l0, s, hk, hown, HC, HASC, HV, HALL, HB⟩ := hrel
          obtain ⟨l, hl⟩ : ∃ l, l0 ++ [s] = l := ⟨_, rfl⟩
          obtain ⟨g, cap, rfl, hcell, hg⟩ := own_lastS hown
          have hll : l.length = l0.length + 1 := by rw [← hl]; simp
          have HALLB : Hid (∀ t ∈ l ++ [b], t.size ≤ 9223372036854775806) := Lib.hid (fun t ht => by
            rcases List.mem_append.1 ht with h | h
            · exact HALL.out t (by rw [hl]; exact h)
            · rw [List.mem_singleton] at h; subst h; exact hbs)
          have HASCB : Hid (asc5 0 (l ++ [b]) = 0) := Lib.hid (by rw [← hl]; exact asc_snoc l0 0 s b HASC.out HM.out (by rw [HY.out]; exact HV.out))
          have hss : s.size ≤ 9223372036854775806 := HALL.out s (by simp)
          have HL := Lib.hid hl
          have HALL' : Hid (∀ t ∈ l, t.size ≤ 9223372036854775806) := by rw [← hl]; exact HALL
          have HASC' : Hid (asc5 0 l = 0) := by rw [← hl]; exact HASC
          rw [hl] at hk hown ⊢
          have hk1 : (l.length : Int) ≤ 60 := by omega
          clear hl HALL HASC
          by_cases h60 : l.length < 60
          · have h60' : (l.length : Int) < 60 := by omega
            have hw1 : IntKind.i64.wrap ((l.length : Int) - 1) = (l0.length : Int) := by rw [IntWalk.i64_in _ (by omega)]; omega
            have hw2 : (l0.length : Int) < (l.length : Int) := by omega
            have hw3 : (0 : Int) ≤ (l0.length : Int) := by omega
            clear hll
            obtain ⟨x, hx⟩ : ∃ x, val5 s.data.toList = x := ⟨_, rfl⟩
            have hxy : x < y := by rw [← hx]; exact HV.out
            have hbv : bet5 s.data.toList b.data.toList = betV x y := by
              rw [bet_ab HC.out HM.out, hx, HY.out, if_neg (by omega)]
            rcases bet_more x y hxy hy9 with ⟨z, hz, hz1', hz2'⟩ | ⟨hz, hz1'⟩
            · obtain ⟨t, ht⟩ : ∃ t, str (named z) = t := ⟨_, rfl⟩
              have CB := Lib.hid (fun W (hW : Pow W) => bet5_is s b (named z) 0 t W hW hss hbs (by rw [hbv, hz]) ht)
              have hct : chk5 t.data.toList = 0 := by rw [← ht, str_data]; exact chk_named z (by omega) (by omega)
              have hvt : val5 t.data.toList = z := by rw [← ht, str_data, val_named]
              have htl : t.size ≤ 9223372036854775806 := by
                rw [← ht, str_len]
                have := named_len z (by omega)
                omega
              have HN : Hid (Hid (chk5 t.data.toList = 0) ∧ Hid (asc5 0 (l ++ [t]) = 0) ∧ Hid (val5 t.data.toList < y) ∧ Hid (∀ u ∈ l ++ [t], u.size ≤ 9223372036854775806)) := Lib.hid ⟨Lib.hid hct, Lib.hid (by rw [← HL.out]; exact asc_snoc l0 0 s t (by rw [HL.out]; exact HASC'.out) hct (by rw [hx, hvt]; exact hz1')), Lib.hid (by rw [hvt]; exact hz2'), Lib.hid (fun u hu => by
                rcases List.mem_append.1 hu with h | h
                · exact HALL'.out u h
                · rw [List.mem_singleton] at h; subst h; exact htl)⟩
              clear hx hxy hbv hz hz1' hz2' ht hct hvt htl HASCB HALLB
              go_wp2_with fail
              refine (CB.out _ (HP.out.run HB.out)).mono ?_
              rintro e w2 ⟨rfl, hb2⟩
              have hown2 := own_runG hown hb2
              have hbw2 := below_run HB.out hb2
              have hsz2 := hbw2.size
              clear hown hb2 hcell
              go_wp2_with (at_builtin; refine wpList_append_own _ rfl _ _ 25 rfl w.heap.size 9 i0 _ 1 16 Tryz.underlying25 hi hz0 hz1 hz2 rfl (by decide) _ _ _ rfl (hown2.alloc _) ⟨w2.heap.size, 0, none⟩ 1 1 [.string t] rfl rfl ?c1 ?c2 ?c3 ?c4 ?c5 ?_)
              case c1 => exact str_news w2 t
              case c2 => intro u hu; simp at hu; subst hu; rfl
              case c3 => unfold maxLen; omega
              case c4 => omega
              case c5 => simp; omega
              · intro v' w4 hown' hgrow _
                have hb4 := below_grown (hbw2.alloc hsz2 _) (hown2.alloc _) (Nat.le_refl _) hgrow (Nat.le_trans hsz2 (by simp))
                have hownN : w4.ownsRow w.heap.size 9 1 v' (l ++ [t]).length ((l ++ [t]).map Value.string) := by rw [List.length_append, List.map_append]; exact hown'
                have hlsl : lenOfSlice v' = l.length + 1 := by
                  rcases hownN.2 with ⟨_, h0⟩ | ⟨g', cap', cur', e', _⟩
                  · simp at h0
                  · rw [e']; simp [lenOfSlice]
                clear hgrow hown' hown2
                go_wp2
                go_roundw
                case rel => exact ⟨l, t, by simp; omega, hownN, HN.out.1, HN.out.2.1, HN.out.2.2.1, HN.out.2.2.2, Lib.hid hb4⟩
                case measure => rw [hlsl]; simp [lenOfSlice]; omega
            · have CB := Lib.hid (fun W (hW : Pow W) => bet5_is s b [] 12 ⟨#[]⟩ W hW hss hbs (by rw [hbv, hz]) rfl)
              have CT := Lib.hid (fun W => thou5_is x 0 s W hss (Lib.hid (by rw [thou_good HC.out, hx])))
              have hw5 : IntKind.i64.wrap ((x : Int) + 1) = (y : Int) := by rw [IntWalk.i64_in _ (by omega)]; omega
              clear hx hxy hbv hz hz1'
              go_wp2_with fail
              refine (CB.out _ (HP.out.run HB.out)).mono ?_
              rintro e w2 ⟨rfl, hb2⟩
              go_wp2_with fail
              refine (CT.out _).mono ?_
              rintro e w2a ⟨rfl, hb2a⟩
              go_wp2_with fail
              refine (CTB.out _).mono ?_
              rintro e w2b ⟨rfl, hb2b⟩
              have hownb := own_runG (own_runG (own_runG hown hb2) hb2a) hb2b
              have hbwb := below_run (below_run (below_run HB.out hb2) hb2a) hb2b
              have hszb := hbwb.size
              clear hown hb2 hb2a hb2b hcell
              go_wp2_with (at_builtin; refine wpList_append_own _ rfl _ _ 25 rfl w.heap.size 9 i0 _ 1 16 Tryz.underlying25 hi hz0 hz1 hz2 rfl (by decide) _ _ _ rfl (hownb.alloc _) ⟨w2b.heap.size, 0, none⟩ 1 1 [.string b] rfl rfl ?c1 ?c2 ?c3 ?c4 ?c5 ?_)
              try case c1 => exact str_news w2b b
              case c2 => first | (intro u hu; simp at hu; subst hu; rfl) | rfl
              case c3 => unfold maxLen; omega
              case c4 => omega
              case c5 => first | (simp; omega) | omega
              · intro v' w4 hown' hgrow _
                have hb4 := below_grown (hbwb.alloc hbwb.size _) (hownb.alloc _) (Nat.le_refl _) hgrow (Nat.le_trans hbwb.size (by simp))
                have hst : StrsAt w4 v' (l ++ [b]) := strs_own (by rw [List.length_append, List.map_append]; exact hown') (by rw [List.length_append]; simp; omega)
                have CA := Lib.hid (asc5_is v' (l ++ [b]) w4 hst HALLB.out HASCB.out)
                have HB4 := Lib.hid hb4
                clear hgrow hown' hb4 hst
                go_wp2_with fail
                refine CA.out.mono ?_
                rintro e w5 ⟨rfl, hb5⟩
                have HB5 := Lib.hid (below_run HB4.out hb5)
                go_wp2_with fail
                refine (playN_any _ (HP.out.run HB5.out)).mono ?_
                rintro e w6 ⟨rfl, hb6⟩
                go_wp2
                go_ret
                exact ⟨rfl, below_run HB5.out hb6⟩
          · have h60' : ¬ (l.length : Int) < 60 := by omega
            have hbwr := HB.out
            have hszr := hbwr.size
            clear hll hcell
            go_wp2_with (at_builtin; refine wpList_append_own _ rfl _ _ 25 rfl w.heap.size 9 i0 _ 1 16 Tryz.underlying25 hi hz0 hz1 hz2 rfl (by decide) _ _ _ rfl (hown.alloc _) ⟨wr.heap.size, 0, none⟩ 1 1 [.string b] rfl rfl ?c1 ?c2 ?c3 ?c4 ?c5 ?_)
            try case c1 => exact str_news wr b
            case c2 => first | (intro u hu; simp at hu; subst hu; rfl) | rfl
            case c3 => unfold maxLen; omega
            case c4 => omega
            case c5 => first | (simp; omega) | omega
            · intro v' w4 hown' hgrow _
              have hb4 := below_grown (hbwr.alloc hbwr.size _) (hown.alloc _) (Nat.le_refl _) hgrow (Nat.le_trans hbwr.size (by simp))
              have hst : StrsAt w4 v' (l ++ [b]) := strs_own (by rw [List.length_append, List.map_append]; exact hown') (by rw [List.length_append]; simp; omega)
              have CA := Lib.hid (asc5_is v' (l ++ [b]) w4 hst HALLB.out HASCB.out)
              have HB4 := Lib.hid hb4
              clear hgrow hown' hb4 hst
              go_wp2_with fail
              refine CA.out.mono ?_
              rintro e w5 ⟨rfl, hb5⟩
              have HB5 := Lib.hid (below_run HB4.out hb5)
              go_wp2_with fail
              refine (playN_any _ (HP.out.run HB5.out)).mono ?_
              rintro e w6 ⟨rfl, hb6⟩
              go_wp2
              go_ret
              exact ⟨rfl, below_run HB5.out hb6⟩
      · have ho := ord_ge (x0 : Int) (y : Int) (by omega)
        obtain ⟨c, hc⟩ : ∃ c, ord5 (x0 : Int) (y : Int) = c := ⟨_, rfl⟩
        rw [hc] at ho CO
        clear hn hm hy hx0 hxy hc
        go_enter Tryz.func3, Tryz.ntmps3
        go_wp2_with fail
        refine (C0.out _).mono ?_
        rintro e w1 ⟨rfl, hb1⟩
        go_wp2_with fail
        refine (C1.out _).mono ?_
        rintro e w2 ⟨rfl, hb2⟩
        go_wp2_with fail
        refine (CO.out _).mono ?_
        rintro e w3 ⟨rfl, hb3⟩
        have HB3 := Lib.hid (below_run (below_run hb1 hb2) hb3)
        go_wp2_with fail
        refine (playN_any _ (HP.out.run HB3.out)).mono ?_
        rintro e w6 ⟨rfl, hb6⟩
        go_wp2
        go_ret
        exact ⟨rfl, below_run HB3.out hb6⟩
    · have e9 : (m != 0) = true := by simpa using m0
      clear hn hm
      go_enter Tryz.func3, Tryz.ntmps3
      go_wp2_with fail
      refine (C0.out _).mono ?_
      rintro e w1 ⟨rfl, hb1⟩
      go_wp2_with fail
      refine (C1.out _).mono ?_
      rintro e w2 ⟨rfl, hb2⟩
      have HB3 := Lib.hid (below_run hb1 hb2)
      go_wp2_with fail
      refine (playN_any _ (HP.out.run HB3.out)).mono ?_
      rintro e w6 ⟨rfl, hb6⟩
      go_wp2
      go_ret
      exact ⟨rfl, below_run HB3.out hb6⟩
  · have e9 : (n != 0) = true := by simpa using h0
    clear hn hm
    go_enter Tryz.func3, Tryz.ntmps3
    go_wp2_with fail
    refine (C0.out _).mono ?_
    rintro e w1 ⟨rfl, hb1⟩
    have HB3 := Lib.hid hb1
    go_wp2_with fail
    refine (playN_any _ (HP.out.run HB3.out)).mono ?_
    rintro e w6 ⟨rfl, hb6⟩
    go_wp2
    go_ret
    exact ⟨rfl, below_run HB3.out hb6⟩
end Go.Proofs.YtndkpdiacabjgaaGreatDoor
