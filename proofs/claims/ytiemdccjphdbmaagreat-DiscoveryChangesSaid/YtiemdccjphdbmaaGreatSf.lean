/-
  A copy of a list of devices: the library's slices.Clone.
  A search is begun; the whole of a range is searched.
  Search and Find: the program.
-/
import Derived.Test.YtiemdccjphdbmaaGreatBus
import Derived.Test.YtiemdccjphdbmaaGreatSe
namespace Go.Proofs.YtiemdccjphdbmaaGreat
open Go.RowKit

theorem devsL_ones : ∀ (l : List Dev), ∀ u ∈ devsL l, u.oneCell' = true
  | [], u, hu => by cases hu
  | d :: l, u, hu => by
    rcases List.mem_append.1 hu with hu | hu
    · exact dev_ones d u hu
    · exact devsL_ones l u hu

set_option maxHeartbeats 2000000 in
set_option maxRecDepth 100000 in
theorem clone_devs (v : Value) (l : List Dev) (w : World) (hv : DevsAt w v l) (hl : l.length ≤ 1000) :
    Calls Tryz.prog 32 #[v] w fun e w' => ∃ v', e = .returned v' ∧ w'.ownsRow w.heap.size 66 7 v' l.length (devsL l) ∧ Below w.heap.size w w' := by
  obtain ⟨i0, hi, hz0, hz1, hz2⟩ := info_parts Tryz.info_dev
  have q22 : ∀ (w : World) (a : Option Addr) (n c n' c' : Nat), (binOp .eql 22 (.slice a n c) (.slice none n' c')).run Tryz.prog w = .ok (.bool a.isNone) w := fun w a n c n' c' => Lib.run_eql_slice_nil w _ _ a n c n' c' Tryz.underlying22
  have own0 := World.ownsRow_made (e := 66) (size := 7) w #[] 0 (Nat.le_refl _) (Nat.zero_le _) rfl
  rcases hv with ⟨h0, a, cap, rfl⟩ | ⟨h0, h1, b, off, cap, rfl, hlt, hc⟩
  · have hl : l = [] := List.eq_nil_of_length_eq_zero h0
    subst hl
    cases a with
    | none =>
      go_enter Tryz.func32, Tryz.ntmps32
      go_wp2
      go_ret
      exact ⟨_, rfl, World.ownsRow_nil _ _ _ _, Below.refl _ _⟩
    | some a =>
      go_enter Tryz.func32, Tryz.ntmps32
      go_wp2_with (at_builtin; refine wpList_append_own _ rfl _ _ 22 rfl w.heap.size 66 i0 _ 7 56 Tryz.underlying22 hi hz0 hz1 hz2 rfl (by decide) _ _ _ rfl own0 a 0 cap [] rfl ?c0 ?c1 ?c2 ?c3 ?c4 ?c5 ?_)
      case c0 => rfl
      case c1 => intro j u hj; cases hj
      case c2 => intro u hu; cases hu
      case c3 => unfold maxLen; omega
      case c4 => omega
      case c5 => simp
      · intro v' w1 hown hgrow _
        go_wp2
        go_ret
        exact ⟨_, rfl, by simpa [devsL] using hown, ((Below.refl _ w).alloc (Nat.le_refl _) _).grown hgrow (by simp) (by intro k hk; simp [Value.ownBlock] at hk; omega)⟩
  · have A := Lib.hid hc
    clear hc
    go_enter Tryz.func32, Tryz.ntmps32
    go_wp2_with (at_builtin; refine wpList_append_own _ rfl _ _ 22 rfl w.heap.size 66 i0 _ 7 56 Tryz.underlying22 hi hz0 hz1 hz2 rfl (by decide) _ _ _ rfl own0 ⟨b, off, none⟩ l.length cap (devsL l) rfl ?c0 ?c1 ?c2 ?c3 ?c4 ?c5 ?_)
    case c0 => exact devsL_length l
    case c1 =>
      intro j u hj
      have hjn : j < l.length * 7 := by
        have := (List.getElem?_eq_some_iff.1 hj).1
        rw [devsL_length] at this
        exact this
      rw [Addr.add_lit]
      refine Lib.cell?_alloc_some _ ?_
      rw [A.out j hjn, ← devsL_get]
      exact hj
    case c2 => exact devsL_ones l
    case c3 => unfold maxLen; omega
    case c4 => omega
    case c5 => simp
    · intro v' w1 hown hgrow _
      go_wp2
      go_ret
      exact ⟨_, rfl, by simpa using hown, ((Below.refl _ w).alloc (Nat.le_refl _) _).grown hgrow (by simp) (by intro k hk; simp [Value.ownBlock] at hk; omega)⟩
end Go.Proofs.YtiemdccjphdbmaaGreat

namespace Go.Proofs.YtiemdccjphdbmaaGreat
open Go.RowKit

set_option maxHeartbeats 4000000 in
set_option maxRecDepth 100000 in
theorem all_any (A B s m : Nat) (sr : Int) (hB : A ≤ s) (hBm : A ≤ m) (hAB : A ≤ B) (d : Nat) (low high : Int) (t : SSt) (w : World) (hBz : B ≤ w.heap.size) (h1 : isId low = true) (h2 : isId high = true) (hle : low ≤ high) (hd : high - low < 2 ^ d) (hok : Sok sr t) (hs : SAt w B s m sr t (t.known ++ t.found)) :
    Calls Tryz.prog 39 #[.pointer (some ⟨s, 0, none⟩), .int .u64 low, .int .u64 high] w (AllPost A B s m sr (searchS sr d low high t) w) := by
  have hlt := hs.lt
  have hs2 := (hs.alloc (.cells #[.pointer (some ⟨s, 0, none⟩)] 77)).alloc (.cells #[.func (.func 57) #[] #[.pointer (some ⟨w.heap.size, 0, none⟩), .pointer (some ⟨w.heap.size + 1, 0, none⟩)]] 80)
  have hBw : A ≤ w.heap.size := by omega
  have C := Lib.hid (all1_any A B s m w.heap.size (w.heap.size + 1) sr hB hBm hAB (by omega) (by omega) d low high t _ (by simp; omega) h1 h2 hle hd hok hs2 ((RowAt.new _ _ _).alloc _) (RowAt.mk (by simp) rfl))
  have hst : Stir A B s w _ := stir_alloc (stir_alloc (stir_refl A B s w) hBw (.cells #[.pointer (some ⟨s, 0, none⟩)] 77)) (by simp; omega) (.cells #[.func (.func 57) #[] #[.pointer (some ⟨w.heap.size, 0, none⟩), .pointer (some ⟨w.heap.size + 1, 0, none⟩)]] 80)
  have HST := Lib.hid hst
  clear h1 h2 hle hd hok hs hs2 hst
  go_enter Tryz.func39, Tryz.ntmps39
  go_wp2_with fail
  refine C.out.mono ?_
  rintro e w1 ⟨rfl, hs1, hst1⟩
  go_wp2
  go_end0
  exact ⟨rfl, hs1, stir_trans HST.out hst1⟩

set_option maxHeartbeats 400000 in
theorem ident_any (n : Int) (w : World) : Calls Tryz.prog 38 #[.int .u64 n] w fun e w' => e = .returned (.bool (isId n)) ∧ w = w' := by
  go_enter Tryz.func38, Tryz.ntmps38
  go_wp2
  all_goals go_ret
  all_goals exact ⟨ret_bool (by grind [isId]), rfl⟩
/-- The error with which a search begins. -/
def beginE (l : List Dev) (src seq : Int) : Int := if devsE l ≠ 0 then devsE l else if isId src = false ∨ seq < 0 ∨ 255 < seq then 2 else 0
def startS (l : List Dev) (seq : Int) : SSt := ⟨l, seq, [], [], 0⟩
/-- What the beginning of a search leaves. -/
def BegunPost (n : Int) (l : List Dev) (src seq : Int) (w : World) (e : Ending) (w' : World) : Prop :=
  Below w.heap.size w w' ∧ ((n ≠ 0 ∧ e = .returned (.tuple #[.pointer none, .int .i64 n])) ∨ (n = 0 ∧ ∃ s m, e = .returned (.tuple #[.pointer (some ⟨s, 0, none⟩), .int .i64 0]) ∧ w.heap.size ≤ s ∧ w.heap.size ≤ m ∧ SAt w' w.heap.size s m src (startS l seq) []))

theorem get_chk : chk ⟨281474976710655, 1, 0, 4, 0, ⟨#[]⟩⟩ = 0 := by decide
theorem bus_get (l : List Dev) : busE l ⟨281474976710655, 1, 0, 4, 0, ⟨#[]⟩⟩ = devsE l := by
  rw [busE, get_chk]
  by_cases h : devsE l = 0
  · rw [if_neg (not_not_intro h), h]
  · rw [if_pos h]

set_option maxHeartbeats 4000000 in
set_option maxRecDepth 100000 in
theorem begun_any (v : Value) (l : List Dev) (src seq : Int) (w : World) (hv : DevsAt w v l) :
    Calls Tryz.prog 37 #[v, .int .u64 src, .int .i64 seq] w (BegunPost (beginE l src seq) l src seq w) := by
  have hmm := @run_makeMap Tryz.prog
  have C := Lib.hid (bus_any v l 281474976710655 1 0 4 0 ⟨#[]⟩ w hv)
  rw [bus_get] at C
  obtain ⟨n, hn⟩ : ∃ n, devsE l = n := ⟨_, rfl⟩
  rw [hn] at C
  have HV := Lib.hid hv
  have HN := Lib.hid hn
  clear hv hn
  by_cases z : n = 0
  · subst z
    obtain ⟨qi, hqi⟩ : ∃ q, isId src = q := ⟨_, rfl⟩
    have CI := Lib.hid (fun W => ident_any src W)
    rw [hqi] at CI
    have HQ := Lib.hid hqi
    clear hqi
    by_cases g : qi = true ∧ 0 ≤ seq ∧ seq ≤ 255
    · obtain ⟨rfl, g0, g1⟩ := g
      have h0 : beginE l src seq = 0 := by rw [beginE, if_neg (not_not_intro HN.out), if_neg (by rw [HQ.out]; simp; omega)]
      have H0 := Lib.hid h0
      clear h0
      have hl := devs_few HN.out
      go_enter Tryz.func37, Tryz.ntmps37
      go_wp2_with fail
      refine C.out.mono ?_
      rintro e w1 ⟨v1, v2, rfl, -, -, hb1⟩
      have HV1 := Lib.hid (HV.out.run hb1)
      go_wp2_with fail
      refine (CI.out _).mono ?_
      rintro e w2 ⟨rfl, rfl⟩
      go_wp2_with fail
      refine (clone_devs v l _ HV1.out (by omega)).mono ?_
      rintro e w2 ⟨v', rfl, hown, hb2⟩
      have hbw := below_run hb1 hb2
      have hz1 := hbw.size
      have HO := Lib.hid hown
      obtain ⟨a', n', c', rfl⟩ : ∃ a n c, v' = .slice a n c := by
        rcases hown.2 with ⟨rfl, _⟩ | ⟨g, cap, cur, rfl, _⟩
        · exact ⟨_, _, _, rfl⟩
        · exact ⟨_, _, _, rfl⟩
      clear hown hb2 C
      go_wp2
      go_ret2
      refine ⟨?_, .inr ⟨H0.out, w2.heap.size + 1, w2.heap.size, ?_, ?_, ?_, ⟨⟨.slice a' n' c', .slice none 0 0, ?_, ?_, World.ownsRow_nil _ _ _ _, ?_, fun _ => rfl⟩, ?_⟩⟩⟩
      · exact (hbw.alloc (by omega) _).alloc (by simp; omega) _
      · rfl
      · omega
      · omega
      · exact RowAt.mk (by simp) rfl
      · exact ((own_devs HO.out (by omega)).alloc _).alloc _
      · exact (typed_own HO.out).run (((Below.refl _ _).alloc (Nat.le_refl _) _).alloc (by simp) _)
      · exact (seen_new rfl).run ((Below.refl _ _).alloc (Nat.le_refl _) _)
    · have h0 : beginE l src seq = 2 := by rw [beginE, if_neg (not_not_intro HN.out), if_pos (by rw [HQ.out]; cases qi <;> simp_all; omega)]
      have H0 := Lib.hid h0
      clear h0
      have HG := Lib.hid g
      clear g
      go_enter Tryz.func37, Tryz.ntmps37
      go_wp2_with fail
      refine C.out.mono ?_
      rintro e w1 ⟨v1, v2, rfl, -, -, hb1⟩
      go_wp2_with fail
      refine (CI.out _).mono ?_
      rintro e w2 ⟨rfl, rfl⟩
      have g := HG.out
      cases qi with
      | false =>
        clear g
        go_wp2
        go_ret2
        exact ⟨hb1, .inl ⟨by rw [H0.out]; decide, by rw [H0.out]; rfl⟩⟩
      | true =>
        by_cases g1 : seq < 0
        · clear g
          go_wp2
          go_ret2
          exact ⟨hb1, .inl ⟨by rw [H0.out]; decide, by rw [H0.out]; rfl⟩⟩
        · have g2 : 255 < seq := by
            have : ¬ (0 ≤ seq ∧ seq ≤ 255) := fun e => g ⟨rfl, e⟩
            omega
          clear g
          go_wp2
          go_ret2
          exact ⟨hb1, .inl ⟨by rw [H0.out]; decide, by rw [H0.out]; rfl⟩⟩
  · have e9 : (n != 0) = true := by simpa using z
    have h0 : beginE l src seq = n := by rw [beginE, if_pos (by rw [HN.out]; exact z), HN.out]
    have HZ := Lib.hid z
    rw [h0]
    clear z h0
    go_enter Tryz.func37, Tryz.ntmps37
    go_wp2_with fail
    refine C.out.mono ?_
    rintro e w1 ⟨v1, v2, rfl, -, -, hb1⟩
    go_wp2
    go_ret2
    exact ⟨hb1, .inl ⟨HZ.out, rfl⟩⟩
end Go.Proofs.YtiemdccjphdbmaaGreat

namespace Go.Proofs.YtiemdccjphdbmaaGreat
open Go.RowKit

def zeroS : SSt := ⟨[], 0, [], [], 0⟩
/-- The error of a search; what it finds. -/
def searchE (l : List Dev) (src seq low high : Int) : Int := if beginE l src seq ≠ 0 then beginE l src seq else if isId low = false ∨ isId high = false then 2 else if high < low then 9 else 0
def searchU (l : List Dev) (src seq low high : Int) : SSt := if searchE l src seq low high = 0 then searchS src 48 low high (startS l seq) else zeroS
/-- What a search returns. -/
def FindPost (n : Int) (u : SSt) (w : World) (e : Ending) (w' : World) : Prop := ∃ v vf, e = .returned (.tuple #[v, .agg #[vf, .int .i64 (IntKind.i64.wrap u.msgs)], .int .i64 n]) ∧ DevsAt w' v u.devs ∧ IdsAt w' vf u.found ∧ Below w.heap.size w w'

theorem find_bad {n : Int} {w w' : World} (hb : Below w.heap.size w w') : FindPost n zeroS w (.returned (.tuple #[.slice none 0 0, .agg #[.slice none 0 0, .int .i64 0], .int .i64 n])) w' :=
  ⟨_, _, rfl, .inl ⟨rfl, _, _, rfl⟩, .inl ⟨rfl, _, _, rfl⟩, hb⟩

/-- Two stores into a block of the call's own leave devices and identities elsewhere. -/
theorem parts_two {w : World} {B z n : Nat} {cs : Array Value} {u1 u2 vd vf : Value} {ds : List Dev} {xs : List Int} (hr : RowAt w z 32 cs) (hd : DevsAt w vd ds) (ht : Typed w vd 66)
    (ho : w.ownsRow B 23 1 vf n (u64L xs)) : DevsAt ((w.setCell ⟨z, 0, none⟩ u1).setCell ⟨z, 1, none⟩ u2) vd ds ∧ ((w.setCell ⟨z, 0, none⟩ u1).setCell ⟨z, 1, none⟩ u2).ownsRow B 23 1 vf n (u64L xs) := by
  have far : ∀ (k : Nat) (o : Obj), w.heap[k]? = some o → (∀ (cur : Array Value) (x : Nat × Nat), o ≠ .cells cur 32 x) → ((w.setCell ⟨z, 0, none⟩ u1).setCell ⟨z, 1, none⟩ u2).heap[k]? = w.heap[k]? := by
    intro k o hk ho
    have hne : k ≠ z := by
      intro e
      subst e
      unfold RowAt at hr
      rw [hr] at hk
      cases hk
      exact ho _ _ rfl
    exact (heap_setCell_other _ ⟨z, 1, none⟩ k _ hne).trans (heap_setCell_other _ ⟨z, 0, none⟩ k _ hne)
  refine ⟨?_, ?_⟩
  · refine SeqAt.same hd (by simp) fun b off cap e h0 hc => ?_
    obtain ⟨cur, x, hg⟩ := ht _ _ _ e
    exact far b _ hg (fun _ _ e => by cases e)
  · refine ⟨ho.1, ?_⟩
    rcases ho.2 with hn | ⟨g, cap, cur, rfl, hbg, hg, rest⟩
    · exact .inl hn
    · exact .inr ⟨g, cap, cur, rfl, hbg, (far g _ hg (fun _ _ e => by cases e)).trans hg, rest⟩

theorem start_ok {l : List Dev} {src seq : Int} (h : beginE l src seq = 0) : Sok src (startS l seq) := by
  unfold beginE at h
  by_cases h1 : devsE l ≠ 0
  · rw [if_pos h1] at h
    exact absurd h h1
  · rw [if_neg h1] at h
    by_cases h2 : isId src = false ∨ seq < 0 ∨ 255 < seq
    · rw [if_pos h2] at h
      cases h
    · have h0 := Decidable.not_not.1 h1
      refine ⟨?_, h0, ?_, ?_, ?_⟩
      · cases hs : isId src
        · exact absurd (.inl hs) h2
        · rfl
      · show 0 ≤ seq
        omega
      · show seq ≤ 255
        omega
      · have := devs_few h0
        have hl : freeS (startS l seq) ≤ l.length := List.length_filter_le _ _
        show 0 + _ ≤ 64
        omega

set_option maxHeartbeats 4000000 in
set_option maxRecDepth 100000 in
theorem search_any (v : Value) (l : List Dev) (src seq low high : Int) (w : World) (hv : DevsAt w v l) :
    Calls Tryz.prog 11 #[v, .int .u64 src, .int .i64 seq, .int .u64 low, .int .u64 high] w (FindPost (searchE l src seq low high) (searchU l src seq low high) w) := by
  have hz : (w.alloc (.cells #[.slice none 0 0, .int .i64 0] 32)).heap.size = w.heap.size + 1 := by simp
  have hv' := hv.alloc (.cells #[.slice none 0 0, .int .i64 0] 32)
  have C := Lib.hid (begun_any v l src seq _ hv')
  have hzr : RowAt (w.alloc (.cells #[.slice none 0 0, .int .i64 0] 32)) w.heap.size 32 #[.slice none 0 0, .int .i64 0] := RowAt.new _ _ _
  obtain ⟨n, hn⟩ : ∃ n, beginE l src seq = n := ⟨_, rfl⟩
  rw [hn] at C
  have HN := Lib.hid hn
  have HB0 := Lib.hid ((Below.refl w.heap.size w).alloc (Nat.le_refl _) (.cells #[.slice none 0 0, .int .i64 0] 32))
  have HZR := Lib.hid hzr
  clear hv hv' hn hzr
  go_enter Tryz.func11, Tryz.ntmps11
  go_wp2_with fail
  refine C.out.mono ?_
  rintro e w1 ⟨hb1, ⟨hn0, rfl⟩ | ⟨rfl, s, m, rfl, hs0, hm0, hsat⟩⟩
  · have hE : searchE l src seq low high = n := by rw [searchE, if_pos (by rw [HN.out]; exact hn0), HN.out]
    have hU : searchU l src seq low high = zeroS := by rw [searchU, if_neg (by rw [hE]; exact hn0)]
    have e9 : (n != 0) = true := by simpa using hn0
    have hr1 := HZR.out.run hb1
    obtain ⟨x1, x2, x3, x4, x5, x6⟩ := row_facts hr1
    have hb := below_run HB0.out hb1
    have HE := Lib.hid hE
    have HU := Lib.hid hU
    clear hE hU hn0 hr1 hb1
    go_wp2
    rw [HE.out, HU.out]
    refine bodyPost_ret (v := .tuple #[.slice none 0 0, .agg #[.slice none 0 0, .int .i64 0], .int .i64 n]) ?_ rfl (find_bad (by (repeat' (first | (with_reducible exact Below.refl _ _) | (with_reducible assumption) | (with_reducible refine below_run ?_ (by assumption)) | (with_reducible refine below_of_upd ?_ (by assumption) ?_) | (with_reducible refine below_drewN ?_ _) | (with_reducible refine Below.drew ?_) | (with_reducible refine below_seven ?_ ?_) | (with_reducible refine below_six ?_ ?_) | (with_reducible refine below_one ?_ ?_) | (with_reducible refine Below.alloc ?_ ?_ _) | (with_reducible refine below_after ?_ ?_ (by assumption)) | (show _ ≤ _; first | omega | (simp; done) | (simp; omega))))))
    simp [results, Tryz.results11, go_sem, *]
  · rw [hz] at hs0 hm0 hsat
    have hr1 := HZR.out.run hb1
    obtain ⟨x1, x2, x3, x4, x5, x6⟩ := row_facts hr1
    have hb := below_run HB0.out hb1
    have hok := start_ok HN.out
    obtain ⟨q1, hq1⟩ : ∃ q, isId low = q := ⟨_, rfl⟩
    obtain ⟨q2, hq2⟩ : ∃ q, isId high = q := ⟨_, rfl⟩
    have CI1 := Lib.hid (fun W => ident_any low W)
    have CI2 := Lib.hid (fun W => ident_any high W)
    rw [hq1] at CI1
    rw [hq2] at CI2
    by_cases g : q1 = true ∧ q2 = true
    · obtain ⟨rfl, rfl⟩ := g
      by_cases hlh : high < low
      · have hE : searchE l src seq low high = 9 := by rw [searchE, if_neg (not_not_intro HN.out), if_neg (by rw [hq1, hq2]; simp), if_pos hlh]
        have hU : searchU l src seq low high = zeroS := by rw [searchU, if_neg (by rw [hE]; decide)]
        have HE := Lib.hid hE
        have HU := Lib.hid hU
        have HB := Lib.hid hb
        clear hE hU hq1 hq2 hsat hb1 hb hr1
        go_wp2_with fail
        refine (CI1.out _).mono ?_
        rintro e w2 ⟨rfl, rfl⟩
        go_wp2_with fail
        refine (CI2.out _).mono ?_
        rintro e w2 ⟨rfl, rfl⟩
        go_wp2
        rw [HE.out, HU.out]
        refine bodyPost_ret (v := .tuple #[.slice none 0 0, .agg #[.slice none 0 0, .int .i64 0], .int .i64 9]) ?_ rfl (find_bad (by have := HB.out; (repeat' (first | (with_reducible exact Below.refl _ _) | (with_reducible assumption) | (with_reducible refine below_run ?_ (by assumption)) | (with_reducible refine below_of_upd ?_ (by assumption) ?_) | (with_reducible refine below_drewN ?_ _) | (with_reducible refine Below.drew ?_) | (with_reducible refine below_seven ?_ ?_) | (with_reducible refine below_six ?_ ?_) | (with_reducible refine below_one ?_ ?_) | (with_reducible refine Below.alloc ?_ ?_ _) | (with_reducible refine below_after ?_ ?_ (by assumption)) | (show _ ≤ _; first | omega | (simp; done) | (simp; omega))))))
        simp [results, Tryz.results11, go_sem, *]
      · have hE : searchE l src seq low high = 0 := by rw [searchE, if_neg (not_not_intro HN.out), if_neg (by rw [hq1, hq2]; simp), if_neg hlh]
        have hU : searchU l src seq low high = searchS src 48 low high (startS l seq) := by rw [searchU, if_pos hE]
        have a1 := isId_nat hq1
        have a2 := isId_nat hq2
        have hp : (2 : Int) ^ 48 = 281474976710656 := by decide
        have CA := Lib.hid (all_any (w.heap.size + 1) (w.heap.size + 1) s m src hs0 hm0 (Nat.le_refl _) 48 low high (startS l seq) w1 (by have := hb1.size; simp at this; omega) hq1 hq2 (by omega) (by omega) hok hsat)
        have HE := Lib.hid hE
        have HU := Lib.hid hU
        have HB := Lib.hid hb
        have HB1 := Lib.hid hb1
        have HR1 := Lib.hid hr1
        have HSO := Lib.hid (search_ok 48 low high (startS l seq) hq1 hq2 (by omega) hok)
        clear hE hU hq1 hq2 hsat hb1 hb hr1 a1 a2 hp hok
        go_wp2_with fail
        refine (CI1.out _).mono ?_
        rintro e w2 ⟨rfl, rfl⟩
        go_wp2_with fail
        refine (CI2.out _).mono ?_
        rintro e w2 ⟨rfl, rfl⟩
        go_wp2_with fail
        refine CA.out.mono ?_
        rintro e w2 ⟨rfl, hs2, hst2⟩
        obtain ⟨u, hu⟩ : ∃ u, searchS src 48 low high (startS l seq) = u := ⟨_, rfl⟩
        rw [hu] at hs2 HU
        have hr2 := RowAt.below HR1.out hst2.below (by omega)
        have hb2 : Below w.heap.size w w2 := HB.out.trans (hst2.below.mono (by omega))
        obtain ⟨⟨vd, vf, hr, hdv, hown, hty, hnil⟩, hs⟩ := hs2
        obtain ⟨fa, fn, fc, rfl⟩ : ∃ a k c, vf = .slice a k c := by
          rcases hown.2 with ⟨rfl, _⟩ | ⟨g, cap, cur, rfl, _⟩
          · exact ⟨_, _, _, rfl⟩
          · exact ⟨_, _, _, rfl⟩
        have c0 : w2.cell? ⟨s, 0, none⟩ = some vd := cell_fact hr 0
        have c4 : w2.cell? ⟨s, 4, none⟩ = some (.slice fa fn fc) := cell_fact hr 4
        have c5 : w2.cell? ⟨s, 5, none⟩ = some (.int .i64 (IntKind.i64.wrap u.msgs)) := cell_fact hr 5
        obtain ⟨N, hN⟩ : ∃ N, IntKind.i64.wrap (u.msgs : Int) = N := ⟨_, rfl⟩
        rw [hN] at c5
        obtain ⟨y1, y2, y3, y4, y5, y6⟩ := row_facts hr2
        have hsz := lt_of_block hr
        (try (have hn : ¬ s = w.heap.size := (by omega); have hn' : ¬ w.heap.size = s := (by omega)))
        have HR2 := Lib.hid hr2
        have HOU := Lib.hid HSO.out
        rw [hu] at HOU
        have P := Lib.hid (parts_two (u1 := .slice fa fn fc) (u2 := .int .i64 N) hr2 hdv hty hown)
        have HB2 := Lib.hid hb2
        have HNN := Lib.hid hN
        clear hr hdv hown hty hnil hs hst2 hr2 hb2 hN x1 x2 x3 x4 x5 x6 hu
        go_wp2_with fail
        go_region_held3 (fun w' => w'.cell? ⟨s, 0, none⟩ = some vd ∧ w'.cell? ⟨s, 4, none⟩ = some (.slice fa fn fc) ∧ w'.cell? ⟨s, 5, none⟩ = some (.int .i64 N)) (go_keep) (fail)
        all_goals go_wp2
        all_goals
          rw [HE.out, HU.out]
          obtain ⟨p1, p2⟩ := P.out
          have hr3 : RowAt ((w2.setCell ⟨w.heap.size, 0, none⟩ (.slice fa fn fc)).setCell ⟨w.heap.size, 1, none⟩ (.int .i64 N)) w.heap.size 32 #[.slice fa fn fc, .int .i64 N] := RowAt.set (RowAt.set HR2.out rfl) rfl
          have hfew := HOU.out.few
          refine bodyPost_ret (v := .tuple #[vd, .agg #[.slice fa fn fc, .int .i64 N], .int .i64 0]) ?_ rfl ⟨_, _, by rw [HNN.out], p1, own_ids p2 rfl (by omega), Below.drew (below_one (below_one HB2.out (Nat.le_refl _)) (Nat.le_refl _))⟩
          simp [results, Tryz.results11, go_sem, cell_fact hr3]
    · have hE : searchE l src seq low high = 2 := by rw [searchE, if_neg (not_not_intro HN.out), if_pos (by rw [hq1, hq2]; cases q1 <;> cases q2 <;> simp_all)]
      have hU : searchU l src seq low high = zeroS := by rw [searchU, if_neg (by rw [hE]; decide)]
      have HE := Lib.hid hE
      have HU := Lib.hid hU
      have HB := Lib.hid hb
      clear hE hU hq1 hq2 hsat hb1 hb hr1
      cases q1 with
      | false =>
        clear g
        go_wp2_with fail
        refine (CI1.out _).mono ?_
        rintro e w2 ⟨rfl, rfl⟩
        go_wp2
        rw [HE.out, HU.out]
        refine bodyPost_ret (v := .tuple #[.slice none 0 0, .agg #[.slice none 0 0, .int .i64 0], .int .i64 2]) ?_ rfl (find_bad (by have := HB.out; (repeat' (first | (with_reducible exact Below.refl _ _) | (with_reducible assumption) | (with_reducible refine below_run ?_ (by assumption)) | (with_reducible refine below_of_upd ?_ (by assumption) ?_) | (with_reducible refine below_drewN ?_ _) | (with_reducible refine Below.drew ?_) | (with_reducible refine below_seven ?_ ?_) | (with_reducible refine below_six ?_ ?_) | (with_reducible refine below_one ?_ ?_) | (with_reducible refine Below.alloc ?_ ?_ _) | (with_reducible refine below_after ?_ ?_ (by assumption)) | (show _ ≤ _; first | omega | (simp; done) | (simp; omega))))))
        simp [results, Tryz.results11, go_sem, *]
      | true =>
        cases q2 with
        | true => exact absurd ⟨rfl, rfl⟩ g
        | false =>
          clear g
          go_wp2_with fail
          refine (CI1.out _).mono ?_
          rintro e w2 ⟨rfl, rfl⟩
          go_wp2_with fail
          refine (CI2.out _).mono ?_
          rintro e w2 ⟨rfl, rfl⟩
          go_wp2
          rw [HE.out, HU.out]
          refine bodyPost_ret (v := .tuple #[.slice none 0 0, .agg #[.slice none 0 0, .int .i64 0], .int .i64 2]) ?_ rfl (find_bad (by have := HB.out; (repeat' (first | (with_reducible exact Below.refl _ _) | (with_reducible assumption) | (with_reducible refine below_run ?_ (by assumption)) | (with_reducible refine below_of_upd ?_ (by assumption) ?_) | (with_reducible refine below_drewN ?_ _) | (with_reducible refine Below.drew ?_) | (with_reducible refine below_seven ?_ ?_) | (with_reducible refine below_six ?_ ?_) | (with_reducible refine below_one ?_ ?_) | (with_reducible refine Below.alloc ?_ ?_ _) | (with_reducible refine below_after ?_ ?_ (by assumption)) | (show _ ≤ _; first | omega | (simp; done) | (simp; omega))))))
          simp [results, Tryz.results11, go_sem, *]
end Go.Proofs.YtiemdccjphdbmaaGreat
