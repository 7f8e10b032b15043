/-
  A search is begun; the whole of a range is searched.
  Search and Find: the program.
-/
import Derived.Test.YtpkhcehddfmhpaaGreatSe
import Derived.Test.YtpkhcehddfmhpaaGreatBus
namespace Go.Proofs.YtpkhcehddfmhpaaGreat
open Go.RowKit

set_option maxHeartbeats 4000000 in
set_option maxRecDepth 100000 in
theorem all_any (A B s m : Nat) (sr : Int) (hB : A ≤ s) (hBm : A ≤ m) (hAB : A ≤ B) (d : Nat) (low high : Int) (t : SSt) (w : World) (hBz : B ≤ w.heap.size) (h1 : isId low = true) (h2 : isId high = true) (hle : low ≤ high) (hd : high - low < 2 ^ d) (hok : Sok sr t) (hs : SAt w B s m sr t (t.known ++ t.found)) :
    Calls Tryz.prog 76 #[.pointer (some ⟨s, 0, none⟩), .int .u64 low, .int .u64 high] w (AllPost A B s m sr (searchS sr d low high t) w) := by
  have hlt := hs.lt
  have hs2 := (hs.alloc (.cells #[.pointer (some ⟨s, 0, none⟩)] 144)).alloc (.cells #[.func (.func 105) #[] #[.pointer (some ⟨w.heap.size, 0, none⟩), .pointer (some ⟨w.heap.size + 1, 0, none⟩)]] 148)
  have hBw : A ≤ w.heap.size := by omega
  have C := Lib.hid (all1_any A B s m w.heap.size (w.heap.size + 1) sr hB hBm hAB (by omega) (by omega) d low high t _ (by simp; omega) h1 h2 hle hd hok hs2 ((RowAt.new _ _ _).alloc _) (RowAt.mk (by simp) rfl))
  have hst : Stir A B s w _ := stir_alloc (stir_alloc (stir_refl A B s w) hBw (.cells #[.pointer (some ⟨s, 0, none⟩)] 144)) (by simp; omega) (.cells #[.func (.func 105) #[] #[.pointer (some ⟨w.heap.size, 0, none⟩), .pointer (some ⟨w.heap.size + 1, 0, none⟩)]] 148)
  have HST := Lib.hid hst
  clear h1 h2 hle hd hok hs hs2 hst
  go_enter Tryz.func76, Tryz.ntmps76
  go_wp2_with fail
  refine C.out.mono ?_
  rintro e w1 ⟨rfl, hs1, hst1⟩
  go_wp2
  go_end0
  exact ⟨rfl, hs1, stir_trans HST.out hst1⟩

set_option maxHeartbeats 400000 in
theorem ident_any (n : Int) (w : World) : Calls Tryz.prog 101 #[.int .u64 n] w fun e w' => e = .returned (.bool (isId n)) ∧ w = w' := by
  go_enter Tryz.func101, Tryz.ntmps101
  go_wp2
  all_goals go_ret
  all_goals exact ⟨ret_bool (by grind [isId]), rfl⟩
/-- The error with which a search begins. -/
def beginE (l : List Dev) (src seq : Int) : Int := if devsE l ≠ 0 then devsE l else if isId src = false ∨ seq < 0 ∨ 255 < seq then 2 else 0
def startS (l : List Dev) (seq : Int) : SSt := ⟨l, seq, [], [], 0⟩
/-- What the beginning of a search leaves. -/
def BegunPost (n : Int) (l : List Dev) (src seq : Int) (w : World) (e : Ending) (w' : World) : Prop :=
  Below w.heap.size w w' ∧ ((n ≠ 0 ∧ e = .returned (.tuple #[.pointer none, .int .i64 n])) ∨ (n = 0 ∧ ∃ s m, e = .returned (.tuple #[.pointer (some ⟨s, 0, none⟩), .int .i64 0]) ∧ w.heap.size ≤ s ∧ w.heap.size ≤ m ∧ SAt w' w.heap.size s m src (startS l seq) []))

theorem get_chk : chk ⟨281474976710655, 1, 0, 4, 0, ⟨#[]⟩⟩ = 0 := by decide
theorem bus_get (l : List Dev) : busE l ⟨281474976710655, 1, 0, 4, 0, ⟨#[]⟩⟩ = devsE l := by
  rw [busE, get_chk]
  by_cases h : devsE l = 0
  · rw [if_neg (not_not_intro h), h]
  · rw [if_pos h]

set_option maxHeartbeats 4000000 in
set_option maxRecDepth 100000 in
theorem begun_any (v : Value) (l : List Dev) (src seq : Int) (w : World) (hv : DevsAt w v l) :
    Calls Tryz.prog 74 #[v, .int .u64 src, .int .i64 seq] w (BegunPost (beginE l src seq) l src seq w) := by
  have hmm := @run_makeMap Tryz.prog
  have C := Lib.hid (bus_any v l 281474976710655 1 0 4 0 ⟨#[]⟩ w hv)
  rw [bus_get] at C
  obtain ⟨n, hn⟩ : ∃ n, devsE l = n := ⟨_, rfl⟩
  rw [hn] at C
  have HV := Lib.hid hv
  have HN := Lib.hid hn
  clear hv hn
  by_cases z : n = 0
  · subst z
    obtain ⟨qi, hqi⟩ : ∃ q, isId src = q := ⟨_, rfl⟩
    have CI := Lib.hid (fun W => ident_any src W)
    rw [hqi] at CI
    have HQ := Lib.hid hqi
    clear hqi
    by_cases g : qi = true ∧ 0 ≤ seq ∧ seq ≤ 255
    · obtain ⟨rfl, g0, g1⟩ := g
      have h0 : beginE l src seq = 0 := by rw [beginE, if_neg (not_not_intro HN.out), if_neg (by rw [HQ.out]; simp; omega)]
      have H0 := Lib.hid h0
      clear h0
      have hl := devs_few HN.out
      go_enter Tryz.func74, Tryz.ntmps74
      go_wp2_with fail
      refine C.out.mono ?_
      rintro e w1 ⟨v1, v2, rfl, -, -, hb1⟩
      have HV1 := Lib.hid (HV.out.run hb1)
      go_wp2_with fail
      refine (CI.out _).mono ?_
      rintro e w2 ⟨rfl, rfl⟩
      go_wp2_with fail
      refine (clone_devs v l _ HV1.out (by omega)).mono ?_
      rintro e w2 ⟨v', rfl, hown, hb2⟩
      have hbw := below_run hb1 hb2
      have hz1 := hbw.size
      have HO := Lib.hid hown
      obtain ⟨a', n', c', rfl⟩ : ∃ a n c, v' = .slice a n c := by
        rcases hown.2 with ⟨rfl, _⟩ | ⟨g, cap, cur, rfl, _⟩
        · exact ⟨_, _, _, rfl⟩
        · exact ⟨_, _, _, rfl⟩
      clear hown hb2 C
      go_wp2
      go_ret2
      refine ⟨?_, .inr ⟨H0.out, w2.heap.size + 1, w2.heap.size, ?_, ?_, ?_, ⟨⟨.slice a' n' c', .slice none 0 0, ?_, ?_, World.ownsRow_nil _ _ _ _, ?_, fun _ => rfl⟩, ?_⟩⟩⟩
      · exact (hbw.alloc (by omega) _).alloc (by simp; omega) _
      · rfl
      · omega
      · omega
      · exact RowAt.mk (by simp) rfl
      · exact ((own_devs HO.out (by omega)).alloc _).alloc _
      · exact (typed_own HO.out).run (((Below.refl _ _).alloc (Nat.le_refl _) _).alloc (by simp) _)
      · exact (seen_new rfl).run ((Below.refl _ _).alloc (Nat.le_refl _) _)
    · have h0 : beginE l src seq = 2 := by rw [beginE, if_neg (not_not_intro HN.out), if_pos (by rw [HQ.out]; cases qi <;> simp_all; omega)]
      have H0 := Lib.hid h0
      clear h0
      have HG := Lib.hid g
      clear g
      go_enter Tryz.func74, Tryz.ntmps74
      go_wp2_with fail
      refine C.out.mono ?_
      rintro e w1 ⟨v1, v2, rfl, -, -, hb1⟩
      go_wp2_with fail
      refine (CI.out _).mono ?_
      rintro e w2 ⟨rfl, rfl⟩
      have g := HG.out
      cases qi with
      | false =>
        clear g
        go_wp2
        go_ret2
        exact ⟨hb1, .inl ⟨by rw [H0.out]; decide, by rw [H0.out]; rfl⟩⟩
      | true =>
        by_cases g1 : seq < 0
        · clear g
          go_wp2
          go_ret2
          exact ⟨hb1, .inl ⟨by rw [H0.out]; decide, by rw [H0.out]; rfl⟩⟩
        · have g2 : 255 < seq := by
            have : ¬ (0 ≤ seq ∧ seq ≤ 255) := fun e => g ⟨rfl, e⟩
            omega
          clear g
          go_wp2
          go_ret2
          exact ⟨hb1, .inl ⟨by rw [H0.out]; decide, by rw [H0.out]; rfl⟩⟩
  · have e9 : (n != 0) = true := by simpa using z
    have h0 : beginE l src seq = n := by rw [beginE, if_pos (by rw [HN.out]; exact z), HN.out]
    have HZ := Lib.hid z
    rw [h0]
    clear z h0
    go_enter Tryz.func74, Tryz.ntmps74
    go_wp2_with fail
    refine C.out.mono ?_
    rintro e w1 ⟨v1, v2, rfl, -, -, hb1⟩
    go_wp2
    go_ret2
    exact ⟨hb1, .inl ⟨HZ.out, rfl⟩⟩
end Go.Proofs.YtpkhcehddfmhpaaGreat

namespace Go.Proofs.YtpkhcehddfmhpaaGreat
open Go.RowKit

def zeroS : SSt := ⟨[], 0, [], [], 0⟩
/-- The error of a search; what it finds. -/
def searchE (l : List Dev) (src seq low high : Int) : Int := if beginE l src seq ≠ 0 then beginE l src seq else if isId low = false ∨ isId high = false then 2 else if high < low then 9 else 0
def searchU (l : List Dev) (src seq low high : Int) : SSt := if searchE l src seq low high = 0 then searchS src 48 low high (startS l seq) else zeroS
/-- What a search returns. -/
def FindPost (n : Int) (u : SSt) (w : World) (e : Ending) (w' : World) : Prop := ∃ v vf, e = .returned (.tuple #[v, .agg #[vf, .int .i64 (IntKind.i64.wrap u.msgs)], .int .i64 n]) ∧ DevsAt w' v u.devs ∧ IdsAt w' vf u.found ∧ Below w.heap.size w w'

theorem find_bad {n : Int} {w w' : World} (hb : Below w.heap.size w w') : FindPost n zeroS w (.returned (.tuple #[.slice none 0 0, .agg #[.slice none 0 0, .int .i64 0], .int .i64 n])) w' :=
  ⟨_, _, rfl, .inl ⟨rfl, _, _, rfl⟩, .inl ⟨rfl, _, _, rfl⟩, hb⟩

/-- Two stores into a block of the call's own leave devices and identities elsewhere. -/
theorem parts_two {w : World} {B z n : Nat} {cs : Array Value} {u1 u2 vd vf : Value} {ds : List Dev} {xs : List Int} (hr : RowAt w z 97 cs) (hd : DevsAt w vd ds) (ht : Typed w vd 91)
    (ho : w.ownsRow B 22 1 vf n (u64L xs)) : DevsAt ((w.setCell ⟨z, 0, none⟩ u1).setCell ⟨z, 1, none⟩ u2) vd ds ∧ ((w.setCell ⟨z, 0, none⟩ u1).setCell ⟨z, 1, none⟩ u2).ownsRow B 22 1 vf n (u64L xs) := by
  have far : ∀ (k : Nat) (o : Obj), w.heap[k]? = some o → (∀ (cur : Array Value) (x : Nat × Nat), o ≠ .cells cur 97 x) → ((w.setCell ⟨z, 0, none⟩ u1).setCell ⟨z, 1, none⟩ u2).heap[k]? = w.heap[k]? := by
    intro k o hk ho
    have hne : k ≠ z := by
      intro e
      subst e
      unfold RowAt at hr
      rw [hr] at hk
      cases hk
      exact ho _ _ rfl
    exact (heap_setCell_other _ ⟨z, 1, none⟩ k _ hne).trans (heap_setCell_other _ ⟨z, 0, none⟩ k _ hne)
  refine ⟨?_, ?_⟩
  · refine SeqAt.same hd (by simp) fun b off cap e h0 hc => ?_
    obtain ⟨-, cur, x, hg⟩ := ht _ _ _ e
    exact far b _ hg (fun _ _ e => by cases e)
  · refine ⟨ho.1, ?_⟩
    rcases ho.2 with hn | ⟨g, cap, cur, rfl, hbg, hg, rest⟩
    · exact .inl hn
    · exact .inr ⟨g, cap, cur, rfl, hbg, (far g _ hg (fun _ _ e => by cases e)).trans hg, rest⟩

theorem start_ok {l : List Dev} {src seq : Int} (h : beginE l src seq = 0) : Sok src (startS l seq) := by
  unfold beginE at h
  by_cases h1 : devsE l ≠ 0
  · rw [if_pos h1] at h
    exact absurd h h1
  · rw [if_neg h1] at h
    by_cases h2 : isId src = false ∨ seq < 0 ∨ 255 < seq
    · rw [if_pos h2] at h
      cases h
    · have h0 := Decidable.not_not.1 h1
      refine ⟨?_, h0, ?_, ?_, ?_⟩
      · cases hs : isId src
        · exact absurd (.inl hs) h2
        · rfl
      · show 0 ≤ seq
        omega
      · show seq ≤ 255
        omega
      · have := devs_few h0
        have hl : freeS (startS l seq) ≤ l.length := List.length_filter_le _ _
        show 0 + _ ≤ 64
        omega

end Go.Proofs.YtpkhcehddfmhpaaGreat
