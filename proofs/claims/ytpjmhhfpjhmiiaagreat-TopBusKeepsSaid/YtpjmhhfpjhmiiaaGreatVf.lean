/-
  Faults that are no faults: slices.ContainsFunc on ints with the top's test.
  What TopBusKeeps says of what All returns, in plain words.
  The walk of TopBusKeeps (under way: up to region 5).
-/
import Derived.Test.YtpjmhhfpjhmiiaaGreatMd
import Derived.Shelf.Abstract
import Derived.Test.YtpjmhhfpjhmiiaaGreatQx
import Derived.Test.YtpjmhhfpjhmiiaaGreatVc
namespace Go.Proofs.YtpjmhhfpjhmiiaaGreat
open Go.RowKit

set_option maxHeartbeats 4000000 in
set_option maxRecDepth 100000 in
theorem indexI_any (g : Nat) (p : Int → Bool) (eg : ∀ args w, (callFunc g args).run Tryz.prog w = .ok (.enter g args) w)
    (hp : ∀ W s, Calls Tryz.prog g #[.int .i64 s] W fun e w' => e = .returned (.bool (p s)) ∧ W = w') (v : Value) (l : List Int) (w : World) (hv : IntsAt w v l) :
    Calls Tryz.prog 74 #[v, .func (.func g) #[] #[]] w fun e w' => ∃ n : Int, e = .returned (.int .i64 n) ∧ Hid (decide (0 ≤ n) = l.any p) ∧ Below w.heap.size w w' := by
  rcases hv with ⟨h0, a, cap, rfl⟩ | ⟨h0, h1, b, off, cap, rfl, hlt, hc⟩
  · have hl : l = [] := List.eq_nil_of_length_eq_zero h0
    subst hl
    go_enter Tryz.func74, Tryz.ntmps74
    go_wp2
    refine wp_loop_rounds 1 ?_
    rw [rounds_succ]
    go_wp2
    go_ret
    exact ⟨_, rfl, by simp [Hid], by (repeat' (first | (with_reducible exact Below.refl _ _) | (with_reducible assumption) | (with_reducible refine below_drewN ?_ _) | (with_reducible refine Below.drew ?_) | (with_reducible refine Below.setCell ?_ ?_ _) | (with_reducible refine Below.alloc ?_ ?_ _) | (with_reducible refine below_after ?_ ?_ (by assumption)) | (show _ ≤ _; first | omega | (simp; done) | (simp; omega))))⟩
  · have h4 : (0 : Int) < (l.length : Int) := by omega
    go_enter Tryz.func74, Tryz.ntmps74
    go_wp2
    go_loopw [5, 8] (fun _ i wr => ∃ k : Nat, k ≤ l.length ∧ i = .int .i64 k ∧ (l.take k).any p = false ∧ Below w.heap.size w wr) (fun _ i _ => l.length - (intOf i).toNat)
    case atStart => exact ⟨0, Nat.zero_le _, rfl, rfl, by (repeat' (first | (with_reducible exact Below.refl _ _) | (with_reducible assumption) | (with_reducible refine below_drewN ?_ _) | (with_reducible refine Below.drew ?_) | (with_reducible refine Below.setCell ?_ ?_ _) | (with_reducible refine Below.alloc ?_ ?_ _) | (with_reducible refine below_after ?_ ?_ (by assumption)) | (show _ ≤ _; first | omega | (simp; done) | (simp; omega))))⟩
    case round =>
      obtain ⟨k, hk, rfl, hany, hb0⟩ := hrel
      by_cases hlt2 : k < l.length
      · have hlt3 : (k : Int) < (l.length : Int) := by omega
        have hc' : ∀ j, j < l.length * 1 → wr.cell? ⟨b, off + j, none⟩ = i64C l j := fun j hj => (hb0.cell (p := ⟨b, off + j, none⟩) hlt).trans (hc j hj)
        obtain ⟨s, hs, e0⟩ := int_cell hc' k hlt2
        have HS := Lib.hid hs
        have HT := Lib.hid (take_succ_some hs)
        have hcall := hp wr s
        have HA := Lib.hid hany
        clear hc hc' hs hp hany
        obtain ⟨q, hq⟩ : ∃ q, p s = q := ⟨_, rfl⟩
        rw [hq] at hcall
        have HQ := Lib.hid hq
        have HC := Lib.hid hcall
        clear hq hcall
        cases q with
        | true =>
          go_wp2_with fail
          refine HC.out.mono ?_
          rintro e w' ⟨rfl, rfl⟩
          go_wp2
          go_ret
          refine ⟨_, rfl, ?_, by (repeat' (first | (with_reducible exact Below.refl _ _) | (with_reducible assumption) | (with_reducible refine below_drewN ?_ _) | (with_reducible refine Below.drew ?_) | (with_reducible refine Below.setCell ?_ ?_ _) | (with_reducible refine Below.alloc ?_ ?_ _) | (with_reducible refine below_after ?_ ?_ (by assumption)) | (show _ ≤ _; first | omega | (simp; done) | (simp; omega))))⟩
          have hx : l.any p = true := List.any_eq_true.2 ⟨s, List.mem_of_getElem? HS.out, HQ.out⟩
          simp only [Hid, hx]
          exact decide_eq_true (by omega)
        | false =>
          go_wp2_with fail
          refine HC.out.mono ?_
          rintro e w' ⟨rfl, rfl⟩
          go_wp2
          go_roundw
          case rel => exact ⟨k + 1, by omega, by go_num, by rw [HT.out, List.any_append, HA.out]; simp [HQ.out], by (repeat' (first | (with_reducible exact Below.refl _ _) | (with_reducible assumption) | (with_reducible refine below_drewN ?_ _) | (with_reducible refine Below.drew ?_) | (with_reducible refine Below.setCell ?_ ?_ _) | (with_reducible refine Below.alloc ?_ ?_ _) | (with_reducible refine below_after ?_ ?_ (by assumption)) | (show _ ≤ _; first | omega | (simp; done) | (simp; omega))))⟩
          case measure => simp [intOf]; omega
      · have hlt3 : ¬ (k : Int) < (l.length : Int) := by omega
        obtain rfl : k = l.length := by omega
        rw [List.take_length] at hany
        have HA := Lib.hid hany
        clear hany
        go_wp2
        go_ret
        exact ⟨_, rfl, by simp [Hid, HA.out], by (repeat' (first | (with_reducible exact Below.refl _ _) | (with_reducible assumption) | (with_reducible refine below_drewN ?_ _) | (with_reducible refine Below.drew ?_) | (with_reducible refine Below.setCell ?_ ?_ _) | (with_reducible refine Below.alloc ?_ ?_ _) | (with_reducible refine below_after ?_ ?_ (by assumption)) | (show _ ≤ _; first | omega | (simp; done) | (simp; omega))))⟩

set_option maxHeartbeats 4000000 in
set_option maxRecDepth 100000 in
theorem containsI_any (g : Nat) (p : Int → Bool) (eg : ∀ args w, (callFunc g args).run Tryz.prog w = .ok (.enter g args) w)
    (hp : ∀ W s, Calls Tryz.prog g #[.int .i64 s] W fun e w' => e = .returned (.bool (p s)) ∧ W = w') (v : Value) (l : List Int) (w : World) (hv : IntsAt w v l) :
    Calls Tryz.prog 44 #[v, .func (.func g) #[] #[]] w fun e w' => e = .returned (.bool (l.any p)) ∧ Below w.heap.size w w' := by
  have C := Lib.hid (indexI_any g p eg hp v l w hv)
  clear hp eg hv
  obtain ⟨q, hq⟩ : ∃ q, l.any p = q := ⟨_, rfl⟩
  rw [hq] at C
  rw [hq]
  clear hq
  go_enter Tryz.func44, Tryz.ntmps44
  go_wp2_with fail
  refine C.out.mono ?_
  rintro e w1 ⟨n, rfl, hn, hb⟩
  have hn2 := hn.out
  clear hn
  cases q with
  | true =>
    have h : (0 : Int) ≤ n := of_decide_eq_true hn2
    clear hn2
    go_wp2
    go_ret
    exact ⟨by simp, by (repeat' (first | (with_reducible exact Below.refl _ _) | (with_reducible assumption) | (with_reducible refine below_drewN ?_ _) | (with_reducible refine Below.drew ?_) | (with_reducible refine Below.setCell ?_ ?_ _) | (with_reducible refine Below.alloc ?_ ?_ _) | (with_reducible refine below_after ?_ ?_ (by assumption)) | (show _ ≤ _; first | omega | (simp; done) | (simp; omega))))⟩
  | false =>
    have h : ¬ (0 : Int) ≤ n := of_decide_eq_false hn2
    clear hn2
    go_wp2
    go_ret
    exact ⟨by simp [h], by (repeat' (first | (with_reducible exact Below.refl _ _) | (with_reducible assumption) | (with_reducible refine below_drewN ?_ _) | (with_reducible refine Below.drew ?_) | (with_reducible refine Below.setCell ?_ ?_ _) | (with_reducible refine Below.alloc ?_ ?_ _) | (with_reducible refine below_after ?_ ?_ (by assumption)) | (show _ ≤ _; first | omega | (simp; done) | (simp; omega))))⟩

theorem keeps1_any (W : World) (s : Int) : Calls Tryz.prog 45 #[.int .i64 s] W fun e w' => e = .returned (.bool (badFault s)) ∧ W = w' := by
  by_cases h1 : s < 0
  · have e : badFault s = true := by simp [badFault, h1]
    rw [e]
    clear e
    go_enter Tryz.func45, Tryz.ntmps45
    go_wp2
    go_ret
    exact ⟨rfl, rfl⟩
  · by_cases h2 : 4 < s
    · have e : badFault s = true := by simp [badFault, h2]
      rw [e]
      clear e
      go_enter Tryz.func45, Tryz.ntmps45
      go_wp2
      go_ret
      exact ⟨rfl, rfl⟩
    · have e : badFault s = false := by simp [badFault, h1, h2]
      rw [e]
      clear e
      go_enter Tryz.func45, Tryz.ntmps45
      go_wp2
      go_ret
      exact ⟨rfl, rfl⟩
theorem hasBad_any (v : Value) (l : List Int) (w : World) (hv : IntsAt w v l) :
    Calls Tryz.prog 44 #[v, .func (.func 45) #[] #[]] w fun e w' => e = .returned (.bool (l.any badFault)) ∧ Below w.heap.size w w' :=
  containsI_any _ _ (enters_of Tryz.func45 (by kernel_rfl) rfl) keeps1_any v l w hv
end Go.Proofs.YtpjmhhfpjhmiiaaGreat

namespace Go.Proofs.YtpjmhhfpjhmiiaaGreat
open Go.RowKit Go.Shelf

theorem keeps_wire {l : List Dev} {f : List Int} (hl : devsE l = 0) (hf : ¬ (12 : Int) < (f.length : Int)) (hb : f.any badFault = false) : wireE ⟨l, f, []⟩ = 0 := by
  unfold wireE
  dsimp only
  rw [if_neg (not_not_intro hl), if_neg (by omega), if_neg (by rw [hb]; decide), if_neg (by simp), if_neg (by simp)]

/-- All sets the label of each device. -/
theorem keeps_all {l : List Dev} {f : List Int} {s : ByteArray} {ids : List Int} (hl : devsE l = 0) (h8 : l.length ≤ 8) (hf : ¬ (12 : Int) < (f.length : Int)) (hb : f.any badFault = false) (hs : lblE s = 0) (hx : mgrE ⟨77, 0, (f.length : Int) + 1⟩ = 0) (hp : ids.Perm (l.map fun d => d.id)) :
    ∃ (x' : Mgr) (G : List Dev) (F : List Int) (L : List ByteArray) (R : List Rsl), allU ⟨77, 0, (f.length : Int) + 1⟩ ⟨l, f, []⟩ ids ⟨0, 5, 130, s⟩ = (x', ⟨G, F, L⟩, R, 0) ∧ R.length = ids.length ∧ failE ids R = 0 ∧ failU ids R = [] ∧ G = l.map fun d => { d with lb := s } := by
  have hw := keeps_wire hl hf hb
  have hlen : ids.length = l.length := by rw [hp.length_eq, List.length_map]
  have hm : ∀ i ∈ ids, ∃ d ∈ l, d.id = i := by
    intro i hi
    have h9 := hp.mem_iff.1 hi
    obtain ⟨d, hd, e⟩ := List.mem_map.1 h9
    exact ⟨d, hd, e⟩
  have hall : ∀ d ∈ l, d.id ∈ ids := fun d hd => hp.mem_iff.2 (List.mem_map.2 ⟨d, hd, rfl⟩)
  obtain ⟨R, hR, hk, h22, h21⟩ := all_label hs (lbl_size s hs) 0 ids ⟨77, 0, (f.length : Int) + 1⟩ ⟨l, f, []⟩ [] hx hw (by intro a ha; cases ha) (by show (f.length : Int) < (f.length : Int) + 1; omega) hm
  obtain ⟨⟨x', ⟨G, F, L⟩, R', e⟩, hA⟩ : ∃ p, allF ⟨0, 5, 130, s⟩ ids ⟨77, 0, (f.length : Int) + 1⟩ ⟨l, f, []⟩ [] = p := ⟨_, rfl⟩
  rw [hA] at h22 h21
  dsimp only at h22 h21
  rw [List.nil_append] at h22
  obtain ⟨rfl, rfl⟩ := Prod.mk.inj h22
  refine ⟨x', G, F, L, R', ?_, hR, ?_, ?_, ?_⟩
  · rw [allU, if_neg (not_not_intro hx), if_neg (not_not_intro hw), if_neg (by omega), hA]
  · rw [failE, if_neg (not_not_intro hR.symm)]
  · rw [failU, if_neg (not_not_intro hR.symm), failed_none ids R' hk]
  · rw [h21, label_all hall]
/-- What All leaves in TopBusKeeps. -/
def KeepsPost (l : List Dev) (s : ByteArray) (ids : List Int) (w : World) (e : Ending) (w' : World) : Prop :=
  ∃ (i1 i2 i3 : Int) (da fa la ra : Option Addr), ∃ dc fn fc ln lc rc : Nat, ∃ R : List Rsl, e = .returned (.tuple #[.agg #[.int .u64 i1, .int .i64 i2, .int .i64 i3], .agg #[.slice da l.length dc, .slice fa fn fc, .slice la ln lc], .slice ra R.length rc, .int .i64 0]) ∧
    DevsAt w' (.slice da l.length dc) (l.map fun d => { d with lb := s }) ∧ RslsAt w' (.slice ra R.length rc) R ∧ failE ids R = 0 ∧ failU ids R = [] ∧ Below w.heap.size w w'

theorem keeps_call {l : List Dev} {f : List Int} {s : ByteArray} {ids : List Int} (da fa ia : Option Addr) (dc fc ic : Nat) (W : World) (hl : devsE l = 0) (h8 : l.length ≤ 8) (hf : ¬ (12 : Int) < (f.length : Int)) (hb : f.any badFault = false) (hs : lblE s = 0) (hx : mgrE ⟨77, 0, (f.length : Int) + 1⟩ = 0) (hp : ids.Perm (l.map fun d => d.id))
    (h : WireAt W (.slice da l.length dc) (.slice fa f.length fc) (.slice none 0 0) ⟨l, f, []⟩) (hi : IdsAt W (.slice ia ids.length ic) ids) :
    Calls Tryz.prog 37 #[.agg #[.int .u64 77, .int .i64 0, .int .i64 ((f.length : Int) + 1)], .agg #[.slice da l.length dc, .slice fa f.length fc, .slice none 0 0], .slice ia ids.length ic, .agg #[.int .u64 0, .int .i64 5, .int .i64 130, .string s]] W (KeepsPost l s ids W) := by
  obtain ⟨x', G, F, L, R, hA, -, h1, h2, rfl⟩ := keeps_all hl h8 hf hb hs hx hp
  have hm := mall_any ⟨77, 0, (f.length : Int) + 1⟩ da fa none l.length dc f.length fc 0 0 ⟨l, f, []⟩ ids ia ic 0 5 130 s W h hi
  rw [hA] at hm
  refine hm.mono ?_
  rintro e w' ⟨d1, f1, l1, r1, dn, c1, fn, c2, ln, c3, c4, rfl, hw, hr, hb⟩
  have hdn : dn = l.length := by
    obtain ⟨a, c, e⟩ := shape_of hw.devs
    have h9 := (Value.slice.inj e).2.1
    rw [List.length_map] at h9
    exact h9
  subst hdn
  exact ⟨x'.id, x'.seq, x'.tries, d1, f1, l1, r1, c1, fn, c2, ln, c3, c4, R, rfl, hw.devs, hr, h1, h2, hb⟩

/-- What holds texts lies elsewhere than a row of three cells without any. -/
theorem seq_upd3 {w w' : World} {S n b T : Nat} {v c0 c1 c2 : Value} {cs : Nat → Option Value} (h : SeqAt w S v n cs) (j : Nat) (hj : 0 < n → j < n * S ∧ ∃ s, cs j = some (.string s)) (hr : RowAt w b T #[c0, c1, c2])
    (h0 : ∀ s, c0 ≠ .string s) (h1 : ∀ s, c1 ≠ .string s) (h2 : ∀ s, c2 ≠ .string s) (hu : Upd b w w') : SeqAt w' S v n cs :=
  SeqAt.same h hu.size fun g off cap e hn hc => by
    obtain ⟨hlt, s, hs⟩ := hj hn
    have q := (hc j hlt).trans hs
    refine hu.block g ?_ (fun e => ?_)
    · exact World.block_lt_of_cell? w _ q
    · cases e
      rw [cell_fact hr] at q
      have hx : ∀ i : Nat, (#[c0, c1, c2] : Array Value)[i]? ≠ some (.string s) := by
        intro i e
        rcases i with _ | _ | _ | i
        · exact h0 s (by simpa using e)
        · exact h1 s (by simpa using e)
        · exact h2 s (by simpa using e)
        · simp at e
      exact hx _ q
theorem devs3 {w : World} {b T : Nat} {v c0 c1 c2 u0 u1 u2 : Value} {l : List Dev} (h : DevsAt w v l) (hr : RowAt w b T #[c0, c1, c2])
    (h0 : ∀ s, c0 ≠ .string s) (h1 : ∀ s, c1 ≠ .string s) (h2 : ∀ s, c2 ≠ .string s) : DevsAt (((w.setCell ⟨b, 0, none⟩ u0).setCell ⟨b, 1, none⟩ u1).setCell ⟨b, 2, none⟩ u2) v l :=
  seq_upd3 h 3 (fun hn => ⟨by omega, l[0].lb, by simp [devsC, List.getElem?_eq_getElem hn, devA]⟩) hr h0 h1 h2 upd3
theorem rsls3 {w : World} {b T : Nat} {v c0 c1 c2 u0 u1 u2 : Value} {l : List Rsl} (h : RslsAt w v l) (hr : RowAt w b T #[c0, c1, c2])
    (h0 : ∀ s, c0 ≠ .string s) (h1 : ∀ s, c1 ≠ .string s) (h2 : ∀ s, c2 ≠ .string s) : RslsAt (((w.setCell ⟨b, 0, none⟩ u0).setCell ⟨b, 1, none⟩ u1).setCell ⟨b, 2, none⟩ u2) v l :=
  seq_upd3 h 1 (fun hn => ⟨by omega, l[0].dat, by simp [rslC, List.getElem?_eq_getElem hn, rslA]⟩) hr h0 h1 h2 upd3
theorem RslsAt.alloc {w : World} {v : Value} {l : List Rsl} (h : RslsAt w v l) (o : Obj) : RslsAt (w.alloc o) v l := RslsAt.run h ((Below.refl _ _).alloc (Nat.le_refl _) o)

/-- What is so behind All in TopBusKeeps. -/
def KeepsCut (l : List Dev) (s : ByteArray) (da : Option Addr) (dc k5 : Nat) (w0 : World) (s11 s12 : Value) (wx : World) : Prop :=
  ∃ (d1 f1 l1 ra : Option Addr), ∃ c1 fn c2 ln c3 rc : Nat, ∃ (R : List Rsl) (ids : List Int), s11 = .slice ra R.length rc ∧ s12 = .int .i64 0 ∧ RowAt wx k5 29 #[.slice d1 l.length c1, .slice f1 fn c2, .slice l1 ln c3] ∧ DevsAt wx (.slice d1 l.length c1) (l.map fun d => { d with lb := s }) ∧ RslsAt wx (.slice ra R.length rc) R ∧ ids.Perm (l.map fun d => d.id) ∧ ids.Pairwise (· ≤ ·) ∧ failE ids R = 0 ∧ failU ids R = [] ∧ DevsAt wx (.slice da l.length dc) l ∧ Below w0.heap.size w0 wx
section
variable {l : List Dev} {s : ByteArray} {da d1 f1 l1 ra : Option Addr} {dc k5 c1 fn c2 ln c3 rc : Nat} {w0 w6 : World} {R : List Rsl} {ids : List Int} {a0 a1 a2 : Value}
theorem keeps_cutA (hr : RowAt w6 k5 29 #[a0, a1, a2]) (h0 : ∀ s, a0 ≠ .string s) (h1 : ∀ s, a1 ≠ .string s) (h2 : ∀ s, a2 ≠ .string s) (hd : DevsAt w6 (.slice d1 l.length c1) (l.map fun d => { d with lb := s })) (hrs : RslsAt w6 (.slice ra R.length rc) R) (hp : ids.Perm (l.map fun d => d.id)) (hs : ids.Pairwise (· ≤ ·)) (hE : failE ids R = 0) (hU : failU ids R = []) (ho : DevsAt w6 (.slice da l.length dc) l) (hb : Below w0.heap.size w0 w6) (hk : w0.heap.size ≤ k5) (o : Obj) :
    KeepsCut l s da dc k5 w0 (.slice ra R.length rc) (.int .i64 0) ((((w6.setCell ⟨k5, 0, none⟩ (.slice d1 l.length c1)).setCell ⟨k5, 1, none⟩ (.slice f1 fn c2)).setCell ⟨k5, 2, none⟩ (.slice l1 ln c3)).alloc o) :=
  ⟨d1, f1, l1, ra, c1, fn, c2, ln, c3, rc, R, ids, rfl, rfl, (row3 hr).alloc _, (devs3 hd hr h0 h1 h2).alloc _, (rsls3 hrs hr h0 h1 h2).alloc _, hp, hs, hE, hU, (devs3 ho hr h0 h1 h2).alloc _, (below_three hb hk).alloc (by simp; exact hb.size) _⟩
theorem keeps_cutB {g : Nat} {i1 i2 i3 : Int} {b0 b1 b2 : Int} (hr : RowAt w6 k5 29 #[a0, a1, a2]) (h0 : ∀ s, a0 ≠ .string s) (h1 : ∀ s, a1 ≠ .string s) (h2 : ∀ s, a2 ≠ .string s) (hg : RowAt w6 g 24 #[.int .u64 b0, .int .i64 b1, .int .i64 b2]) (hne : ¬ k5 = g) (hgk : w0.heap.size ≤ g) (hd : DevsAt w6 (.slice d1 l.length c1) (l.map fun d => { d with lb := s })) (hrs : RslsAt w6 (.slice ra R.length rc) R) (hp : ids.Perm (l.map fun d => d.id)) (hs : ids.Pairwise (· ≤ ·)) (hE : failE ids R = 0) (hU : failU ids R = []) (ho : DevsAt w6 (.slice da l.length dc) l) (hb : Below w0.heap.size w0 w6) (hk : w0.heap.size ≤ k5) :
    KeepsCut l s da dc k5 w0 (.slice ra R.length rc) (.int .i64 0) ((((((w6.setCell ⟨g, 0, none⟩ (.int .u64 i1)).setCell ⟨g, 1, none⟩ (.int .i64 i2)).setCell ⟨g, 2, none⟩ (.int .i64 i3)).setCell ⟨k5, 0, none⟩ (.slice d1 l.length c1)).setCell ⟨k5, 1, none⟩ (.slice f1 fn c2)).setCell ⟨k5, 2, none⟩ (.slice l1 ln c3)) :=
  have n : ∀ (k : IntKind) (i : Int) (s : ByteArray), Value.int k i ≠ .string s := fun _ _ _ => nofun
  ⟨d1, f1, l1, ra, c1, fn, c2, ln, c3, rc, R, ids, rfl, rfl, row3 (hr.far3 hne), devs3 (devs3 hd hg (n _ _) (n _ _) (n _ _)) (hr.far3 hne) h0 h1 h2, rsls3 (rsls3 hrs hg (n _ _) (n _ _) (n _ _)) (hr.far3 hne) h0 h1 h2, hp, hs, hE, hU, devs3 (devs3 ho hg (n _ _) (n _ _) (n _ _)) (hr.far3 hne) h0 h1 h2, below_three (below_three hb hgk) hk⟩
end
end Go.Proofs.YtpjmhhfpjhmiiaaGreat

namespace Go.Proofs.YtpjmhhfpjhmiiaaGreat
open Go.RowKit Go.Shelf

theorem fits_tries {f : List Int} (h : ¬ (12 : Int) < (f.length : Int)) : newMgr 77 ((f.length : Int) + 1) = ⟨77, 0, (f.length : Int) + 1⟩ ∧ mgrE ⟨77, 0, (f.length : Int) + 1⟩ = 0 := by
  have e : mgrE ⟨77, 0, (f.length : Int) + 1⟩ = 0 := by
    unfold mgrE
    rw [if_neg]
    rintro (e | e | e | e | e)
    · exact absurd e (by show ¬ isId 77 = false; decide)
    all_goals (dsimp only at e; omega)
  refine ⟨?_, e⟩
  unfold newMgr
  simp [e]

set_option maxHeartbeats 32000000 in
set_option maxRecDepth 100000 in
theorem law_keeps (l : List Dev) (da : Option Addr) (dc : Nat) (f : List Int) (fa : Option Addr) (fc : Nat) (s : ByteArray) (w : World) (hd : DevsAt w (.slice da l.length dc) l) (hrm : RoomOk (.slice da l.length dc)) (hf : IntsAt w (.slice fa f.length fc) f)
    (hlb : ∀ d ∈ l, d.lb.size ≤ 9223372036854775807) (hr : l.length * 56 ≤ 140737488351232) (hs : s.size ≤ 9223372036854775807) :
    Calls Tryz.prog 11 #[.slice da l.length dc, .slice fa f.length fc, .string s] w fun e w' => e = .returned (.bool true) ∧ Below w.heap.size w w' := by
  obtain ⟨q1, hq1⟩ : ∃ q, (decide (l.length ≤ 8) && decide (devsE l = 0)) = q := ⟨_, rfl⟩
  obtain ⟨E, hE⟩ : ∃ E, lblE s = E := ⟨_, rfl⟩
  obtain ⟨q2, hq2⟩ : ∃ q, f.any badFault = q := ⟨_, rfl⟩
  have C1 := pdevs_any l da dc w hd hlb hr
  rw [hq1] at C1
  have C2 := fun W => Label_any s W hs
  simp only [hE] at C2
  have C3 := fun W (hv : IntsAt W (.slice fa f.length fc) f) => hasBad_any (.slice fa f.length fc) f W hv
  simp only [hq2] at C3
  have D1 := Lib.hid C1
  have D2 := Lib.hid C2
  have D3 := Lib.hid C3
  have HF := Lib.hid hf
  have HD := Lib.hid hd
  have HRM := Lib.hid hrm
  have Q1 := Lib.hid hq1
  have HE := Lib.hid hE
  have Q2 := Lib.hid hq2
  have hfl : (f.length : Int) ≤ 140737488351232 := by
    rcases hf with ⟨h0, _⟩ | ⟨_, h1, _⟩ <;> omega
  clear C1 C2 C3 hf hd hq1 hE hq2 hrm hlb hr hs
  go_enter Tryz.func11, Tryz.ntmps11
  cases q1 with
  | false =>
    go_wp2_with fail
    refine D1.out.mono ?_
    rintro e w1 ⟨rfl, hb1⟩
    go_wp2_with fail
    refine (playBus_any _).mono ?_
    rintro e w2 ⟨rfl, hb2⟩
    go_wp2
    go_ret
    exact ⟨rfl, below_run hb1 hb2⟩
  | true =>
    by_cases h12 : (12 : Int) < (f.length : Int)
    · go_wp2_with fail
      refine D1.out.mono ?_
      rintro e w1 ⟨rfl, hb1⟩
      go_wp2_with fail
      refine (playBus_any _).mono ?_
      rintro e w2 ⟨rfl, hb2⟩
      go_wp2
      go_ret
      exact ⟨rfl, below_run hb1 hb2⟩
    · have H12 := Lib.hid h12
      by_cases hz : E = 0
      · subst hz
        cases q2 with
        | true =>
          go_wp2_with fail
          refine D1.out.mono ?_
          rintro e w1 ⟨rfl, hb1⟩
          go_wp2_with fail
          refine (D2.out _).mono ?_
          rintro e w2 ⟨rfl, rfl⟩
          go_wp2_with fail
          refine (D3.out _ (HF.out.run hb1)).mono ?_
          rintro e w3 ⟨rfl, hb3⟩
          go_wp2_with fail
          refine (playBus_any _).mono ?_
          rintro e w4 ⟨rfl, hb4⟩
          go_wp2
          go_ret
          exact ⟨rfl, below_run (below_run hb1 hb3) hb4⟩
        | false =>
          go_wp2_with fail
          refine D1.out.mono ?_
          rintro e w1 ⟨rfl, hb1⟩
          go_wp2_with fail
          refine (D2.out _).mono ?_
          rintro e w2 ⟨rfl, rfl⟩
          go_wp2_with fail
          refine (D3.out _ (HF.out.run hb1)).mono ?_
          rintro e w3 ⟨rfl, hb3⟩
          have hb13 := below_run hb1 hb3
          have HB3 := Lib.hid hb13
          have HD3 := Lib.hid (HD.out.run hb13)
          have HF3 := Lib.hid (HF.out.run hb13)
          clear hb1 hb3 hb13 D1 D2 D3 HD HF
          obtain ⟨ft1, ft2⟩ := fits_tries (f := f) (by have := H12.out; omega)
          have FT1 := Lib.hid ft1
          have FT2 := Lib.hid ft2
          clear ft1 ft2
          go_wp2_with fail
          refine (mnew_any 77 ((f.length : Int) + 1) _).mono ?_
          rintro e w4 ⟨he, hb4⟩
          rw [FT1.out, FT2.out] at he
          have he' : e = .returned (.tuple #[.agg #[.int .u64 77, .int .i64 0, .int .i64 ((f.length : Int) + 1)], .int .i64 0]) := he
          subst he'
          have HB4 := Lib.hid (below_run HB3.out hb4)
          have HD4 := Lib.hid (HD3.out.run hb4)
          have HF4 := Lib.hid (HF3.out.run hb4)
          clear he hb4 HB3 HD3 HF3
          go_upto_region 5 with fail
          have hbT : Below w4.heap.size w4 ((w4.alloc (.cells #[.int .u64 77, .int .i64 0, .int .i64 ((f.length : Int) + 1)] 24)).alloc (.cells #[.slice da l.length dc, .slice fa f.length fc, .slice none 0 0] 29)) := by (repeat' (first | (with_reducible exact Below.refl _ _) | (with_reducible assumption) | (with_reducible refine below_run ?_ (by assumption)) | (with_reducible refine below_of_upd ?_ (by assumption) ?_) | (with_reducible refine below_drewN ?_ _) | (with_reducible refine Below.drew ?_) | (with_reducible refine below_seven ?_ ?_) | (with_reducible refine below_six ?_ ?_) | (with_reducible refine below_one ?_ ?_) | (with_reducible refine Below.alloc ?_ ?_ _) | (with_reducible refine below_after ?_ ?_ (by assumption)) | (show _ ≤ _; first | omega | (simp; done) | (simp; omega))))
          have r4 : RowAt ((w4.alloc (.cells #[.int .u64 77, .int .i64 0, .int .i64 ((f.length : Int) + 1)] 24)).alloc (.cells #[.slice da l.length dc, .slice fa f.length fc, .slice none 0 0] 29)) w4.heap.size 24 #[.int .u64 77, .int .i64 0, .int .i64 ((f.length : Int) + 1)] := (RowAt.new _ _ _).alloc _
          have r5 : RowAt ((w4.alloc (.cells #[.int .u64 77, .int .i64 0, .int .i64 ((f.length : Int) + 1)] 24)).alloc (.cells #[.slice da l.length dc, .slice fa f.length fc, .slice none 0 0] 29)) (w4.heap.size + 1) 29 #[.slice da l.length dc, .slice fa f.length fc, .slice none 0 0] := RowAt.mk (by simp) rfl
          have hd := HD4.out.run hbT
          have hf := HF4.out.run hbT
          have hbw := below_run HB4.out hbT
          have hk4 := HB4.out.size
          generalize ((w4.alloc (.cells #[.int .u64 77, .int .i64 0, .int .i64 ((f.length : Int) + 1)] 24)).alloc (.cells #[.slice da l.length dc, .slice fa f.length fc, .slice none 0 0] 29)) = Y at hbT r4 r5 hd hf hbw ⊢
          generalize w4.heap.size = k4 at r4 r5 hk4 ⊢
          have HWY := Lib.hid (show WireAt Y (.slice da l.length dc) (.slice fa f.length fc) (.slice none 0 0) ⟨l, f, []⟩ from ⟨hd, HRM.out, hf, .inl ⟨rfl, _, _, rfl⟩⟩)
          have hq := Q1.out
          simp only [Bool.and_eq_true, decide_eq_true_eq] at hq
          obtain ⟨h8, hdv⟩ := hq
          have HDY := Lib.hid hd
          have CP := Lib.hid (fun W (hb : Below Y.heap.size Y W) => pids_any l da dc W (HDY.out.below hb) (by omega))
          have CM := Lib.hid (fun (ids : List Int) (ia : Option Addr) (ic : Nat) (W : World) (hp : ids.Perm (l.map fun d => d.id)) (hb : Below Y.heap.size Y W) (hi : IdsAt W (.slice ia ids.length ic) ids) => keeps_call da fa ia dc fc ic W hdv h8 (by have := H12.out; omega) Q2.out HE.out FT2.out hp (HWY.out.run hb) hi)
          have H8 := Lib.hid h8
          have HBW := Lib.hid hbw
          have R4 := Lib.hid r4
          have R5 := Lib.hid r5
          have hky := lt_of_block r4
          have hky1 := lt_of_block r5
          have hkeep : ∀ W', Below Y.heap.size Y W' → W'.cell? ⟨k4, 0, none⟩ = some (.int .u64 77) ∧ W'.cell? ⟨k4, 1, none⟩ = some (.int .i64 0) ∧ W'.cell? ⟨k4, 2, none⟩ = some (.int .i64 ((f.length : Int) + 1)) ∧ W'.cell? ⟨k4 + 1, 0, none⟩ = some (.slice da l.length dc) ∧ W'.cell? ⟨k4 + 1, 1, none⟩ = some (.slice fa f.length fc) ∧ W'.cell? ⟨k4 + 1, 2, none⟩ = some (.slice none 0 0) := by
            intro W' hb
            have a0 := r4.run hb
            have a1 := r5.run hb
            exact ⟨cell_fact a0 0, cell_fact a0 1, cell_fact a0 2, cell_fact a1 0, cell_fact a1 1, cell_fact a1 2⟩
          have HK := Lib.hid hkeep
          obtain ⟨m0, m1, m2, m3, m4, m5⟩ := hkeep Y (Below.refl _ _)
          have hbd : Below Y.heap.size Y Y.drew := Below.drew (Below.refl _ _)
          clear h8 hdv hd hf hbw hbT HD4 HF4 HB4 h12 hkeep
          go_cut [10, 11, 12] (fun _ s11 s12 wx => KeepsCut l s da dc (k4 + 1) w s11 s12 wx)
          case first =>
            go_region_with
              (first
                | (go_at_call 47; refine (CP.out _ (by (repeat' (first | (with_reducible exact Below.refl _ _) | (with_reducible assumption) | (with_reducible refine below_run ?_ (by assumption)) | (with_reducible refine below_of_upd ?_ (by assumption) ?_) | (with_reducible refine below_drewN ?_ _) | (with_reducible refine Below.drew ?_) | (with_reducible refine below_seven ?_ ?_) | (with_reducible refine below_six ?_ ?_) | (with_reducible refine below_one ?_ ?_) | (with_reducible refine Below.alloc ?_ ?_ _) | (with_reducible refine below_after ?_ ?_ (by assumption)) | (show _ ≤ _; first | omega | (simp; done) | (simp; omega)))))).mono ?_; rintro e w5 ⟨ia, ic, ids, rfl, hi5, hp5, hs5, hb5⟩; (try (refine have_of (p := RowAt w5 Y.heap.size 24 #[.int .u64 0, .int .i64 0, .int .i64 0]) ?_ ?_; (focus ((repeat' (first | (with_reducible assumption) | (with_reducible refine RowAt.drewN ?_ _) | (with_reducible refine RowAt.drew ?_) | (with_reducible apply RowAt.seven) | (with_reducible apply RowAt.six) | (with_reducible refine RowAt.far7 ?_ ?_) | (with_reducible refine RowAt.far6 ?_ ?_) | (with_reducible refine RowAt.far1 ?_ ?_) | ((with_reducible refine RowAt.mk ?_ ?_); (focus (first | (with_reducible rfl) | (simp; done))); rfl) | (with_reducible refine RowAt.alloc ?_ _) | (with_reducible refine RowAt.run ?_ (by assumption)) | (with_reducible refine RowAt.below ?_ (by assumption) ?_) | (with_reducible refine RowAt.upd ?_ (by assumption) ?_) | (with_reducible show _ < _; first | omega | (simp; done) | (simp; omega)) | (with_reducible show ¬ _ = _; first | omega | (simp; done) | (simp; omega)) | (with_reducible exact rfl))); done)); intro hx; obtain ⟨x1, x2, x3, x4, x5, x6⟩ := row_facts hx)); have hY5 : Below Y.heap.size Y w5 := (by (repeat' (first | (with_reducible exact Below.refl _ _) | (with_reducible assumption) | (with_reducible refine below_run ?_ (by assumption)) | (with_reducible refine below_of_upd ?_ (by assumption) ?_) | (with_reducible refine below_drewN ?_ _) | (with_reducible refine Below.drew ?_) | (with_reducible refine below_seven ?_ ?_) | (with_reducible refine below_six ?_ ?_) | (with_reducible refine below_one ?_ ?_) | (with_reducible refine Below.alloc ?_ ?_ _) | (with_reducible refine below_after ?_ ?_ (by assumption)) | (show _ ≤ _; first | omega | (simp; done) | (simp; omega))))); have rW5 := R5.out.run hY5; obtain ⟨p1, p2, p3, p4, p5, p6⟩ := row_facts rW5; have rM5 := R4.out.run hY5; obtain ⟨o1, o2, o3, o4, o5, o6⟩ := row_facts rM5; clear rW5 rM5; have hz5 := hb5.size; (try simp at hz5))
                | (go_at_call 37; refine (CM.out ids ia ic _ hp5 (by (repeat' (first | (with_reducible exact Below.refl _ _) | (with_reducible assumption) | (with_reducible refine below_run ?_ (by assumption)) | (with_reducible refine below_of_upd ?_ (by assumption) ?_) | (with_reducible refine below_drewN ?_ _) | (with_reducible refine Below.drew ?_) | (with_reducible refine below_seven ?_ ?_) | (with_reducible refine below_six ?_ ?_) | (with_reducible refine below_one ?_ ?_) | (with_reducible refine Below.alloc ?_ ?_ _) | (with_reducible refine below_after ?_ ?_ (by assumption)) | (show _ ≤ _; first | omega | (simp; done) | (simp; omega))))) (by (repeat' (first | (with_reducible assumption) | (with_reducible refine DevsAt.run ?_ (by assumption)) | (with_reducible refine IdsAt.run ?_ (by assumption)) | (with_reducible refine MsgsAt.run ?_ (by assumption)) | (with_reducible refine DevsAt.alloc ?_ _) | (with_reducible refine IdsAt.alloc ?_ _) | (with_reducible refine DevsAt.drew ?_) | (with_reducible refine IdsAt.drew ?_))))).mono ?_; rintro e w6 ⟨i1, i2, i3, d1, f1, l1, ra, c1, fn, c2, ln, c3, rc, R, rfl, hd6, hr6, hE6, hU6, hb6⟩; (try (refine have_of (p := RowAt w6 Y.heap.size 24 #[.int .u64 0, .int .i64 0, .int .i64 0]) ?_ ?_; (focus ((repeat' (first | (with_reducible assumption) | (with_reducible refine RowAt.drewN ?_ _) | (with_reducible refine RowAt.drew ?_) | (with_reducible apply RowAt.seven) | (with_reducible apply RowAt.six) | (with_reducible refine RowAt.far7 ?_ ?_) | (with_reducible refine RowAt.far6 ?_ ?_) | (with_reducible refine RowAt.far1 ?_ ?_) | ((with_reducible refine RowAt.mk ?_ ?_); (focus (first | (with_reducible rfl) | (simp; done))); rfl) | (with_reducible refine RowAt.alloc ?_ _) | (with_reducible refine RowAt.run ?_ (by assumption)) | (with_reducible refine RowAt.below ?_ (by assumption) ?_) | (with_reducible refine RowAt.upd ?_ (by assumption) ?_) | (with_reducible show _ < _; first | omega | (simp; done) | (simp; omega)) | (with_reducible show ¬ _ = _; first | omega | (simp; done) | (simp; omega)) | (with_reducible exact rfl))); done)); intro hx; obtain ⟨x1, x2, x3, x4, x5, x6⟩ := row_facts hx)); (try (refine have_of (p := RowAt w6 w5.heap.size 24 #[.int .u64 0, .int .i64 0, .int .i64 0]) ?_ ?_; (focus ((repeat' (first | (with_reducible assumption) | (with_reducible refine RowAt.drewN ?_ _) | (with_reducible refine RowAt.drew ?_) | (with_reducible apply RowAt.seven) | (with_reducible apply RowAt.six) | (with_reducible refine RowAt.far7 ?_ ?_) | (with_reducible refine RowAt.far6 ?_ ?_) | (with_reducible refine RowAt.far1 ?_ ?_) | ((with_reducible refine RowAt.mk ?_ ?_); (focus (first | (with_reducible rfl) | (simp; done))); rfl) | (with_reducible refine RowAt.alloc ?_ _) | (with_reducible refine RowAt.run ?_ (by assumption)) | (with_reducible refine RowAt.below ?_ (by assumption) ?_) | (with_reducible refine RowAt.upd ?_ (by assumption) ?_) | (with_reducible show _ < _; first | omega | (simp; done) | (simp; omega)) | (with_reducible show ¬ _ = _; first | omega | (simp; done) | (simp; omega)) | (with_reducible exact rfl))); done)); intro hx; obtain ⟨x1, x2, x3, x4, x5, x6⟩ := row_facts hx)); have hY6 : Below Y.heap.size Y w6 := (by (repeat' (first | (with_reducible exact Below.refl _ _) | (with_reducible assumption) | (with_reducible refine below_run ?_ (by assumption)) | (with_reducible refine below_of_upd ?_ (by assumption) ?_) | (with_reducible refine below_drewN ?_ _) | (with_reducible refine Below.drew ?_) | (with_reducible refine below_seven ?_ ?_) | (with_reducible refine below_six ?_ ?_) | (with_reducible refine below_one ?_ ?_) | (with_reducible refine Below.alloc ?_ ?_ _) | (with_reducible refine below_after ?_ ?_ (by assumption)) | (show _ ≤ _; first | omega | (simp; done) | (simp; omega))))); have rW6 := R5.out.run hY6; obtain ⟨p1, p2, p3, p4, p5, p6⟩ := row_facts rW6; have rM6 := R4.out.run hY6; obtain ⟨o1, o2, o3, o4, o5, o6⟩ := row_facts rM6; clear rM6; have hz6 := hb6.size; (try simp at hz6)))
            all_goals (go_wp2_with fail; go_meet)
            all_goals (have hW6 : Below w.heap.size w w6 := below_run HBW.out hY6)
            all_goals (have hsz6 := hY6.size)
            all_goals (have hszb := HBW.out.size)
            all_goals (first
              | (with_reducible refine keeps_cutA rW6 ?_ ?_ ?_ hd6 hr6 hp5 hs5 hE6 hU6 (HDY.out.below hY6) hW6 ?_ _)
              | (with_reducible refine keeps_cutB rW6 ?_ ?_ ?_ (by assumption) ?_ ?_ hd6 hr6 hp5 hs5 hE6 hU6 (HDY.out.below hY6) hW6 ?_))
            all_goals (first | omega | (intro _; exact nofun))
          case rest =>
            obtain ⟨d1, f1, l1, ra, c1, fn, c2, ln, c3, rc, R, ids, rfl, rfl, hrw, hdg, hrr, hpp, hss, hfe, hfu, hdl, hbx⟩ := hcut
            clear m0 m1 m2 m3 m4 m5 r4 r5 hbd
            have HRW := Lib.hid hrw
            have HDG := Lib.hid hdg
            have HDL := Lib.hid hdl
            have HSS := Lib.hid hss
            have HPP := Lib.hid hpp
            have HBX := Lib.hid hbx
            have CM2 := Lib.hid (fun (W : World) (ia : Option Addr) (ic : Nat) (hi : IdsAt W (.slice ia ids.length ic) ids) (hr : RslsAt W (.slice ra R.length rc) R) => mfailed_any _ _ ids R W hi hr (by have := HPP.out.length_eq; rw [List.length_map] at this; have := H8.out; omega))
            have HRR := Lib.hid hrr
            have HFE := Lib.hid hfe
            have HFU := Lib.hid hfu
            clear hrw hdg hdl hss hpp hbx hrr hfe hfu
            go_wp2_with fail
            refine (pids_any l da dc _ HDL.out (by have := H8.out; omega)).mono ?_
            rintro e w7 ⟨ia, ic, ids', rfl, hi7, hp7, hs7, hb7⟩
            obtain rfl : ids' = ids := srt_eq hs7 HSS.out (hp7.trans HPP.out.symm)
            have CF := CM2.out w7 ia ic hi7 (HRR.out.run hb7)
            rw [HFE.out, HFU.out] at CF
            have CFH := Lib.hid CF
            have HB7 := Lib.hid hb7
            clear CF hi7 hp7 hs7 hb7 CM2
            go_wp2_with fail
            refine CFH.out.mono ?_
            rintro e w8 ⟨vf, rfl, hi8, hb8⟩
            obtain ⟨fb, fcc, rfl⟩ := shape_of hi8
            have hb78 := below_run HB7.out hb8
            have r8 := HRW.out.run hb78
            have HR8 := Lib.hid r8
            have HDG8 := Lib.hid (HDG.out.run hb78)
            have HDL8 := Lib.hid (HDL.out.run hb78)
            have HB8 := Lib.hid (below_run HBX.out hb78)
            obtain ⟨x1, x2, x3, x4, x5, x6⟩ := row_facts r8
            have hll : ((l.length : Int) != (l.length : Int)) = false := by simp
            clear r8 hi8 hb8 hb78 CFH HB7 HRW HDG HDL HBX HRR
            go_wp2
            go_loopw [15, 16, 17, 87] (fun _ _ _ i wr => ∃ k : Nat, k ≤ l.length ∧ i = .int .i64 k ∧ Below w8.heap.size w8 wr) (fun _ _ _ i _ => l.length - (intOf i).toNat)
            case atStart => exact ⟨0, Nat.zero_le _, rfl, Below.refl _ _⟩
            case round =>
              obtain ⟨j, hj, rfl, hb0⟩ := hrel
              clear x1 x2 x3 x4 x5 x6
              by_cases hlt2 : j < l.length
              · have hlt3 : (j : Int) < (l.length : Int) := by omega
                have hj0 : (0 : Int) ≤ (j : Int) := by omega
                have hl8 : (l.length : Int) ≤ 8 := by have := H8.out; omega
                obtain ⟨b, off, cap, hve, hbl, hcel⟩ : ∃ b off cap, Value.slice da l.length dc = .slice (some ⟨b, off, none⟩) l.length cap ∧ b < wr.heap.size ∧ ∀ i, i < l.length * 7 → wr.cell? ⟨b, off + i, none⟩ = devsC l i := by
                  rcases HDL8.out.below hb0 with ⟨h0, _⟩ | ⟨h0, h1, b, off, cap, hv, hbl, hcel⟩
                  · omega
                  · exact ⟨b, off, cap, hv, hbl, hcel⟩
                cases hve
                obtain ⟨d, hd, e10, e11, e12, e13, e14, e15, e16⟩ := dev_cells hcel j hlt2
                obtain ⟨G, hG⟩ : ∃ G, (l.map fun d => { d with lb := s }) = G := ⟨_, rfl⟩
                have hGl : G.length = l.length := by rw [← hG, List.length_map]
                have hGj : G[j]? = some { d with lb := s } := by rw [← hG, List.getElem?_map, hd]; rfl
                have hGa : DevsAt wr (.slice d1 l.length c1) G := hG ▸ HDG8.out.below hb0
                rw [← hGl] at hGa
                obtain ⟨b', off', hve', hbl', hcel'⟩ : ∃ b off, d1 = some ⟨b, off, none⟩ ∧ b < wr.heap.size ∧ ∀ i, i < G.length * 7 → wr.cell? ⟨b, off + i, none⟩ = devsC G i := by
                  rcases hGa with ⟨h0, _⟩ | ⟨h0, h1, b, off, cap, hv, hbl, hcel⟩
                  · omega
                  · obtain ⟨e1, -, -⟩ := Value.slice.inj hv
                    exact ⟨b, off, e1, hbl, hcel⟩
                subst hve'
                obtain ⟨g, hg, f10, f11, f12, f13, f14, f15, f16⟩ := dev_cells hcel' j (by omega)
                rw [hGj] at hg
                cases hg
                clear hcel hcel' hd hGa hGj hGl hG
                go_wp2
                go_roundw
                case rel =>
                  have hsz0 := hb0.size
                  exact ⟨j + 1, (by have := Nat.succ_le_of_lt hlt2; exact this), by go_num, by (repeat' (first | (with_reducible exact Below.refl _ _) | (with_reducible assumption) | (with_reducible refine below_run ?_ (by assumption)) | (with_reducible refine below_of_upd ?_ (by assumption) ?_) | (with_reducible refine below_drewN ?_ _) | (with_reducible refine Below.drew ?_) | (with_reducible refine below_seven ?_ ?_) | (with_reducible refine below_six ?_ ?_) | (with_reducible refine below_one ?_ ?_) | (with_reducible refine Below.alloc ?_ ?_ _) | (with_reducible refine below_after ?_ ?_ (by assumption)) | (show _ ≤ _; first | omega | (simp; done) | (simp; omega))))⟩
                case measure => simp [intOf]; omega
              · obtain rfl : j = l.length := Nat.le_antisymm hj (Nat.le_of_not_lt hlt2)
                have HB9 := Lib.hid (below_run HB8.out hb0)
                go_wp2_with fail
                refine (playBus_any _).mono ?_
                rintro e w9 ⟨rfl, hb9⟩
                go_wp2
                go_ret
                exact ⟨rfl, below_run HB9.out hb9⟩
      · have e9 : (E != 0) = true := by simpa using hz
        go_wp2_with fail
        refine D1.out.mono ?_
        rintro e w1 ⟨rfl, hb1⟩
        go_wp2_with fail
        refine (D2.out _).mono ?_
        rintro e w2 ⟨rfl, rfl⟩
        go_wp2_with fail
        refine (playBus_any _).mono ?_
        rintro e w2 ⟨rfl, hb2⟩
        go_wp2
        go_ret
        exact ⟨rfl, below_run hb1 hb2⟩
end Go.Proofs.YtpjmhhfpjhmiiaaGreat
