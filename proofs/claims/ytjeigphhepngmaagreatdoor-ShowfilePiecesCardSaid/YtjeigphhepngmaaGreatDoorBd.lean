/- -/
import Derived.Test.YtjeigphhepngmaaGreatDoorZk
import Derived.Test.YtjeigphhepngmaaGreatDoorAt
import Derived.Laws.StructEq
import Derived.Test.YtjeigphhepngmaaGreatDoorAs
import Derived.Test.YtjeigphhepngmaaGreatDoorAv
import Derived.Test.YtjeigphhepngmaaGreatDoorOs
import Derived.Test.YtjeigphhepngmaaGreatDoorAf
import Derived.Test.YtjeigphhepngmaaGreatDoorZq
import Derived.Test.YtjeigphhepngmaaGreatDoorZv
import Derived.Test.YtjeigphhepngmaaGreatDoorAl
namespace Go.Proofs.YtjeigphhepngmaaGreatDoor
open Go.RowKit
open Go.Lib (hid)
set_option maxHeartbeats 8000000
set_option linter.unusedSimpArgs false
set_option linter.unusedVariables false
set_option maxRecDepth 100000
def piecesP (s : ShowD) : List Ent := if showE s = 0 then piecesL s else []
theorem zfz {s : ShowD} : (piecesP s).length ≤ 731 := by
 unfold piecesP
 split
 · rename_i h
   have := zko (zdk h)
   rw [piecesL, List.length_append]
   simp only [List.length_cons, List.length_nil]
   omega
 simp
theorem zkq (s : ShowD) (v : ShowV) (w : World) (h : ShowAt w v s) (h64 : Show64 s) :
   Calls Tryz.prog 14 #[.agg (showA s v)] w fun e w' => (∃ u, e = .returned (.tuple #[u, .int .i64 (showE s)]) ∧ w'.ownsRow w.heap.size 77 2 u (piecesP s).length (genL entA (piecesP s))) ∧ Below w.heap.size w w' := by
 have b0 : Below w.heap.size w (w.alloc (.cells (showA s v) 31)) := bel
 have r0 : RowAt (w.alloc (.cells (showA s v) 31)) w.heap.size 31 (showA s v) := RowAt.new _ _ _
 have C := hid (fun (W : World) (hb : Below w.heap.size w W) => zq3 s v W (h.run hb))
 have D := hid (fun (W : World) (hb : Below w.heap.size w W) (h0 : showE s = 0) => zcm s v W (h.run hb) (zdk h0) h64)
 obtain ⟨r, hr⟩ : ∃ r, showE s = r := ⟨_, rfl⟩
 obtain ⟨ps, hps⟩ : ∃ l, piecesP s = l := ⟨_, rfl⟩
 have HP := hid hps
 have HR := hid hr
 rw [hr] at C ⊢
 rw [hps]
 have H0 := hid (And.intro r0 b0)
 clear hr hps b0
 have hsh : ∃ a1 n1 c1 a2 n2 c2 a3 n3 c3 a4 n4 c4 a5 n5 c5 a6 n6 c6 a7 n7 c7 a8 n8 c8, showA s v = #[.string s.title, .slice a1 n1 c1, .slice a2 n2 c2, .slice a3 n3 c3, .slice a4 n4 c4, .slice a5 n5 c5, .slice a6 n6 c6, .slice a7 n7 c7, .slice a8 n8 c8] := by
   obtain ⟨a1, c1, e1⟩ := h.curves.shape
   obtain ⟨a2, c2, e2⟩ := h.profs.shape
   obtain ⟨a3, c3, e3⟩ := h.fixs.shape
   obtain ⟨a4, c4, e4⟩ := h.grps.shape
   obtain ⟨a5, c5, e5⟩ := h.pals.shape
   obtain ⟨a6, c6, e6⟩ := h.lists.shape
   obtain ⟨a7, c7, e7⟩ := h.subs.shape
   obtain ⟨a8, c8, e8⟩ := h.effs.shape
   exact ⟨a1, _, c1, a2, _, c2, a3, _, c3, a4, _, c4, a5, _, c5, a6, _, c6, a7, _, c7, a8, _, c8, by rw [showA, e1, e2, e3, e4, e5, e6, e7, e8]⟩
 obtain ⟨a1, n1, c1, a2, n2, c2, a3, n3, c3, a4, n4, c4, a5, n5, c5, a6, n6, c6, a7, n7, c7, a8, n8, c8, hsa⟩ := hsh
 rw [hsa] at C D H0 r0 ⊢
 clear h hsa
 obtain ⟨x1, x2, x3, x4, x5, x6⟩ := zaa r0
 go_enter Tryz.func14, Tryz.ntmps14
 go_wp2_with fail
 refine (C.out _ H0.out.2).mono ?_
 rintro e w1 ⟨rfl, hb1⟩
 have H1 := hid (And.intro (H0.out.1.run hb1) (H0.out.2.trans (hb1.mono H0.out.2.size)))
 clear hb1 x1 x2 x3 x4 x5 x6 r0
 obtain ⟨x1, x2, x3, x4, x5, x6⟩ := zaa H1.out.1
 by_cases h0 : r = 0
 · subst h0
   go_wp2_with fail
   refine (D.out _ H1.out.2 HR.out).mono ?_
   rintro e w2 ⟨g, cap, rfl, hown, hb2⟩
   have hp : piecesL s = ps := by rw [← HP.out, piecesP, if_pos HR.out]
   rw [hp] at hown ⊢
   have HO := hid (And.intro (zfj hown H1.out.2.size) (H1.out.2.trans (hb2.mono H1.out.2.size)))
   clear hown hb2 hp
   go_wp2
   go_ret2
   exact ⟨⟨_, rfl, HO.out.1⟩, HO.out.2⟩
 have h1 : (r != 0) = true := by simpa using h0
 have hp : ps = [] := by rw [← HP.out, piecesP, if_neg (by rw [HR.out]; exact h0)]
 subst hp
 go_wp2
 go_ret2
 exact ⟨⟨_, rfl, World.ownsRow_nil _ _ _ _⟩, H1.out.2⟩
theorem ziu (s : ShowD) (v : ShowV) (w : World) (h : ShowAt w v s) (h64 : Show64 s) :
   Calls Tryz.prog 15 #[.agg (showA s v)] w fun e w' => (∃ u, e = .returned (.tuple #[u, .int .i64 (showE s)]) ∧ w'.ownsRow w.heap.size 98 2 u (piecesP s).length (genL entA (piecesP s))) ∧ Below w.heap.size w w' := by
 have b0 : Below w.heap.size w (w.alloc (.cells (showA s v) 31)) := bel
 have r0 : RowAt (w.alloc (.cells (showA s v) 31)) w.heap.size 31 (showA s v) := RowAt.new _ _ _
 have C := hid (fun (W : World) (hb : Below w.heap.size w W) => zv1 s v W (h.run hb))
 have D := hid (fun (W : World) (hb : Below w.heap.size w W) (h0 : showE s = 0) => zo1 s v W (h.run hb) (zdk h0) h64)
 obtain ⟨r, hr⟩ : ∃ r, showE s = r := ⟨_, rfl⟩
 obtain ⟨ps, hps⟩ : ∃ l, piecesP s = l := ⟨_, rfl⟩
 have HP := hid hps
 have HR := hid hr
 rw [hr] at C ⊢
 rw [hps]
 have H0 := hid (And.intro r0 b0)
 clear hr hps b0
 have hsh : ∃ a1 n1 c1 a2 n2 c2 a3 n3 c3 a4 n4 c4 a5 n5 c5 a6 n6 c6 a7 n7 c7 a8 n8 c8, showA s v = #[.string s.title, .slice a1 n1 c1, .slice a2 n2 c2, .slice a3 n3 c3, .slice a4 n4 c4, .slice a5 n5 c5, .slice a6 n6 c6, .slice a7 n7 c7, .slice a8 n8 c8] := by
   obtain ⟨a1, c1, e1⟩ := h.curves.shape
   obtain ⟨a2, c2, e2⟩ := h.profs.shape
   obtain ⟨a3, c3, e3⟩ := h.fixs.shape
   obtain ⟨a4, c4, e4⟩ := h.grps.shape
   obtain ⟨a5, c5, e5⟩ := h.pals.shape
   obtain ⟨a6, c6, e6⟩ := h.lists.shape
   obtain ⟨a7, c7, e7⟩ := h.subs.shape
   obtain ⟨a8, c8, e8⟩ := h.effs.shape
   exact ⟨a1, _, c1, a2, _, c2, a3, _, c3, a4, _, c4, a5, _, c5, a6, _, c6, a7, _, c7, a8, _, c8, by rw [showA, e1, e2, e3, e4, e5, e6, e7, e8]⟩
 obtain ⟨a1, n1, c1, a2, n2, c2, a3, n3, c3, a4, n4, c4, a5, n5, c5, a6, n6, c6, a7, n7, c7, a8, n8, c8, hsa⟩ := hsh
 rw [hsa] at C D H0 r0 ⊢
 clear h hsa
 obtain ⟨x1, x2, x3, x4, x5, x6⟩ := zaa r0
 go_enter Tryz.func15, Tryz.ntmps15
 go_wp2_with fail
 refine (C.out _ H0.out.2).mono ?_
 rintro e w1 ⟨rfl, hb1⟩
 have H1 := hid (And.intro (H0.out.1.run hb1) (H0.out.2.trans (hb1.mono H0.out.2.size)))
 clear hb1 x1 x2 x3 x4 x5 x6 r0
 obtain ⟨x1, x2, x3, x4, x5, x6⟩ := zaa H1.out.1
 by_cases h0 : r = 0
 · subst h0
   go_wp2_with fail
   refine (D.out _ H1.out.2 HR.out).mono ?_
   rintro e w2 ⟨g, cap, rfl, hown, hb2⟩
   have hp : piecesL s = ps := by rw [← HP.out, piecesP, if_pos HR.out]
   rw [hp] at hown ⊢
   have HO := hid (And.intro (zfj hown H1.out.2.size) (H1.out.2.trans (hb2.mono H1.out.2.size)))
   clear hown hb2 hp
   go_wp2
   go_ret2
   exact ⟨⟨_, rfl, HO.out.1⟩, HO.out.2⟩
 have h1 : (r != 0) = true := by simpa using h0
 have hp : ps = [] := by rw [← HP.out, piecesP, if_neg (by rw [HR.out]; exact h0)]
 subst hp
 go_wp2
 go_ret2
 exact ⟨⟨_, rfl, World.ownsRow_nil _ _ _ _⟩, H1.out.2⟩
theorem zci (v : Value) (l : List Ent) (w : World) (hv : ListAt 2 entA w v l) (hl : l.length ≤ 1000000) :
  Calls Tryz.prog 17 #[v] w fun e w' => (∃ u, e = .returned u ∧ w'.ownsRow w.heap.size 98 2 u l.length (genL entA l)) ∧ Below w.heap.size w w' := by
 obtain ⟨i0, hi, hz0, hz1, hz2⟩ := info_parts Tryz.info_rentry
 obtain ⟨a, cap, rfl⟩ := hv.shape
 have HV := hid hv
 have hl3 : (l.length : Int) ≤ 1000000 := by omega
 clear hv
 go_enter Tryz.func17, Tryz.ntmps17
 go_wp2
 go_loopw [3, 5, 8] (fun u _ i wr => ∃ k : Nat, k ≤ l.length ∧ i = .int .i64 k ∧ Hid (wr.ownsRow w.heap.size 98 2 u k (genL entA (l.take k)) ∧ Below w.heap.size w wr)) (fun _ _ i _ => l.length - (intOf i).toNat)
 case atStart => exact ⟨0, Nat.zero_le _, rfl, hid ⟨World.ownsRow_nil _ _ _ _, Below.refl _ _⟩⟩
 case round =>
  obtain ⟨k, hk, rfl, hh⟩ := hrel
  have hbs := hh.out.2.size
  by_cases hlt : k < l.length
  · have hlt3 : (k : Int) < (l.length : Int) := by omega
    obtain ⟨d, hd⟩ : ∃ d, l[k]? = some d := ⟨_, List.getElem?_eq_getElem hlt⟩
    obtain ⟨g, off, cap', he, hg0, hc⟩ := HV.out.at_ (by decide) hd
    cases he
    have HT := hid (zaf hd)
    obtain ⟨kd, dt⟩ := d
    have e0 : wr.cell? ⟨g, off + k * 2, none⟩ = some (.int .i64 (kd.toNat : Int)) := hc wr hh.out.2 0 (by decide)
    have e1 : wr.cell? ⟨g, off + k * 2 + 1, none⟩ = some (.string dt) := hc wr hh.out.2 1 (by decide)
    have hgr : g < wr.heap.size := Nat.lt_of_lt_of_le hg0 hbs
    have hown := hh.out.1
    clear hd hc hk
    generalize hkk : (kd.toNat : Int) = kk at e0
    have HKK := hid hkk
    clear hkk
    go_wp2_with (at_builtin; refine wpList_append_own _ rfl _ _ 38 rfl w.heap.size 98 i0 _ 2 24 Tryz.underlying38 hi hz0 hz1 hz2 rfl (by decide) _ _ _ rfl ((hown.alloc _).alloc _) ⟨wr.heap.size + 1, 0, none⟩ 1 1 [.int .i64 kk, .string dt] rfl rfl ?c1 (zbt _ _) ?c3 ?c4 ?c5 ?_)
    case c1 => exact World.news_of_block (cs := #[.int .i64 kk, .string dt]) (t := 98) (fr := (0, 0)) (by simpa using heap_alloc_new (wr.alloc (.cells #[.int .i64 kk, .string dt] 77)) (.cells #[.int .i64 kk, .string dt] 98))
    case c3 => unfold maxLen; omega
    case c4 => omega
    case c5 => simp; omega
    intro v' w2 hown' hgrow _
    have hb2 := zb9 (((hh.out.2.alloc hbs (.cells #[.int .i64 kk, .string dt] 77)).alloc (by simp; omega) (.cells #[.int .i64 kk, .string dt] 98))) ((hown.alloc _).alloc _) (Nat.le_refl _) hgrow (by simp; omega)
    have HN := hid (And.intro hown' hb2)
    clear hown' hgrow hown hb2
    go_wp2
    go_roundw
    case rel => exact ⟨k + 1, by omega, by go_num, hid ⟨by rw [HT.out, zdf]; have := HN.out.1; rw [← HKK.out] at this; exact this, HN.out.2⟩⟩
    case measure => simp [intOf]; omega
  obtain rfl : k = l.length := by omega
  have HE := hid (show wr.ownsRow w.heap.size 98 2 u3 l.length (genL entA l) from by have := hh.out.1; rwa [List.take_length] at this)
  go_wp2
  go_ret
  exact ⟨⟨_, rfl, HE.out⟩, hh.out.2⟩
theorem zl1 (v u : Value) (l : List Ent) (w : World) (hv : ListAt 2 entA w v l) (hu : ListAt 2 entA w u l) :
  Calls Tryz.prog 16 #[v, u] w fun e w' => e = .returned (.bool true) ∧ Below w.heap.size w w' := by
 obtain ⟨a1, p1, rfl⟩ := hv.shape
 obtain ⟨a2, p2, rfl⟩ := hu.shape
 have hml := hv.few
 have HV := hid (And.intro hv hu)
 have h5 : ((l.length : Int) != (l.length : Int)) = false := by simp
 clear hv hu
 go_enter Tryz.func16, Tryz.ntmps16
 go_wp2
 go_loopw [5] (fun i wr => ∃ k : Nat, k ≤ l.length ∧ i = .int .i64 k ∧ Hid (Below w.heap.size w wr)) (fun i _ => l.length - (intOf i).toNat)
 case atStart => exact ⟨0, Nat.zero_le _, rfl, hid (Below.refl _ _)⟩
 case round =>
  obtain ⟨k, hk, rfl, hh⟩ := hrel
  by_cases hlt2 : k < l.length
  · have hlt3 : (k : Int) < (l.length : Int) := by omega
    obtain ⟨d, hd⟩ : ∃ d, l[k]? = some d := ⟨l[k], List.getElem?_eq_getElem hlt2⟩
    obtain ⟨g, off, cap, he, hg, hc⟩ := HV.out.1.at_ (by decide) hd
    obtain ⟨g2, off2, cap2, he2, hg2, hc2⟩ := HV.out.2.at_ (by decide) hd
    cases he
    cases he2
    obtain ⟨kd, dt⟩ := d
    have e0 : wr.cell? ⟨g, off + k * 2, none⟩ = some (.int .i64 (kd.toNat : Int)) := hc wr hh.out 0 (by decide)
    have e1 : wr.cell? ⟨g, off + k * 2 + 1, none⟩ = some (.string dt) := hc wr hh.out 1 (by decide)
    have f0 : wr.cell? ⟨g2, off2 + k * 2, none⟩ = some (.int .i64 (kd.toNat : Int)) := hc2 wr hh.out 0 (by decide)
    have f1 : wr.cell? ⟨g2, off2 + k * 2 + 1, none⟩ = some (.string dt) := hc2 wr hh.out 1 (by decide)
    have hbn := zt2 dt
    generalize (kd.toNat : Int) = kk at e0 f0
    clear hc hc2 hd hk
    go_wp2
    go_quiet (fail)
    go_wp2
    go_roundw
    case rel => exact ⟨k + 1, by omega, by go_num, hid (by have := hh.out; exact bel)⟩
    case measure => simp [intOf]; omega
  obtain rfl : k = l.length := by omega
  go_wp2
  go_ret
  exact ⟨rfl, hh.out⟩
theorem zsu (w : World) : Calls Tryz.prog 189 #[.slice none 0 0] w fun e w' => e = .returned (.int .i64 0) ∧ Below w.heap.size w w' := by
 go_enter Tryz.func189, Tryz.ntmps189
 go_wp2
 go_loopw [11] (fun i wr => i = .int .i64 0 ∧ Below w.heap.size w wr) (fun _ _ => 0)
 case atStart => exact ⟨rfl, bel⟩
 case round =>
  obtain ⟨rfl, hb⟩ := hrel
  go_wp2
  go_ret
  exact ⟨rfl, bel⟩
theorem zqu (w : World) : Calls Tryz.prog 191 #[.slice none 0 0] w fun e w' => e = .returned (.int .i64 0) ∧ Below w.heap.size w w' := by
 go_enter Tryz.func191, Tryz.ntmps191
 go_wp2
 go_loopw [11] (fun i wr => i = .int .i64 0 ∧ Below w.heap.size w wr) (fun _ _ => 0)
 case atStart => exact ⟨rfl, bel⟩
 case round =>
  obtain ⟨rfl, hb⟩ := hrel
  go_wp2
  go_ret
  exact ⟨rfl, bel⟩
theorem zvi (w : World) : Calls Tryz.prog 194 #[.slice none 0 0] w fun e w' => e = .returned (.int .i64 0) ∧ Below w.heap.size w w' := by
 go_enter Tryz.func194, Tryz.ntmps194
 go_wp2
 go_loopw [12] (fun i wr => i = .int .i64 0 ∧ Below w.heap.size w wr) (fun _ _ => 0)
 case atStart => exact ⟨rfl, bel⟩
 case round =>
  obtain ⟨rfl, hb⟩ := hrel
  go_wp2
  go_ret
  exact ⟨rfl, bel⟩
theorem znw (w : World) : Calls Tryz.prog 273 #[.slice none 0 0, .func (.func 274) #[] #[], .func (.func 275) #[] #[]] w fun e w' => e = .returned (.int .i64 0) ∧ Below w.heap.size w w' := by
 go_enter Tryz.func273, Tryz.ntmps273
 go_wp2
 go_loopw [15] (fun i wr => i = .int .i64 0 ∧ Below w.heap.size w wr) (fun _ _ => 0)
 case atStart => exact ⟨rfl, bel⟩
 case round =>
  obtain ⟨rfl, hb⟩ := hrel
  go_wp2
  go_ret
  exact ⟨rfl, bel⟩
theorem zwu (w : World) : Calls Tryz.prog 196 #[.slice none 0 0] w fun e w' => e = .returned (.int .i64 0) ∧ Below w.heap.size w w' := by
 go_enter Tryz.func196, Tryz.ntmps196
 go_wp2_with fail
 refine (znw _).mono ?_
 rintro e w1 ⟨rfl, hb⟩
 go_wp2
 go_ret
 exact ⟨rfl, bel⟩
theorem zpx (w : World) : Calls Tryz.prog 192 #[.agg #[.string ⟨#[]⟩, .slice none 0 0, .slice none 0 0, .slice none 0 0, .slice none 0 0, .slice none 0 0, .slice none 0 0, .slice none 0 0, .slice none 0 0]] w fun e w' => e = .returned (.int .i64 0) ∧ Below w.heap.size w w' := by
 go_enter Tryz.func192, Tryz.ntmps192
 go_wp2
 go_loopw [13] (fun i wr => i = .int .i64 0 ∧ Below w.heap.size w wr) (fun _ _ => 0)
 case atStart => exact ⟨rfl, bel⟩
 case round =>
  obtain ⟨rfl, hb⟩ := hrel
  go_wp2
  go_ret
  exact ⟨rfl, bel⟩
theorem zn1 (w : World) : Calls Tryz.prog 187 #[.agg #[.string ⟨#[]⟩, .slice none 0 0, .slice none 0 0, .slice none 0 0, .slice none 0 0, .slice none 0 0, .slice none 0 0, .slice none 0 0, .slice none 0 0]] w fun e w' => e = .returned (.agg #[.slice none 0 0, .slice none 0 0, .slice none 0 0]) ∧ Below w.heap.size w w' := by
 go_enter Tryz.func187, Tryz.ntmps187
 go_wp2
 refine bodyPost_ret (v := .agg #[.slice none 0 0, .slice none 0 0, .slice none 0 0]) ?_ rfl ⟨rfl, bel⟩
 simp [results, Tryz.results187, go_sem]
theorem znk (w : World) : Calls Tryz.prog 306 #[.slice none 0 0, .slice none 0 0] w fun e w' => ∃ g : Nat, e = .returned (.agg #[.slice none 0 0, .map (some g)]) ∧ Below w.heap.size w w' := by
 have hmm := @run_makeMap Tryz.prog
 go_enter Tryz.func306, Tryz.ntmps306
 go_wp2
 go_loopw [15] (fun i wr => i = .int .i64 0 ∧ RowAt wr w.heap.size 382 #[.slice none 0 0, .map none] ∧ RowAt wr (w.heap.size + 2) 382 #[.slice none 0 0, .map (some (w.heap.size + 1))] ∧ Below w.heap.size w wr) (fun _ _ => 0)
 case atStart =>
  refine ⟨rfl, RowAt.alloc (RowAt.alloc (RowAt.new _ _ _) _) _, ?_, bel⟩
  exact RowAt.mk (by simp) rfl
 case round =>
  obtain ⟨rfl, hr1, hr2, hb⟩ := hrel
  obtain ⟨x1, x2, x3, x4, x5, x6⟩ := zaa hr1
  obtain ⟨y1, y2, y3, y4, y5, y6⟩ := zaa hr2
  go_wp2
  refine bodyPost_ret (v := .agg #[.slice none 0 0, .map (some (w.heap.size + 1))]) ?_ rfl ⟨_, rfl, bel⟩
  simp [results, Tryz.results306, go_sem, *]
theorem zme (w : World) : Calls Tryz.prog 268 #[.slice none 0 0, .slice none 0 0] w fun e w' => e = .returned (.int .i64 0) ∧ Below w.heap.size w w' := by
 go_enter Tryz.func268, Tryz.ntmps268
 go_wp2_with fail
 refine (znk _).mono ?_
 rintro e w1 ⟨g, rfl, hb⟩
 have hbs := hb.size
 go_wp2
 go_loopw [21] (fun i wr => i = .int .i64 0 ∧ Below w.heap.size w wr) (fun _ _ => 0)
 case atStart => exact ⟨rfl, bel⟩
 case round =>
  obtain ⟨rfl, hb⟩ := hrel
  go_wp2
  go_ret
  exact ⟨rfl, bel⟩
theorem zxt (w : World) : Calls Tryz.prog 186 #[.agg #[.slice none 0 0, .slice none 0 0, .slice none 0 0]] w fun e w' => e = .returned (.int .i64 0) ∧ Below w.heap.size w w' := by
 have hmm := @run_makeMap Tryz.prog
 go_enter Tryz.func186, Tryz.ntmps186
 go_wp2
 go_loopw [17] (fun i wr => i = .int .i64 0 ∧ wr = w.alloc (.cells #[.slice none 0 0, .slice none 0 0, .slice none 0 0] 255)) (fun _ _ => 0)
 case atStart => exact ⟨rfl, rfl⟩
 case round =>
  obtain ⟨rfl, rfl⟩ := hrel
  go_wp2
  go_loopw [35] (fun i wr => i = .int .i64 0 ∧ RowAt wr w.heap.size 255 #[.slice none 0 0, .slice none 0 0, .slice none 0 0] ∧ Below w.heap.size w wr) (fun _ _ => 0)
  case atStart => exact ⟨rfl, RowAt.alloc (RowAt.new _ _ _) _, bel⟩
  case round =>
   obtain ⟨rfl, hr, hb⟩ := hrel
   obtain ⟨x1, x2, x3, x4, x5, x6⟩ := zaa hr
   go_wp2_with fail
   refine (zme _).mono ?_
   rintro e w1 ⟨rfl, hb1⟩
   go_wp2
   go_ret
   exact ⟨rfl, bel⟩
theorem zlu (w : World) : Calls Tryz.prog 185 #[.agg #[.string ⟨#[]⟩, .slice none 0 0, .slice none 0 0, .slice none 0 0, .slice none 0 0, .slice none 0 0, .slice none 0 0, .slice none 0 0, .slice none 0 0]] w fun e w' => e = .returned (.int .i64 0) ∧ Below w.heap.size w w' := by
 go_enter Tryz.func185, Tryz.ntmps185
 go_wp2_with fail
 refine (zn1 _).mono ?_
 rintro e w1 ⟨rfl, hb⟩
 go_wp2_with fail
 refine (zxt _).mono ?_
 rintro e w2 ⟨rfl, hb2⟩
 go_wp2
 go_ret
 exact ⟨rfl, bel⟩
theorem zod (w : World) : Calls Tryz.prog 188 #[.agg #[.string ⟨#[]⟩, .slice none 0 0, .slice none 0 0, .slice none 0 0, .slice none 0 0, .slice none 0 0, .slice none 0 0, .slice none 0 0, .slice none 0 0]] w fun e w' => e = .returned (.int .i64 0) ∧ Below w.heap.size w w' := by
 go_enter Tryz.func188, Tryz.ntmps188
 go_wp2_with fail
 refine (zsu _).mono ?_
 rintro e w1 ⟨rfl, hb⟩
 go_wp2
 go_ret
 exact ⟨rfl, bel⟩
theorem zms (w : World) : Calls Tryz.prog 190 #[.agg #[.string ⟨#[]⟩, .slice none 0 0, .slice none 0 0, .slice none 0 0, .slice none 0 0, .slice none 0 0, .slice none 0 0, .slice none 0 0, .slice none 0 0]] w fun e w' => e = .returned (.int .i64 0) ∧ Below w.heap.size w w' := by
 go_enter Tryz.func190, Tryz.ntmps190
 go_wp2_with fail
 refine (zqu _).mono ?_
 rintro e w1 ⟨rfl, hb⟩
 go_wp2
 go_ret
 exact ⟨rfl, bel⟩
theorem zwa (w : World) : Calls Tryz.prog 193 #[.agg #[.string ⟨#[]⟩, .slice none 0 0, .slice none 0 0, .slice none 0 0, .slice none 0 0, .slice none 0 0, .slice none 0 0, .slice none 0 0, .slice none 0 0]] w fun e w' => e = .returned (.int .i64 0) ∧ Below w.heap.size w w' := by
 go_enter Tryz.func193, Tryz.ntmps193
 go_wp2_with fail
 refine (zvi _).mono ?_
 rintro e w1 ⟨rfl, hb⟩
 go_wp2
 go_ret
 exact ⟨rfl, bel⟩
theorem zx5 (w : World) : Calls Tryz.prog 195 #[.agg #[.string ⟨#[]⟩, .slice none 0 0, .slice none 0 0, .slice none 0 0, .slice none 0 0, .slice none 0 0, .slice none 0 0, .slice none 0 0, .slice none 0 0]] w fun e w' => e = .returned (.int .i64 0) ∧ Below w.heap.size w w' := by
 go_enter Tryz.func195, Tryz.ntmps195
 go_wp2_with fail
 refine (zwu _).mono ?_
 rintro e w1 ⟨rfl, hb⟩
 go_wp2
 go_ret
 exact ⟨rfl, bel⟩
theorem zvo (w : World) : Calls Tryz.prog 43 #[.agg #[.string ⟨#[]⟩, .slice none 0 0, .slice none 0 0, .slice none 0 0, .slice none 0 0, .slice none 0 0, .slice none 0 0, .slice none 0 0, .slice none 0 0]] w fun e w' => e = .returned (.int .i64 0) ∧ Below w.heap.size w w' := by
 refine (zkf ⟨#[]⟩ _ _ _ _ _ _ _ _ (fun _ => 0) w fun k hk => ?_).mono fun e w' h => ⟨h.1, h.2⟩
 have : k = 0 ∨ k = 1 ∨ k = 2 ∨ k = 3 ∨ k = 4 ∨ k = 5 ∨ k = 6 := by omega
 rcases this with rfl | rfl | rfl | rfl | rfl | rfl | rfl
 · exact fun W _ => zee ⟨#[]⟩ _ _ _ _ _ _ _ _ W (by decide)
 · exact fun W _ => zlu W
 · exact fun W _ => zod W
 · exact fun W _ => zms W
 · exact fun W _ => zpx W
 · exact fun W _ => zwa W
 exact fun W _ => zx5 W
theorem zmu (w : World) : Calls Tryz.prog 14 #[.agg #[.string ⟨#[]⟩, .slice none 0 0, .slice none 0 0, .slice none 0 0, .slice none 0 0, .slice none 0 0, .slice none 0 0, .slice none 0 0, .slice none 0 0]] w fun e w' => ∃ g cap, e = .returned (.tuple #[.slice (some ⟨g, 0, none⟩) 2 cap, .int .i64 0]) ∧ ListAt 2 entA w' (.slice (some ⟨g, 0, none⟩) 2 cap) [(1, exHead), (11, exEnd)] ∧ Below w.heap.size w w' := by
 have s0 := RowAt.new w 31 #[.string ⟨#[]⟩, .slice none 0 0, .slice none 0 0, .slice none 0 0, .slice none 0 0, .slice none 0 0, .slice none 0 0, .slice none 0 0, .slice none 0 0]
 have H0 := hid s0
 clear s0
 go_enter Tryz.func14, Tryz.ntmps14
 go_wp2_with fail
 refine (zvo _).mono ?_
 rintro e w1 ⟨rfl, hb1⟩
 have s1 := H0.out.run hb1
 obtain ⟨x1, x2, x3, x4, x5, x6⟩ := zaa s1
 have hb : Below w.heap.size w w1 := bel
 have HB := hid hb
 clear s1 hb1 hb
 go_wp2_with fail
 refine (ztj _).mono ?_
 rintro e w2 ⟨g, cap, rfl, hL, hb2⟩
 have H2 := hid (And.intro hL (HB.out.trans (hb2.mono HB.out.size)))
 clear hL hb2
 go_wp2
 go_ret2
 exact ⟨g, cap, rfl, H2.out⟩
theorem zuk (w : World) : Calls Tryz.prog 22 #[.agg #[.string ⟨#[]⟩, .slice none 0 0, .slice none 0 0, .slice none 0 0, .slice none 0 0, .slice none 0 0, .slice none 0 0, .slice none 0 0, .slice none 0 0]] w fun e w' => e = .returned (.tuple #[.string exFile, .int .i64 0]) ∧ Below w.heap.size w w' := by
 have s0 := RowAt.new w 31 #[.string ⟨#[]⟩, .slice none 0 0, .slice none 0 0, .slice none 0 0, .slice none 0 0, .slice none 0 0, .slice none 0 0, .slice none 0 0, .slice none 0 0]
 have H0 := hid s0
 clear s0
 go_enter Tryz.func22, Tryz.ntmps22
 go_wp2_with fail
 refine (zmu _).mono ?_
 rintro e w1 ⟨g, cap, rfl, hL, hb1⟩
 have hb : Below w.heap.size w w1 := bel
 have HB := hid (And.intro hb hL)
 clear hb1 hb hL
 go_wp2_with fail
 refine (zdg _ [(1, exHead), (11, exEnd)] _ HB.out.2 (by decide)).mono ?_
 rintro e w2 ⟨rfl, hb2⟩
 have HC := hid (HB.out.1.trans (hb2.mono HB.out.1.size))
 rw [zgd]
 have hsz : exFile.size = 13 := by rfl
 obtain ⟨f, hf⟩ : ∃ f, exFile = f := ⟨_, rfl⟩
 rw [hf] at hsz ⊢
 have HF := hid hf
 clear hf
 clear hb2
 go_wp2
 go_ret2
 refine ⟨?_, HC.out⟩
 rw [HF.out]
 rfl
theorem zob : ∀ W : World, (Instr.slice 9 (.string exFile) none (some (.int .i64 7)) none).run Tryz.prog W = .ok (.string ⟨#[1, 0, 2, 6, 0, 23, 9]⟩) W := fun W => by kernel_rfl
theorem zoa (w : World) : (Instr.makeSlice 62 (.int .i64 1) (.int .i64 1)).run Tryz.prog w = .ok (.slice (some ⟨w.heap.size, 0, none⟩) 1 1) (w.alloc (.cells #[.int .i64 0, .int .i64 0, .int .i64 0, .int .i64 0, .int .i64 0, .int .i64 0] 142)) := by kernel_rfl
theorem zrt (w : World) : CueAt (w.alloc (.cells #[.int .i64 0, .int .i64 0, .int .i64 0, .int .i64 0, .int .i64 0, .int .i64 0] 142)) (.slice none 0 0) (.slice (some ⟨w.heap.size, 0, none⟩) 1 1) exCue := by
 refine ⟨.inl ⟨rfl, _, _, rfl⟩, .inr ⟨by decide, by decide, w.heap.size, 0, 1, rfl, by simp, fun j hj => ?_⟩⟩
 have hj6 : j < 6 := by simpa [exCue] using hj
 have : j = 0 ∨ j = 1 ∨ j = 2 ∨ j = 3 ∨ j = 4 ∨ j = 5 := by omega
 rcases this with rfl | rfl | rfl | rfl | rfl | rfl <;> simp [genC, exCue, timA]
theorem zt3 : Cue64 exCue := by
 refine ⟨by simp [exCue], ?_, by decide, by decide, by decide, by decide, by decide⟩
 intro m hm
 simp [exCue] at hm
 subst hm
 intro n hn
 simp [timI] at hn
 subst hn
 decide
theorem znt : (⟨#[1, 0, 2, 6, 0, 23, 9, 11, 0, 1, 2, 48, 14]⟩ : ByteArray).extract 0 7 = ⟨#[1, 0, 2, 6, 0, 23, 9]⟩ := by kernel_rfl
theorem zd4 (w : World) : Calls Tryz.prog 13 #[] w fun e w' => e = .returned (.bool true) ∧ Below w.heap.size w w' := by
 have hmk := zoa
 have hsl := zob
 have hfx : exFile = ⟨#[1, 0, 2, 6, 0, 23, 9, 11, 0, 1, 2, 48, 14]⟩ := rfl
 have hcx := zip
 go_enter Tryz.func13, Tryz.ntmps13
 go_wp2_with fail
 refine (zuk _).mono ?_
 rintro e w1 ⟨rfl, hb1⟩
 have H1 := hid hb1
 clear hb1
 go_wp2_with fail
 refine (zpj exCue (.slice none 0 0) (.slice (some ⟨w1.heap.size, 0, none⟩) 1 1) _ (zrt w1) zt3 (by simp [CapOk]) (by rw [zhs]; decide) (by decide) (by decide)).mono ?_
 rintro e w2 ⟨rfl, hb2⟩
 rw [zip, zj3]
 have H2 := hid (H1.out.trans ((Below.alloc (Below.refl _ _) (Nat.le_refl _) _).trans (hb2.mono (by simp)) |>.mono H1.out.size))
 have L := zut w2
 rw [← znt] at L
 have HL := hid L
 clear hb2 L
 go_wp2_with fail
 refine HL.out.mono ?_
 rintro e w3 ⟨rfl, hb3⟩
 have b3 : Below w.heap.size w (w3.alloc (.cells #[.string ⟨#[]⟩, .slice none 0 0, .slice none 0 0, .slice none 0 0, .slice none 0 0, .slice none 0 0, .slice none 0 0, .slice none 0 0, .slice none 0 0] 31)) := (H2.out.trans (hb3.mono H2.out.size)).alloc (Nat.le_trans H2.out.size hb3.size) _
 have H3 := hid b3
 clear hb3 b3
 go_wp2_with fail
 refine (zu0 _ _ (RowAt.mk (by simp) rfl)).mono ?_
 rintro e w4 ⟨rfl, hb4⟩
 have b4 : Below w.heap.size w (w4.alloc (.cells #[.string ⟨#[]⟩, .slice none 0 0, .slice none 0 0, .slice none 0 0, .slice none 0 0, .slice none 0 0, .slice none 0 0, .slice none 0 0, .slice none 0 0] 31)) := by
  have s3 := H3.out.size
  have s4 := hb4.size
  have h5 := (Below.refl (w3.alloc (.cells #[.string ⟨#[]⟩, .slice none 0 0, .slice none 0 0, .slice none 0 0, .slice none 0 0, .slice none 0 0, .slice none 0 0, .slice none 0 0, .slice none 0 0] 31)).heap.size (w3.alloc (.cells #[.string ⟨#[]⟩, .slice none 0 0, .slice none 0 0, .slice none 0 0, .slice none 0 0, .slice none 0 0, .slice none 0 0, .slice none 0 0, .slice none 0 0] 31))).alloc (Nat.le_refl _) (.cells #[.int .i64 1, .string exOld] 77)
  refine (H3.out.trans ((h5.trans (hb4.mono h5.size)).mono s3)).alloc (Nat.le_trans (Nat.le_trans s3 h5.size) s4) _
 have H4 := hid b4
 clear hb4 b4
 go_wp2
 go_ret
 exact ⟨rfl, H4.out⟩
theorem zdq {w : World} {v : ShowV} {s : ShowD} (h : ShowAt w v s) : ∃ a1 n1 c1 a2 n2 c2 a3 n3 c3 a4 n4 c4 a5 n5 c5 a6 n6 c6 a7 n7 c7 a8 n8 c8, showA s v = #[.string s.title, .slice a1 n1 c1, .slice a2 n2 c2, .slice a3 n3 c3, .slice a4 n4 c4, .slice a5 n5 c5, .slice a6 n6 c6, .slice a7 n7 c7, .slice a8 n8 c8] := by
 obtain ⟨a1, c1, e1⟩ := h.curves.shape
 obtain ⟨a2, c2, e2⟩ := h.profs.shape
 obtain ⟨a3, c3, e3⟩ := h.fixs.shape
 obtain ⟨a4, c4, e4⟩ := h.grps.shape
 obtain ⟨a5, c5, e5⟩ := h.pals.shape
 obtain ⟨a6, c6, e6⟩ := h.lists.shape
 obtain ⟨a7, c7, e7⟩ := h.subs.shape
 obtain ⟨a8, c8, e8⟩ := h.effs.shape
 exact ⟨a1, _, c1, a2, _, c2, a3, _, c3, a4, _, c4, a5, _, c5, a6, _, c6, a7, _, c7, a8, _, c8, by rw [showA, e1, e2, e3, e4, e5, e6, e7, e8]⟩
theorem zdj {w : World} {T B : Nat} {u : Value} {l : List Ent} (h : w.ownsRow B T 2 u l.length (genL entA l)) (hl : l.length ≤ 1000000) : ListAt 2 entA w u l := zft (S := 2) (f := entA) (by decide) zgz h (by omega)
theorem zr9 (s : ShowD) (v : ShowV) (w : World) (h : ShowAt w v s) (h64 : Show64 s) :
   Calls Tryz.prog 3 #[.agg (showA s v)] w fun e w' => e = .returned (.bool true) ∧ Below w.heap.size w w' := by
 have r0 : RowAt (w.alloc (.cells (showA s v) 31)) w.heap.size 31 (showA s v) := RowAt.new _ _ _
 have b0 : Below w.heap.size w (w.alloc (.cells (showA s v) 31)) := bel
 have CF := hid (fun (W : World) (hb : Below w.heap.size w W) => zjg s v W (h.run hb))
 have CP := hid (fun (W : World) (hb : Below w.heap.size w W) => zkq s v W (h.run hb) h64)
 have CR := hid (fun (W : World) (hb : Below w.heap.size w W) => ziu s v W (h.run hb) h64)
 have hfew := zfz (s := s)
 have HF := hid (show (piecesP s).length ≤ 1000000 from by omega)
 generalize piecesP s = ps at CP CR HF
 generalize showE s = se at CP CR
 have H0 := hid (And.intro r0 b0)
 obtain ⟨a1, n1, c1, a2, n2, c2, a3, n3, c3, a4, n4, c4, a5, n5, c5, a6, n6, c6, a7, n7, c7, a8, n8, c8, hsa⟩ := zdq h
 rw [hsa] at CF CP CR H0 r0 ⊢
 clear h h64 hsa b0 hfew
 obtain ⟨x1, x2, x3, x4, x5, x6⟩ := zaa r0
 go_enter Tryz.func3, Tryz.ntmps3
 go_wp2_with fail
 refine (CF.out _ H0.out.2).mono ?_
 rintro e w1 ⟨t, rfl, hb1⟩
 have H1 := hid (And.intro (H0.out.1.run hb1) (H0.out.2.trans (hb1.mono H0.out.2.size)))
 clear hb1 x1 x2 x3 x4 x5 x6 r0
 obtain ⟨x1, x2, x3, x4, x5, x6⟩ := zaa H1.out.1
 cases t with
 | false =>
   go_wp2_with fail
   refine (zd4 w1).mono ?_
   rintro e w2 ⟨rfl, hb2⟩
   have H2 := hid (H1.out.2.trans (hb2.mono H1.out.2.size))
   clear hb2
   go_wp2
   go_ret
   exact ⟨rfl, H2.out⟩
 | true =>
   go_wp2_with fail
   refine (CP.out _ H1.out.2).mono ?_
   rintro e w2 ⟨⟨u, rfl, hown⟩, hb2⟩
   have H2 := hid (And.intro (H1.out.1.run hb2) (And.intro (zdj hown HF.out) (H1.out.2.trans (hb2.mono H1.out.2.size))))
   clear hb2 x1 x2 x3 x4 x5 x6 hown
   obtain ⟨x1, x2, x3, x4, x5, x6⟩ := zaa H2.out.1
   obtain ⟨ua, uc, rfl⟩ := H2.out.2.1.shape
   go_wp2_with fail
   refine (CR.out _ H2.out.2.2).mono ?_
   rintro e w3 ⟨⟨u2, rfl, hown⟩, hb3⟩
   have H3 := hid (And.intro (H2.out.2.1.run hb3) (And.intro (zdj hown HF.out) (H2.out.2.2.trans (hb3.mono H2.out.2.2.size))))
   clear hb3 x1 x2 x3 x4 x5 x6 hown
   obtain ⟨u2a, u2c, rfl⟩ := H3.out.2.1.shape
   have D := hid (zci _ ps w3 H3.out.1 HF.out)
   go_wp2_with fail
   refine D.out.mono ?_
   rintro e w4 ⟨⟨u3, rfl, hown⟩, hb4⟩
   have H4 := hid (And.intro (zdj hown HF.out) (And.intro (H3.out.2.1.run hb4) (H3.out.2.2.trans (hb4.mono H3.out.2.2.size))))
   clear hb4 hown D
   obtain ⟨u3a, u3c, rfl⟩ := H4.out.1.shape
   have E := hid (zl1 _ _ ps w4 H4.out.1 H4.out.2.1)
   go_wp2_with fail
   refine E.out.mono ?_
   rintro e w5 ⟨rfl, hb5⟩
   have H5 := hid (H4.out.2.2.trans (hb5.mono H4.out.2.2.size))
   clear hb5 E
   go_wp2_with fail
   refine (zd4 w5).mono ?_
   rintro e w6 ⟨rfl, hb6⟩
   have H6 := hid (H5.out.trans (hb6.mono H5.out.size))
   clear hb6
   go_wp2
   go_ret
   exact ⟨rfl, H6.out⟩
end Go.Proofs.YtjeigphhepngmaaGreatDoor
