/- -/
import Derived.BigRegion
import Derived.Deep.RegionHeld3
import Derived.Test.YtjeigphhepngmaaGreatDoorZk
import Derived.Lib.AppendStr
import Derived.Test.YtjeigphhepngmaaGreatDoorAx
import Derived.Test.YtjeigphhepngmaaGreatDoorJb
import Derived.Test.YtjeigphhepngmaaGreatDoorD5
import Derived.Test.YtjeigphhepngmaaGreatDoorYe
namespace Go.Proofs.YtjeigphhepngmaaGreatDoor
open Go.RowKit
open Go.Lib (hid)
set_option maxHeartbeats 8000000
set_option linter.unusedSimpArgs false
set_option linter.unusedVariables false
set_option maxRecDepth 100000
def headB (c : UInt8) (d : ByteArray) : List UInt8 := [c] ++ wordB d.size ++ d.data.toList
def packB (c : UInt8) (d : ByteArray) : List UInt8 := headB c d ++ wordB (sumN (headB c d))
theorem zwf (c : UInt8) (W : World) (g : Nat) (h : RowAt W g 5 #[.int .u8 (c.toNat : Int)]) : (convert 59 9 (.slice (some ⟨g, 0, none⟩) 1 1)).run Tryz.prog W = .ok (.string (str [c])) W := by
 rw [← zdl]
 refine run_convert_bytes_arg _ 59 5 Tryz.underlying59 Tryz.underlying5 g 0 1 1 _ (by simp) (fun i hi => ?_) 9 Tryz.underlying9
 have : i = 0 := by omega
 subst this
 have := (zaa h).1 0
 simpa using this
theorem zq4 (c : UInt8) (d : ByteArray) (w : World) (hd : d.size ≤ 65535) :
   Calls Tryz.prog 148 #[.agg #[.int .i64 (c.toNat : Int), .string d]] w fun e w' => e = .returned (.tuple #[.string (str (packB c d)), .int .i64 0]) ∧ Below w.heap.size w w' := by
 have hc := c.toNat_lt
 have h1 : ¬ (c.toNat : Int) < 0 := by omega
 have h2 : ¬ (255 : Int) < (c.toNat : Int) := by omega
 have h3 : ¬ (65535 : Int) < (d.size : Int) := by omega
 have h4 : IntKind.u8.wrap (c.toNat : Int) = (c.toNat : Int) := IntWalk.u8_in _ (by omega)
 have h5 : (c.toNat : Int) % 256 = (c.toNat : Int) := by omega
 have HWd := hid (fun W => zgm d.size W (by omega))
 obtain ⟨Wb, hWb⟩ : ∃ W, w.alloc (.cells #[.int .i64 (c.toNat : Int), .string d] 77) = W := ⟨_, rfl⟩
 have r0 : RowAt Wb w.heap.size 77 #[.int .i64 (c.toNat : Int), .string d] := by rw [← hWb]; exact RowAt.new _ _ _
 have B0 : Below w.heap.size w Wb := by rw [← hWb]; exact bel
 obtain ⟨x1, x2, x3, x4, x5, x6⟩ := zaa r0
 have hl1 : (str [c]).size = 1 := by rw [zar]; rfl
 have hl2 : (str (wordB d.size)).size = 2 := by rw [zar]; rfl
 have hs1 : ¬ 9223372036854775807 < (str [c]).size + (str (wordB d.size)).size := by omega
 have hs2 : ¬ 9223372036854775807 < (str [c] ++ str (wordB d.size)).size + d.size := by rw [ByteArray.size_append]; omega
 have hs1' : ¬ (9223372036854775807 : Int) < ((str [c]).size : Int) + ((str (wordB d.size)).size : Int) := by omega
 have hs2' : ¬ (9223372036854775807 : Int) < ((str [c] ++ str (wordB d.size)).size : Int) + (d.size : Int) := by rw [ByteArray.size_append]; omega
 have hs4 : ¬ 9223372036854775807 < (str [c]).size + (str (wordB d.size)).size + d.size := by omega
 have hH : str [c] ++ str (wordB d.size) ++ d = str (headB c d) := by
   rw [zcz, zcz, zbj]
   rfl
 have HSum := hid (show ∀ W, Calls Tryz.prog 238 #[.string (str [c] ++ str (wordB d.size) ++ d)] W fun e w' => e = .returned (.int .i64 (sumN (headB c d) : Nat)) ∧ w' = W from fun W => by
   have := zeq (str (headB c d)) W (by rw [← hH, ByteArray.size_append, ByteArray.size_append]; omega)
   rw [hH]
   exact this)
 have HW2 := hid (fun W => zgm (sumN (headB c d)) W (ze7 _))
 have hl3 : (str (wordB (sumN (headB c d)))).size = 2 := by rw [zar]; rfl
 have hs5 : ¬ 9223372036854775807 < (str [c]).size + (str (wordB d.size)).size + d.size + (str (wordB (sumN (headB c d)))).size := by omega
 have HP := hid (show str [c] ++ str (wordB d.size) ++ d ++ str (wordB (sumN (headB c d))) = str (packB c d) from by rw [hH, zcz, zbj]; rfl)
 have HKp := hid (fun (W : World) (hb : Below Wb.heap.size Wb W) => And.intro ((zaa (r0.run hb)).1 0) ((zaa (r0.run hb)).1 1))
 have HB := hid B0
 have hcv := zwf c
 clear hd hc hl1 hl2 hl3 hH
 go_enter Tryz.func148, Tryz.ntmps148
 go_wp2
 refine wp_region_noPanic ?_
 refine wp_region_held_drew (S := (fun W => W.cell? ⟨w.heap.size, 0, none⟩ = some (.int .i64 (c.toNat : Int)) ∧ W.cell? ⟨w.heap.size, 1, none⟩ = some (.string d))) (by kernel_rfl) ?_ (fun hHeld => ?_)
 · exact ⟨x1 0, x1 1⟩
 (refine tk 0 ?_)
 (refine wpAnyH_take (i := 1) (oi := _) (v := ?_) rfl (by kernel_rfl) (by kernel_rfl) (by kernel_rfl) (fun _ _ _ h => h) (Or.inl ⟨by rfl, ?_⟩) (by assumption) ?_; rotate_left; (focus (intro w' hSw; (try dsimp only at hSw); go_simp; (try with_reducible rfl); done)); (try simp only [Act.put, List.setIfInBounds_toArray, List.getElem_toArray]))
 (refine tk 2 ?_)
 (refine tk 5 ?_)
 (refine tk 6 ?_)
 (refine tk 7 ?_)
 (refine tk 10 ?_)
 (refine tk 11 ?_)
 refine wpAnyH_ready (rs := [3, 8]) (by kernel_rfl) (by simp) (AllReadyH.cons (o := _) rfl (fun K hK => ?_) (AllReadyH.cons (o := _) rfl (fun K hK => ?_) (AllReadyH.nil)))
 · skip
   go_simp
   refine hK.out _ _ ?_ (fun hHeld => ?_)
   · (first | go_keep | exact HKp.out _ bel)
   clear hK K
   (try simp only [Act.put, List.setIfInBounds_toArray, List.set_cons_zero, List.set_cons_succ, List.getElem_toArray, List.getElem_cons_succ, List.getElem_cons_zero])
   refine wpAnyH_ready (rs := [4, 8]) (by kernel_rfl) (by simp) (AllReadyH.cons (o := _) rfl (fun K hK => ?_) (AllReadyH.cons (o := _) rfl (fun K hK => ?_) (AllReadyH.nil)))
   · skip
     go_simp
     (rw [hcv]; rotate_left; (focus (first | exact RowAt.mk rfl rfl | exact RowAt.drew (RowAt.mk rfl rfl) | exact RowAt.run (RowAt.mk rfl rfl) (by assumption) | exact RowAt.run (RowAt.drew (RowAt.mk rfl rfl)) (by assumption) | (trace_state; fail))); go_simp)
     refine hK.out _ _ ?_ (fun hHeld => ?_)
     · (first | go_keep | exact HKp.out _ bel)
     clear hK K
     (try simp only [Act.put, List.setIfInBounds_toArray, List.set_cons_zero, List.set_cons_succ, List.getElem_toArray, List.getElem_cons_succ, List.getElem_cons_zero])
     refine wpAnyH_ready (rs := [8]) (by kernel_rfl) (by simp) (AllReadyH.cons (o := _) rfl (fun K hK => ?_) (AllReadyH.nil))
     go_simp
     (refine (HWd.out _).mono ?_; rintro e wd ⟨rfl, hbd⟩; (have hsz : w.heap.size ≤ wd.heap.size := (by have q1 := hbd.size; have q2 := HB.out.size; simp at q1; omega)); go_simp)
     refine hK.out _ _ ?_ (fun hHeld => ?_)
     · (first | go_keep | exact HKp.out _ bel)
     clear hK K
     (try simp only [Act.put, List.setIfInBounds_toArray, List.set_cons_zero, List.set_cons_succ, List.getElem_toArray, List.getElem_cons_succ, List.getElem_cons_zero])
     (refine tk 9 ?_)
     (refine tk 12 ?_)
     (refine tk 13 ?_)
     refine wpAnyH_done (by kernel_rfl) ?_ _
     refine NoPanic.normal ?_
     go_wp2_with fail
     refine (HSum.out _).mono ?_
     rintro e w5 ⟨rfl, rfl⟩
     go_wp2_with fail
     refine (HW2.out _).mono ?_
     rintro e w6 ⟨rfl, hb6⟩
     go_wp2
     go_ret2
     exact ⟨by rw [HP.out]; rfl, bel⟩
   skip
   go_simp
   (refine (HWd.out _).mono ?_; rintro e wd ⟨rfl, hbd⟩; (have hsz : w.heap.size ≤ wd.heap.size := (by have q1 := hbd.size; have q2 := HB.out.size; simp at q1; omega)); go_simp)
   refine hK.out _ _ ?_ (fun hHeld => ?_)
   · (first | go_keep | exact HKp.out _ bel)
   clear hK K
   (try simp only [Act.put, List.setIfInBounds_toArray, List.set_cons_zero, List.set_cons_succ, List.getElem_toArray, List.getElem_cons_succ, List.getElem_cons_zero])
   refine wpAnyH_ready (rs := [4]) (by kernel_rfl) (by simp) (AllReadyH.cons (o := _) rfl (fun K hK => ?_) (AllReadyH.nil))
   go_simp
   (rw [hcv]; rotate_left; (focus (first | exact RowAt.mk rfl rfl | exact RowAt.drew (RowAt.mk rfl rfl) | exact RowAt.run (RowAt.mk rfl rfl) (by assumption) | exact RowAt.run (RowAt.drew (RowAt.mk rfl rfl)) (by assumption) | (trace_state; fail))); go_simp)
   refine hK.out _ _ ?_ (fun hHeld => ?_)
   · (first | go_keep | exact HKp.out _ bel)
   clear hK K
   (try simp only [Act.put, List.setIfInBounds_toArray, List.set_cons_zero, List.set_cons_succ, List.getElem_toArray, List.getElem_cons_succ, List.getElem_cons_zero])
   (refine tk 9 ?_)
   (refine tk 12 ?_)
   (refine tk 13 ?_)
   refine wpAnyH_done (by kernel_rfl) ?_ _
   refine NoPanic.normal ?_
   go_wp2_with fail
   refine (HSum.out _).mono ?_
   rintro e w5 ⟨rfl, rfl⟩
   go_wp2_with fail
   refine (HW2.out _).mono ?_
   rintro e w6 ⟨rfl, hb6⟩
   go_wp2
   go_ret2
   exact ⟨by rw [HP.out]; rfl, bel⟩
 skip
 go_simp
 (refine (HWd.out _).mono ?_; rintro e wd ⟨rfl, hbd⟩; (have hsz : w.heap.size ≤ wd.heap.size := (by have q1 := hbd.size; have q2 := HB.out.size; simp at q1; omega)); go_simp)
 refine hK.out _ _ ?_ (fun hHeld => ?_)
 · (first | go_keep | exact HKp.out _ bel)
 clear hK K
 (try simp only [Act.put, List.setIfInBounds_toArray, List.set_cons_zero, List.set_cons_succ, List.getElem_toArray, List.getElem_cons_succ, List.getElem_cons_zero])
 refine wpAnyH_ready (rs := [3]) (by kernel_rfl) (by simp) (AllReadyH.cons (o := _) rfl (fun K hK => ?_) (AllReadyH.nil))
 go_simp
 refine hK.out _ _ ?_ (fun hHeld => ?_)
 · (first | go_keep | exact HKp.out _ bel)
 clear hK K
 (try simp only [Act.put, List.setIfInBounds_toArray, List.set_cons_zero, List.set_cons_succ, List.getElem_toArray, List.getElem_cons_succ, List.getElem_cons_zero])
 refine wpAnyH_ready (rs := [4]) (by kernel_rfl) (by simp) (AllReadyH.cons (o := _) rfl (fun K hK => ?_) (AllReadyH.nil))
 go_simp
 (rw [hcv]; rotate_left; (focus (first | exact RowAt.mk rfl rfl | exact RowAt.drew (RowAt.mk rfl rfl) | exact RowAt.run (RowAt.mk rfl rfl) (by assumption) | exact RowAt.run (RowAt.drew (RowAt.mk rfl rfl)) (by assumption) | (trace_state; fail))); go_simp)
 refine hK.out _ _ ?_ (fun hHeld => ?_)
 · (first | go_keep | exact HKp.out _ bel)
 clear hK K
 (try simp only [Act.put, List.setIfInBounds_toArray, List.set_cons_zero, List.set_cons_succ, List.getElem_toArray, List.getElem_cons_succ, List.getElem_cons_zero])
 (refine tk 9 ?_)
 (refine tk 12 ?_)
 (refine tk 13 ?_)
 refine wpAnyH_done (by kernel_rfl) ?_ _
 refine NoPanic.normal ?_
 go_wp2_with fail
 refine (HSum.out _).mono ?_
 rintro e w5 ⟨rfl, rfl⟩
 go_wp2_with fail
 refine (HW2.out _).mono ?_
 rintro e w6 ⟨rfl, hb6⟩
 go_wp2
 go_ret2
 exact ⟨by rw [HP.out]; rfl, bel⟩
theorem zsq (c : UInt8) (d : ByteArray) (w : World) (hd : 65535 < d.size) :
  Calls Tryz.prog 148 #[.agg #[.int .i64 (c.toNat : Int), .string d]] w fun e w' => e = .returned (.tuple #[.string ⟨#[]⟩, .int .i64 13]) ∧ Below w.heap.size w w' := by
 have hc := c.toNat_lt
 have h1 : ¬ (c.toNat : Int) < 0 := by omega
 have h2 : ¬ (255 : Int) < (c.toNat : Int) := by omega
 have h3 : (65535 : Int) < (d.size : Int) := by omega
 clear hd
 go_enter Tryz.func148, Tryz.ntmps148
 go_wp2
 go_ret2
 exact ⟨rfl, bel⟩
abbrev Ent := UInt8 × ByteArray
def entA (x : Ent) : Array Value := #[.int .i64 (x.1.toNat : Int), .string x.2]
def joinB (l : List Ent) : List UInt8 := l.flatMap fun x => packB x.1 x.2
def entOk (x : Ent) : Bool := decide (x.2.size ≤ 65535)
def joinV (l : List Ent) : Value := if l.all entOk = true then .tuple #[.string (str (joinB l)), .int .i64 0] else .tuple #[.string ⟨#[]⟩, .int .i64 13]
theorem zeb (x : Ent) : (packB x.1 x.2).length = x.2.size + 5 := by
 simp [packB, headB, wordB]
theorem zhp (l : List Ent) (x : Ent) : joinB (l ++ [x]) = joinB l ++ packB x.1 x.2 := by simp [joinB]
theorem zdp (l : List Ent) (h : ∀ x ∈ l, entOk x = true) : (joinB l).length ≤ l.length * 65540 := by
 induction l with
 | nil => simp [joinB]
 | cons x l ih =>
   have h1 := ih fun y hy => h y (List.mem_cons_of_mem _ hy)
   have h2 := h x (List.mem_cons_self ..)
   simp only [entOk, decide_eq_true_eq] at h2
   have h3 := zeb x
   simp only [joinB, List.flatMap_cons, List.length_append, List.length_cons] at h1 ⊢
   omega
theorem zp1 (s : ByteArray) : Lib.strCells s = u8L s.data.toList := by
 rw [Lib.strCells_eq]
 rfl
theorem zha {w : World} {b off : Nat} {l : List Ent} (hc : ∀ j, j < l.length * 2 → w.cell? ⟨b, off + j, none⟩ = genC 2 entA l j) (k : Nat) (d : Ent) (hd : l[k]? = some d) :
  w.cell? ⟨b, off + k * 2, none⟩ = some (.int .i64 (d.1.toNat : Int)) ∧ w.cell? ⟨b, off + k * 2 + 1, none⟩ = some (.string d.2) := by
 obtain ⟨hk, hdk⟩ := List.getElem?_eq_some_iff.1 hd
 have g := fun i hi => za2 (S := 2) (f := entA) (by decide) hc k hk i hi
 rw [hdk] at g
 exact ⟨g 0 (by decide), g 1 (by decide)⟩
theorem zdg (v : Value) (l : List Ent) (w : World) (hv : ListAt 2 entA w v l) (hl : l.length ≤ 1000000) :
   Calls Tryz.prog 63 #[v] w fun e w' => e = .returned (joinV l) ∧ Below w.heap.size w w' := by
 obtain ⟨i0, hi, hz0, hz1, hz2⟩ := info_parts Tryz.info_byte
 rcases hv with ⟨h0, a, cap, rfl⟩ | ⟨h0, h1, b, off, cap, rfl, hlt, hc⟩
 · have hl0 : l = [] := List.eq_nil_of_length_eq_zero h0
   subst hl0
   have hcv := Tryz.conv_nil
   go_enter Tryz.func63, Tryz.ntmps63
   go_wp2
   refine wp_loop_rounds 1 ?_
   rw [rounds_succ]
   go_wp2
   go_ret2
   exact ⟨rfl, bel⟩
 have h3 : (l.length : Int) ≤ 1000000 := by omega
 have h4 : (0 : Int) < (l.length : Int) := by omega
 have HC := hid hc
 clear hc
 go_enter Tryz.func63, Tryz.ntmps63
 go_wp2
 go_loopw [4, 6, 7, 8, 11] (fun v _ _ _ i wr => ∃ k : Nat, k ≤ l.length ∧ i = .int .i64 k ∧ Hid ((∀ x ∈ l.take k, entOk x = true) ∧ OwnB wr w.heap.size v (joinB (l.take k)) ∧ Below w.heap.size w wr)) (fun _ _ _ _ i _ => l.length - (intOf i).toNat)
 case atStart => exact ⟨0, Nat.zero_le _, rfl, hid ⟨by simp, zld _ _, Below.refl _ _⟩⟩
 case round =>
   obtain ⟨k, hk, rfl, hh⟩ := hrel
   obtain ⟨hok, hown, hb0⟩ := hh.out
   have hjl := zdp _ hok
   have hkl : (l.take k).length = k := by simp; omega
   by_cases hlt2 : k < l.length
   · have hlt3 : (k : Int) < (l.length : Int) := by omega
     have hk0 : (0 : Int) ≤ (k : Int) := by omega
     have hw1 : ∀ j, j < l.length * 2 → wr.cell? ⟨b, off + j, none⟩ = genC 2 entA l j := fun j hj => (hb0.cell (p := ⟨b, off + j, none⟩) hlt).trans (HC.out j hj)
     obtain ⟨d, hd⟩ : ∃ d, l[k]? = some d := ⟨l[k], List.getElem?_eq_getElem hlt2⟩
     obtain ⟨e0, e1⟩ := zha hw1 k d hd
     have hts := zaf hd
     have hmem : d ∈ l := List.mem_of_getElem? hd
     obtain ⟨c, d⟩ := d
     simp only at e0 e1
     have hbs := hb0.size
     by_cases hdl : d.size ≤ 65535
     · have CP := hid (fun W => zq4 c d W hdl)
       have hpl := zeb (c, d)
       simp only at hpl
       have hsl : (str (packB c d)).size = d.size + 5 := by rw [zar, hpl]
       have HT := hid hts
       have HOK := hid (show ∀ x ∈ l.take (k + 1), entOk x = true from by
        rw [hts]
        intro x hx
        rcases List.mem_append.1 hx with hx | hx
        · exact hok x hx
        simp at hx; subst hx; simpa [entOk] using hdl)
       have HH := hid (And.intro hown hb0)
       clear hw1 hd hts hmem hok hh hown hb0 hpl
       go_wp2_with fail
       refine (CP.out _).mono ?_
       rintro e w1 ⟨rfl, hb1⟩
       have hb1' : Below wr.heap.size wr w1 := bel
       have hown1 : OwnB w1 w.heap.size _ (joinB (l.take k)) := zcw HH.out.1 hb1'
       have hb1s := hb1'.size
       have HB1 := hid (HH.out.2.trans (hb1'.mono hbs))
       clear hb1 hb1'
       go_wp2_with (at_builtin; refine Lib.wpList_append_own_string _ rfl _ _ 59 9 rfl w.heap.size 5 i0 Tryz.underlying59 Tryz.underlying9 hi hz0 hz1 hz2 _ _ _ rfl hown1 (str (packB c d)) rfl ?c3 ?c4 ?c5 ?_)
       case c3 => unfold maxLen; omega
       case c4 => omega
       case c5 => omega
       intro v' w2 hown' hgrow _
       have hb2 := zb9 HB1.out hown1 (Nat.le_refl _) hgrow (by omega)
       have HN := hid (show OwnB w2 w.heap.size v' (joinB (l.take (k + 1))) ∧ Below w.heap.size w w2 from ⟨by
        rw [HT.out, zhp]
        unfold OwnB
        rw [List.length_append, u8L, List.map_append, show (packB (c, d).1 (c, d).2).length = d.size + 5 from zeb (c, d)]
        have hq := hown'
        rw [zp1, zbj] at hq
        exact hq, hb2⟩)
       clear hown' hgrow hown1 hb2
       go_wp2
       go_roundw
       case rel => exact ⟨k + 1, by omega, by go_num, hid ⟨HOK.out, HN.out.1, HN.out.2⟩⟩
       case measure => simp [intOf]; omega
     have CP := hid (fun W => zsq c d W (by omega))
     have HJ := hid (show joinV l = .tuple #[.string ⟨#[]⟩, .int .i64 13] from if_neg (by
       intro hall
       have := List.all_eq_true.1 hall _ hmem
       simp [entOk] at this
       omega))
     have HH := hid hb0
     clear hw1 hd hts hmem hok hh hown hb0
     go_wp2_with fail
     refine (CP.out _).mono ?_
     rintro e w1 ⟨rfl, hb1⟩
     have HB1 := hid (show Below w.heap.size w w1 from HH.out.trans ((show Below wr.heap.size wr w1 from bel).mono hbs))
     clear hb1
     go_wp2
     go_ret2
     exact ⟨by rw [HJ.out]; rfl, HB1.out⟩
   obtain rfl : k = l.length := by omega
   rw [List.take_length] at hown hok
   have hcv := zle hown
   have HJ := hid (show joinV l = .tuple #[.string (str (joinB l)), .int .i64 0] from if_pos (List.all_eq_true.2 hok))
   have HB1 := hid hb0
   clear hown hok hh hb0 hjl hkl
   go_wp2
   go_ret2
   exact ⟨by rw [HJ.out]; rfl, HB1.out⟩
def ptB (d : Pt) : List UInt8 := intsB [d.1, d.2]
def ptsB (l : List Pt) : List UInt8 := intB l.length ++ l.flatMap ptB
def slotB (d : SlotD) : List UInt8 := textB d.name ++ intsB [d.lo, d.hi]
def featI (d : FeatD) : List Int := [d.attr, d.bits, d.coarse, d.fine, d.curve, d.home, d.low, d.high]
def featB (d : FeatD) : List UInt8 := intsB (featI d) ++ intB (truthI d.snap) ++ intB d.wheel.length ++ d.wheel.flatMap slotB
def profB (d : ProfD) : List UInt8 := textB d.name ++ intsB [d.foot, d.watts] ++ intB d.feats.length ++ d.feats.flatMap featB
def fixB (d : FixD) : List UInt8 := intsB [d.ch, d.part] ++ textB d.prof ++ intsB [d.uni, d.addr, d.phase] ++ textB d.cable
def grpB (d : GrpD) : List UInt8 := intB d.num ++ intB d.chs.length ++ d.chs.flatMap intB
def hueI (d : HueD) : List Int := [d.ch, d.at_, d.lev]
def hueB (d : HueD) : List UInt8 := intsB (hueI d)
def palB (d : PalD) : List UInt8 := intB d.num ++ intB d.hues.length ++ d.hues.flatMap hueB
def lstB (d : LstD) : List UInt8 := intsB [d.num, d.pri]
def gainI (d : GainD) : List Int := [d.ch, d.at_, d.lev]
def gainB (d : GainD) : List UInt8 := intsB (gainI d)
def subB (d : SubD) : List UInt8 := intsB [d.num, d.pri] ++ intB (truthI d.inh) ++ intB d.gains.length ++ d.gains.flatMap gainB
def effB (d : EffD) : List UInt8 := intsB [d.num, d.attr] ++ ptsB d.wave ++ intsB [d.per, d.spr, d.size]
def ent (k : UInt8) (l : List UInt8) : Ent := (k, str l)
def lstEs (d : LstD) : List Ent := ent 7 (lstB d) :: d.cues.map fun c => ent 8 (cueB c)
def partsL (s : ShowD) : List Ent :=
 ent 1 (intB 3 ++ textB s.title) :: (s.curves.map (fun c => ent 2 (ptsB c)) ++ (s.profs.map (fun d => ent 3 (profB d)) ++ (s.fixs.map (fun d => ent 4 (fixB d)) ++ (s.grps.map (fun d => ent 5 (grpB d)) ++ (s.pals.map (fun d => ent 6 (palB d)) ++
  (s.lists.flatMap lstEs ++ (s.subs.map (fun d => ent 9 (subB d)) ++ s.effs.map (fun d => ent 10 (effB d)))))))))
def piecesL (s : ShowD) : List Ent := partsL s ++ [ent 11 (intB (partsL s).length)]
def Len48 (s : ByteArray) : Prop := s.size ≤ 140737488351232
structure Feat64 (d : FeatD) : Prop where
 ints : Ints64 (featI d)
 wheel : ∀ s ∈ d.wheel, Len48 s.name ∧ Ints64 [s.lo, s.hi]
structure Prof64 (d : ProfD) : Prop where
 name : Len48 d.name
 ints : Ints64 [d.foot, d.watts]
 feats : ∀ f ∈ d.feats, Feat64 f
structure Fix64 (d : FixD) : Prop where
 i1 : Ints64 [d.ch, d.part]
 i2 : Ints64 [d.uni, d.addr, d.phase]
 prof : Len48 d.prof
 cable : Len48 d.cable
structure Cue48 (c : CueD) : Prop where
 ok : Cue64 c
 num : Len48 c.num
 lab : Len48 c.lab
 link : Len48 c.link
structure Show64 (s : ShowD) : Prop where
 title : Len48 s.title
 curves : ∀ c ∈ s.curves, ∀ p ∈ c, Ints64 [p.1, p.2]
 profs : ∀ d ∈ s.profs, Prof64 d
 fixs : ∀ d ∈ s.fixs, Fix64 d
 grps : ∀ d ∈ s.grps, Ints64 [d.num] ∧ Ints64 d.chs
 pals : ∀ d ∈ s.pals, Ints64 [d.num] ∧ ∀ h ∈ d.hues, Ints64 (hueI h)
 lists : ∀ d ∈ s.lists, Ints64 [d.num, d.pri] ∧ ∀ c ∈ d.cues, Cue48 c
 subs : ∀ d ∈ s.subs, Ints64 [d.num, d.pri] ∧ ∀ g ∈ d.gains, Ints64 (gainI g)
 effs : ∀ d ∈ s.effs, Ints64 [d.num, d.attr] ∧ (∀ p ∈ d.wave, Ints64 [p.1, p.2]) ∧ Ints64 [d.per, d.spr, d.size]
theorem zat : ∀ {l : List Int}, Ints64 l → (intsB l).length ≤ 10 * l.length
 | [], _ => by simp [intsB]
 | n :: l, h => by
   have h1 := h n (by simp)
   have h2 := zat (l := l) fun m hm => h m (by simp [hm])
   have h3 := za3 h1.1 h1.2
   rw [zcl, List.length_append, List.length_cons]
   omega
theorem zb3 {n : Nat} (h : n ≤ 1000000) : (intB (n : Int)).length ≤ 10 := za3 (by omega) (by omega)
theorem zez (b : Bool) : (intB (truthI b)).length ≤ 10 := by cases b <;> exact za3 (by decide) (by decide)
theorem zbi {s : ByteArray} {n : Nat} (h : s.size ≤ n) (hn : n ≤ 65535) : (textB s).length ≤ 10 + n := by
 have e : s.data.toList.length = s.size := by simp
 unfold textB
 split
 · simp
 have := zb3 (n := s.size) (by omega)
 rw [List.length_append]
 omega
theorem zbg {α : Type} {f : α → List UInt8} {n : Nat} : ∀ {l : List α}, (∀ x ∈ l, (f x).length ≤ n) → (l.flatMap f).length ≤ n * l.length
 | [], _ => by simp
 | x :: l, h => by
   have h1 := h x (by simp)
   have h2 := zbg (f := f) (n := n) (l := l) fun y hy => h y (by simp [hy])
   rw [List.flatMap_cons, List.length_append, List.length_cons, Nat.mul_add, Nat.mul_one]
   omega
theorem zi6 {l : List Int} (h : Ints64 l) : (l.flatMap intB).length ≤ 10 * l.length := zbg fun n hn => za3 (h n hn).1 (h n hn).2
theorem zx6 {d : Pt} (h : Ints64 [d.1, d.2]) : (ptB d).length ≤ 20 := zat h
theorem zc3 {l : List Pt} (h : ∀ p ∈ l, Ints64 [p.1, p.2]) (hl : l.length ≤ 16) : (ptsB l).length ≤ 330 := by
 have h1 := zb3 (n := l.length) (by omega)
 have h2 := zbg (f := ptB) (n := 20) (l := l) fun p hp => zx6 (h p hp)
 unfold ptsB
 rw [List.length_append]
 omega
theorem zmo {d : SlotD} (h : Ints64 [d.lo, d.hi]) (hn : d.name.size ≤ 24) : (slotB d).length ≤ 54 := by
 have h1 := zat h
 have h2 := zbi hn (by omega)
 unfold slotB
 rw [List.length_append]
 simp at h1
 omega
theorem zkc {d : FeatD} (h : Feat64 d) (hw : d.wheel.length ≤ 16) (hn : ∀ s ∈ d.wheel, s.name.size ≤ 24) : (featB d).length ≤ 964 := by
 have h1 := zat h.ints
 have h2 := zez d.snap
 have h3 := zb3 (n := d.wheel.length) (by omega)
 have h4 := zbg (f := slotB) (n := 54) (l := d.wheel) fun s hs => zmo (h.wheel s hs).2 (hn s hs)
 unfold featB
 simp only [List.length_append]
 simp [featI] at h1
 simp only [featI] at *
 omega
theorem zja {d : ProfD} (h : Prof64 d) (hn : d.name.size ≤ 24) (hf : d.feats.length ≤ 16) (hw : ∀ f ∈ d.feats, f.wheel.length ≤ 16 ∧ ∀ s ∈ f.wheel, s.name.size ≤ 24) : (profB d).length ≤ 16000 := by
 have h1 := zat h.ints
 have h2 := zbi hn (by omega)
 have h3 := zb3 (n := d.feats.length) (by omega)
 have h4 := zbg (f := featB) (n := 964) (l := d.feats) fun f hq => zkc (h.feats f hq) (hw f hq).1 (hw f hq).2
 unfold profB
 simp only [List.length_append]
 simp at h1
 omega
theorem zhc {d : FixD} (h : Fix64 d) (hp : d.prof.size ≤ 24) (hc : d.cable.size ≤ 24) : (fixB d).length ≤ 118 := by
 have h1 := zat h.i1
 have h2 := zat h.i2
 have h3 := zbi hp (by omega)
 have h4 := zbi hc (by omega)
 unfold fixB
 simp only [List.length_append]
 simp at h1 h2
 omega
theorem one64 {n : Int} (h : Ints64 [n]) : -9223372036854775808 ≤ n ∧ n ≤ 9223372036854775807 := h n (by simp)
theorem zfx {d : GrpD} (h : Ints64 [d.num]) (h2 : Ints64 d.chs) (hl : d.chs.length ≤ 256) : (grpB d).length ≤ 2580 := by
 have h1 := za3 (one64 h).1 (one64 h).2
 have h3 := zb3 (n := d.chs.length) (by omega)
 have h4 := zi6 h2
 unfold grpB
 simp only [List.length_append]
 omega
theorem zim {d : PalD} (h : Ints64 [d.num]) (h2 : ∀ x ∈ d.hues, Ints64 (hueI x)) (hl : d.hues.length ≤ 256) : (palB d).length ≤ 7700 := by
 have h1 := za3 (one64 h).1 (one64 h).2
 have h3 := zb3 (n := d.hues.length) (by omega)
 have h4 := zbg (f := hueB) (n := 30) (l := d.hues) fun x hx => by have := zat (h2 x hx); simpa [hueB, hueI] using this
 unfold palB
 simp only [List.length_append]
 omega
theorem zi3 {d : LstD} (h : Ints64 [d.num, d.pri]) : (lstB d).length ≤ 20 := zat h
theorem zk3 {d : SubD} (h : Ints64 [d.num, d.pri]) (h2 : ∀ x ∈ d.gains, Ints64 (gainI x)) (hl : d.gains.length ≤ 128) : (subB d).length ≤ 3880 := by
 have h1 := zat h
 have h3 := zb3 (n := d.gains.length) (by omega)
 have h4 := zbg (f := gainB) (n := 30) (l := d.gains) fun x hx => by have := zat (h2 x hx); simpa [gainB, gainI] using this
 have h5 := zez d.inh
 unfold subB
 simp only [List.length_append]
 simp at h1
 omega
theorem zjw {d : EffD} (h : Ints64 [d.num, d.attr]) (h2 : ∀ p ∈ d.wave, Ints64 [p.1, p.2]) (h3 : Ints64 [d.per, d.spr, d.size]) (hl : d.wave.length ≤ 16) : (effB d).length ≤ 380 := by
 have h1 := zat h
 have h4 := zc3 h2 hl
 have h5 := zat h3
 unfold effB
 simp only [List.length_append]
 simp at h1 h5
 omega
theorem zgc {c : CueD} (h : Cue48 c) (hn : c.num.size ≤ 24) (hl : c.lab.size ≤ 24) (hk : c.link.size ≤ 24) (hm : c.moves.length ≤ 128) (hp : c.parts.length ≤ 4) : (cueB c).length ≤ 8000 := by
 have h1 := zbi hn (by omega)
 have h2 := zbi hl (by omega)
 have h3 := zbi hk (by omega)
 have h4 := zb3 (n := c.moves.length) (by omega)
 have h5 := zb3 (n := c.parts.length) (by omega)
 have h6 := zbg (f := mvB) (n := 50) (l := c.moves) fun x hx => by have := zat (h.ok.moves x hx); simpa [mvB, mvI] using this
 have h7 := zbg (f := timB) (n := 60) (l := c.parts) fun x hx => by have := zat (h.ok.parts x hx); simpa [timB, timI] using this
 have h8 := zez c.block
 have h9 := zez c.mark
 have ha := za3 h.ok.follow.1 h.ok.follow.2
 have hb := za3 h.ok.loops.1 h.ok.loops.2
 unfold cueB
 simp only [List.length_append]
 omega
theorem zax {a b : Int} (h : (if a ≠ 0 then a else b) = 0) : a = 0 ∧ b = 0 := by
 by_cases e : a = 0
 · rw [if_neg (by simpa using e)] at h; exact ⟨e, h⟩
 rw [if_pos e] at h; exact absurd h e
theorem zaj {p : Prop} [Decidable p] {c b : Int} (h : (if p then c else b) = 0) (hc : c ≠ 0) : ¬ p ∧ b = 0 := by
 by_cases e : p
 · rw [if_pos e] at h; exact absurd h hc
 rw [if_neg e] at h; exact ⟨e, h⟩
theorem zbk {α : Type} {f : List α → α → Int} {l : List α} (h : allB f l = 0) : ∀ d ∈ l, ∃ p, f p d = 0 := fun d hd => by
 obtain ⟨k, hk⟩ := List.getElem?_of_mem hd
 exact ⟨_, zj1 h k d hk⟩
theorem zi4 {s : ByteArray} (h : labE s = 0) : s.size ≤ 24 := by
 unfold labE at h
 have := (zaj h (by decide)).1
 omega
theorem zcv {s : ByteArray} (h : nameB s = true) : s.size ≤ 24 := by
 unfold nameB at h
 simp at h
 exact h.2
theorem zio {s : ByteArray} (h : chk5 s.data.toList = 0) : s.size ≤ 24 := by
 have e : s.data.toList.length = s.size := by simp
 unfold chk5 at h
 have h1 := (zaj (zaj h (by decide)).2 (by decide)).1
 rcases zen s.data.toList with ⟨_, _, h2⟩ | ⟨_, _, h2, _⟩
 · have := congrArg List.length h2
   simp only [List.length_append, List.length_cons] at this
   omega
 rw [h2] at h1
 omega
theorem zl6 {c : List Pt} (h : curveE c = 0) : c.length ≤ 16 := by
 unfold curveE at h
 have := (zaj (zaj h (by decide)).2 (by decide)).1
 omega
theorem zqb {l : List (List Pt)} (h : curvesE l = 0) : l.length ≤ 16 ∧ ∀ c ∈ l, c.length ≤ 16 := by
 unfold curvesE at h
 obtain ⟨h1, h2⟩ := zaj h (by decide)
 exact ⟨by omega, fun c hc => by obtain ⟨_, h3⟩ := zbk h2 c hc; exact zl6 h3⟩
theorem zwq {l : List SlotD} (h : wheelE l = 0) : l.length ≤ 16 ∧ ∀ s ∈ l, s.name.size ≤ 24 := by
 unfold wheelE at h
 obtain ⟨h1, h2⟩ := zaj h (by decide)
 refine ⟨by omega, fun s hs => ?_⟩
 obtain ⟨p, h3⟩ := zbk h2 s hs
 unfold slotE at h3
 have := (zaj h3 (by decide)).1
 exact zcv (by simpa using this)
theorem zmx {foot n : Int} {p : List FeatD} {d : FeatD} (h : featE foot n p d = 0) : d.wheel.length ≤ 16 ∧ ∀ s ∈ d.wheel, s.name.size ≤ 24 := by
 unfold featE at h
 have h1 := (zaj (zaj (zaj (zaj (zaj (zaj h (by decide)).2 (by decide)).2 (by decide)).2 (by decide)).2 (by decide)).2 (by decide)).2
 unfold innerE insideE at h1
 exact zwq (zaj (zaj h1 (by decide)).2 (by decide)).2
theorem zvw {cs : List (List Pt)} {d : ProfD} (h : profE cs d = 0) : nameB d.name = true ∧ d.feats.length ≤ 16 ∧ ∀ f ∈ d.feats, f.wheel.length ≤ 16 ∧ ∀ s ∈ f.wheel, s.name.size ≤ 24 := by
 unfold profE at h
 obtain ⟨h1, h2⟩ := zaj (zax h).2 (by decide)
 obtain ⟨h3, h4⟩ := zaj (zaj h2 (by decide)).2 (by decide)
 refine ⟨by simpa using h1, by omega, fun f hf => ?_⟩
 obtain ⟨p, h5⟩ := zbk h4 f hf
 exact zmx h5
theorem zog {cs : List (List Pt)} {l : List ProfD} (h : profsE cs l = 0) : l.length ≤ 32 ∧ ∀ d ∈ l, nameB d.name = true ∧ d.feats.length ≤ 16 ∧ ∀ f ∈ d.feats, f.wheel.length ≤ 16 ∧ ∀ s ∈ f.wheel, s.name.size ≤ 24 := by
 unfold profsE at h
 obtain ⟨h1, h2⟩ := zaj h (by decide)
 refine ⟨by omega, fun d hd => ?_⟩
 obtain ⟨p, h3⟩ := zbk h2 d hd
 unfold profAt at h3
 exact zvw (zax h3).1
theorem zqy {ps : List ProfD} {l : List FixD} (h : patchE ps l = 0) (hp : ∀ d ∈ ps, nameB d.name = true) : l.length ≤ 64 ∧ ∀ d ∈ l, d.prof.size ≤ 24 ∧ d.cable.size ≤ 24 := by
 unfold patchE at h
 obtain ⟨h1, h2⟩ := zaj h (by decide)
 refine ⟨by omega, fun d hd => ?_⟩
 obtain ⟨p, h3⟩ := zbk h2 d hd
 unfold fixE at h3
 have h4 := (zax h3).1
 unfold aloneE at h4
 obtain ⟨h5, h6⟩ := zaj (zaj h4 (by decide)).2 (by decide)
 constructor
 · cases hq : profOf ps d.prof with
   | none => rw [hq] at h6; cases h6
   | some q =>
     have h7 := List.find?_some hq
     have h8 := hp q (List.mem_of_find?_eq_some hq)
     simp at h7
     rw [← h7]
     exact zcv h8
 by_cases e : d.cable.size = 0
 · omega
 have : nameB d.cable = true := by
   cases hc : nameB d.cable with
   | true => rfl
   | false => exact absurd ⟨e, hc⟩ h5
 exact zcv this
theorem zeh {α : Type} {chk num : α → Int} {p : List α} {d : α} (h : tabE chk num p d = 0) : chk d = 0 := by
 unfold tabE at h
 exact (zax h).1
theorem zq8 {l : List GrpD} (h : grpsE l = 0) : l.length ≤ 32 ∧ ∀ d ∈ l, d.chs.length ≤ 256 := by
 unfold grpsE at h
 obtain ⟨h1, h2⟩ := zaj h (by decide)
 refine ⟨by omega, fun d hd => ?_⟩
 obtain ⟨p, h3⟩ := zbk h2 d hd
 have h4 := zeh h3
 unfold grpE at h4
 have := (zaj (zaj h4 (by decide)).2 (by decide)).1
 omega
theorem zlg {l : List HueD} (h : huesE l = 0) : l.length ≤ 256 := by
 unfold huesE at h
 have := (zaj h (by decide)).1
 omega
theorem zr3 {l : List PalD} (h : palsE l = 0) : l.length ≤ 32 ∧ ∀ d ∈ l, d.hues.length ≤ 256 := by
 unfold palsE at h
 obtain ⟨h1, h2⟩ := zaj h (by decide)
 refine ⟨by omega, fun d hd => ?_⟩
 obtain ⟨p, h3⟩ := zbk h2 d hd
 unfold palE at h3
 have h4 := (zaj h3 (by decide)).2
 cases hp : p.getLast? with
 | none => rw [hp] at h4; exact zlg h4
 | some q => rw [hp] at h4; exact zlg (zaj h4 (by decide)).2
structure CueS (c : CueD) : Prop where
 num : c.num.size ≤ 24
 lab : c.lab.size ≤ 24
 link : c.link.size ≤ 24
 moves : c.moves.length ≤ 128
 parts : c.parts.length ≤ 4
theorem zru {c : CueD} (h : cueE c = 0) : CueS c := by
 unfold cueE at h
 obtain ⟨h1, h2⟩ := zax h
 obtain ⟨h3, h4⟩ := zax h2
 obtain ⟨h5, h6⟩ := zax h4
 obtain ⟨h7, h8⟩ := zax h6
 have h9 := (zaj h8 (by decide)).2
 unfold nextE at h9
 have ha := (zaj h9 (by decide)).2
 unfold movesE at h5
 unfold ptsE at h7
 have hm := (zaj h5 (by decide)).1
 have hp := (zaj (zaj h7 (by decide)).2 (by decide)).1
 refine ⟨zio h1, zi4 h3, ?_, by omega, by omega⟩
 by_cases e : c.link.size = 0
 · omega
 by_cases e2 : chk5 c.link.data.toList = 0
 · exact zio e2
 rw [if_pos ⟨e, e2⟩] at ha; exact absurd ha e2
theorem zt5 {d : LstD} (h : lstE d = 0) : d.cues.length ≤ 64 ∧ ∀ c ∈ d.cues, cueE c = 0 ∧ CueS c := by
 unfold lstE at h
 obtain ⟨h1, h2⟩ := zaj (zaj h (by decide)).2 (by decide)
 refine ⟨by omega, fun c hc => ?_⟩
 obtain ⟨p, h3⟩ := zbk h2 c hc
 unfold cueAtE at h3
 exact ⟨(zax h3).1, zru (zax h3).1⟩
theorem zx8 {l : List LstD} (h : listsE l = 0) : l.length ≤ 8 ∧ ∀ d ∈ l, d.cues.length ≤ 64 ∧ ∀ c ∈ d.cues, cueE c = 0 ∧ CueS c := by
 unfold listsE at h
 obtain ⟨h1, h2⟩ := zaj h (by decide)
 refine ⟨by omega, fun d hd => ?_⟩
 obtain ⟨p, h3⟩ := zbk h2 d hd
 exact zt5 (zeh h3)
theorem zst {l : List SubD} (h : subsE l = 0) : l.length ≤ 16 ∧ ∀ d ∈ l, d.gains.length ≤ 128 := by
 unfold subsE at h
 obtain ⟨h1, h2⟩ := zaj h (by decide)
 refine ⟨by omega, fun d hd => ?_⟩
 obtain ⟨p, h3⟩ := zbk h2 d hd
 have h4 := zeh h3
 unfold subE at h4
 have := (zaj (zaj h4 (by decide)).2 (by decide)).1
 omega
theorem zyf {l : List EffD} (h : effsE l = 0) : l.length ≤ 16 ∧ ∀ d ∈ l, d.wave.length ≤ 16 := by
 unfold effsE at h
 obtain ⟨h1, h2⟩ := zaj h (by decide)
 refine ⟨by omega, fun d hd => ?_⟩
 obtain ⟨p, h3⟩ := zbk h2 d hd
 have h4 := zeh h3
 unfold effE at h4
 have h5 := (zax (zaj h4 (by decide)).2).1
 unfold waveE at h5
 have := (zaj h5 (by decide)).1
 omega
structure ShowS (s : ShowD) : Prop where
 title : s.title.size ≤ 24
 curves : s.curves.length ≤ 16 ∧ ∀ c ∈ s.curves, c.length ≤ 16
 profs : s.profs.length ≤ 32 ∧ ∀ d ∈ s.profs, nameB d.name = true ∧ d.feats.length ≤ 16 ∧ ∀ f ∈ d.feats, f.wheel.length ≤ 16 ∧ ∀ s ∈ f.wheel, s.name.size ≤ 24
 fixs : s.fixs.length ≤ 64 ∧ ∀ d ∈ s.fixs, d.prof.size ≤ 24 ∧ d.cable.size ≤ 24
 grps : s.grps.length ≤ 32 ∧ ∀ d ∈ s.grps, d.chs.length ≤ 256
 pals : s.pals.length ≤ 32 ∧ ∀ d ∈ s.pals, d.hues.length ≤ 256
 lists : s.lists.length ≤ 8 ∧ ∀ d ∈ s.lists, d.cues.length ≤ 64 ∧ ∀ c ∈ d.cues, cueE c = 0 ∧ CueS c
 subs : s.subs.length ≤ 16 ∧ ∀ d ∈ s.subs, d.gains.length ≤ 128
 effs : s.effs.length ≤ 16 ∧ ∀ d ∈ s.effs, d.wave.length ≤ 16
theorem zdk {s : ShowD} (h : showE s = 0) : ShowS s := by
 unfold showE at h
 obtain ⟨h1, h2⟩ := zax h
 obtain ⟨h3, h4⟩ := zax h2
 obtain ⟨h5, h6⟩ := zax h4
 obtain ⟨h7, h8⟩ := zax h6
 obtain ⟨h9, ha⟩ := zax h8
 obtain ⟨hb, hc⟩ := zax ha
 unfold rigE at h3
 obtain ⟨r1, r2⟩ := zax h3
 obtain ⟨r3, r4⟩ := zax r2
 have hp := zog r3
 exact ⟨zi4 h1, zqb r1, hp, zqy r4 (fun d hd => (hp.2 d hd).1), zq8 h5, zr3 h7, zx8 h9, zst hb, zyf hc⟩
theorem zbn {k : UInt8} {l : List UInt8} (h : l.length ≤ 65535) : entOk (ent k l) = true := by
 unfold entOk ent
 simpa [zar] using h
theorem zko {s : ShowD} (h : ShowS s) : (partsL s).length ≤ 730 := by
 have h1 := h.curves.1
 have h2 := h.profs.1
 have h3 := h.fixs.1
 have h4 := h.grps.1
 have h5 := h.pals.1
 have h6 := h.lists.1
 have h7 := h.subs.1
 have h8 := h.effs.1
 have h9 : (s.lists.flatMap lstEs).length ≤ 65 * s.lists.length := by
  have H : ∀ (l : List LstD), (∀ d ∈ l, d.cues.length ≤ 64) → (l.flatMap lstEs).length ≤ 65 * l.length := by
   intro l
   induction l with
   | nil => intro _; simp
   | cons d l ih =>
     intro hd
     have g1 := hd d (by simp)
     have g2 := ih fun x hx => hd x (by simp [hx])
     simp only [List.flatMap_cons, List.length_append, lstEs, List.length_cons, List.length_map] at g2 ⊢
     omega
  exact H _ fun d hd => (h.lists.2 d hd).1
 simp only [partsL, List.length_cons, List.length_append, List.length_map]
 omega
theorem zkv {s : ShowD} (h : ShowS s) (g : Show64 s) : ∀ x ∈ piecesL s, entOk x = true := by
 have hn := zko h
 intro x hx
 simp only [piecesL, partsL, List.mem_append, List.mem_cons, List.mem_map, List.mem_flatMap, List.not_mem_nil, or_false] at hx
 simp only [partsL] at hn
 rcases hx with (rfl | ⟨c, hc, rfl⟩ | ⟨c, hc, rfl⟩ | ⟨c, hc, rfl⟩ | ⟨c, hc, rfl⟩ | ⟨c, hc, rfl⟩ | ⟨c, hc, hx⟩ | ⟨c, hc, rfl⟩ | ⟨c, hc, rfl⟩) | rfl
 · refine zbn ?_
   have h1 := zbi h.title (by omega)
   have h2 : (intB 3).length ≤ 10 := za3 (by decide) (by decide)
   rw [List.length_append]
   omega
 · exact zbn (Nat.le_trans (zc3 (g.curves c hc) (h.curves.2 c hc)) (by omega))
 · have h1 := h.profs.2 c hc
   exact zbn (Nat.le_trans (zja (g.profs c hc) (zcv h1.1) h1.2.1 h1.2.2) (by omega))
 · exact zbn (Nat.le_trans (zhc (g.fixs c hc) (h.fixs.2 c hc).1 (h.fixs.2 c hc).2) (by omega))
 · exact zbn (Nat.le_trans (zfx (g.grps c hc).1 (g.grps c hc).2 (h.grps.2 c hc)) (by omega))
 · exact zbn (Nat.le_trans (zim (g.pals c hc).1 (g.pals c hc).2 (h.pals.2 c hc)) (by omega))
 · simp only [lstEs, List.mem_cons, List.mem_map] at hx
   rcases hx with rfl | ⟨q, hq, rfl⟩
   · exact zbn (Nat.le_trans (zi3 (g.lists c hc).1) (by omega))
   have h1 := ((h.lists.2 c hc).2 q hq).2
   exact zbn (Nat.le_trans (zgc ((g.lists c hc).2 q hq) h1.num h1.lab h1.link h1.moves h1.parts) (by omega))
 · exact zbn (Nat.le_trans (zk3 (g.subs c hc).1 (g.subs c hc).2 (h.subs.2 c hc)) (by omega))
 · exact zbn (Nat.le_trans (zjw (g.effs c hc).1 (g.effs c hc).2.1 (g.effs c hc).2.2 (h.effs.2 c hc)) (by omega))
 exact zbn (Nat.le_trans (za3 (by omega) (by omega)) (by omega : 10 ≤ 65535))
theorem zae {l : List UInt8} (h : l.length ≤ 1000000) : ((str l).size : Int) ≤ 1000000000 := by rw [zba]; omega
theorem zcn (g : Nat) (n0 n1 : Int) (w : World) (hg : RowAt w g 3 #[.int .i64 n0, .int .i64 n1]) (hi : Ints64 [n0, n1]) :
 Calls Tryz.prog 117 #[.slice (some ⟨g, 0, none⟩) 2 2] w fun e w' => e = .returned (.string (str (intsB [n0, n1]))) ∧ Below w.heap.size w w' := zck g [n0, n1] w hg hi (by simp) (by simp)
theorem zc5 (g : Nat) (n0 n1 n2 : Int) (w : World) (hg : RowAt w g 3 #[.int .i64 n0, .int .i64 n1, .int .i64 n2]) (hi : Ints64 [n0, n1, n2]) :
 Calls Tryz.prog 117 #[.slice (some ⟨g, 0, none⟩) 3 3] w fun e w' => e = .returned (.string (str (intsB [n0, n1, n2]))) ∧ Below w.heap.size w w' := zck g [n0, n1, n2] w hg hi (by simp) (by simp)
theorem zvp (g : Nat) (n0 n1 n2 n3 : Int) (w : World) (hg : RowAt w g 3 #[.int .i64 n0, .int .i64 n1, .int .i64 n2, .int .i64 n3]) (hi : Ints64 [n0, n1, n2, n3]) :
 Calls Tryz.prog 117 #[.slice (some ⟨g, 0, none⟩) 4 4] w fun e w' => e = .returned (.string (str (intsB [n0, n1, n2, n3]))) ∧ Below w.heap.size w w' := zck g [n0, n1, n2, n3] w hg hi (by simp) (by simp)
theorem zt8 (g : Nat) (n0 n1 n2 n3 n4 n5 n6 n7 n8 n9 : Int) (w : World) (hg : RowAt w g 3 #[.int .i64 n0, .int .i64 n1, .int .i64 n2, .int .i64 n3, .int .i64 n4, .int .i64 n5, .int .i64 n6, .int .i64 n7, .int .i64 n8, .int .i64 n9]) (hi : Ints64 [n0, n1, n2, n3, n4, n5, n6, n7, n8, n9]) :
 Calls Tryz.prog 117 #[.slice (some ⟨g, 0, none⟩) 10 10] w fun e w' => e = .returned (.string (str (intsB [n0, n1, n2, n3, n4, n5, n6, n7, n8, n9]))) ∧ Below w.heap.size w w' := zck g [n0, n1, n2, n3, n4, n5, n6, n7, n8, n9] w hg hi (by simp) (by simp)
theorem zh0 (v : Value) (c : List Pt) (w : World) (hv : ListAt 2 ptA w v c) (hi : ∀ p ∈ c, Ints64 [p.1, p.2]) (hl : c.length ≤ 16) :
  Calls Tryz.prog 114 #[v] w fun e w' => e = .returned (.string (str (ptsB c))) ∧ Below w.heap.size w w' := by
 obtain ⟨a, cap, rfl⟩ := hv.shape
 have HV := hid hv
 have HI := hid hi
 have HL := hid (show (intB c.length).length + (c.flatMap ptB).length ≤ 1000000 from by have := zc3 hi hl; unfold ptsB at this; rw [List.length_append] at this; omega)
 have hml : (c.length : Int) ≤ 16 := by omega
 have C0 := hid (fun W => zb4 (c.length : Int) W (by omega) (by omega))
 clear hv hi
 go_enter Tryz.func114, Tryz.ntmps114
 go_wp2_with fail
 refine (C0.out _).mono ?_
 rintro e w1 ⟨rfl, hb1⟩
 have HB := hid hb1
 clear hb1
 go_wp2
 rename World => wh
 go_loopw [3, 4] (fun s3 i wr => ∃ k : Nat, k ≤ c.length ∧ i = .int .i64 k ∧ s3 = .string (str (intB c.length ++ (c.take k).flatMap ptB)) ∧ Hid (Below w.heap.size w wr)) (fun _ i _ => c.length - (intOf i).toNat)
 case atStart => exact ⟨0, Nat.zero_le _, rfl, by simp, HB⟩
 case round =>
  obtain ⟨k, hk, rfl, rfl, hh⟩ := hrel
  by_cases hlt : k < c.length
  · have hlt3 : (k : Int) < (c.length : Int) := by omega
    obtain ⟨d, hd⟩ : ∃ d, c[k]? = some d := ⟨_, List.getElem?_eq_getElem hlt⟩
    obtain ⟨g, off, cap', he, hg0, hc⟩ := HV.out.at_ (by decide) hd
    cases he
    have HK := hid (show ∀ W, Below wr.heap.size wr W → W.cell? ⟨g, off + k * 2, none⟩ = some (.int .i64 d.1) ∧ W.cell? ⟨g, off + k * 2 + 1, none⟩ = some (.int .i64 d.2) from fun W hW => ⟨hc W (hh.out.trans (hW.mono hh.out.size)) 0 (by decide), hc W (hh.out.trans (hW.mono hh.out.size)) 1 (by decide)⟩)
    obtain ⟨e0, e1⟩ := HK.out wr (Below.refl _ _)
    have CI := hid (fun W g hg => zcn g d.1 d.2 W hg (HI.out d (List.mem_of_getElem? hd)))
    have HX := hid (show str (intB c.length ++ (c.take k).flatMap ptB) ++ str (intsB [d.1, d.2]) = str (intB c.length ++ (c.take (k + 1)).flatMap ptB) from by rw [zas, zaf hd, List.flatMap_append, ← List.append_assoc]; simp [ptB])
    have hfl := zaq (f := ptB) hd
    have hHL := HL.out
    have zx : ((str (intB c.length ++ (c.take k).flatMap ptB)).size : Int) ≤ 1000000000 := zae (by rw [List.length_append]; omega)
    have zy : ((str (intsB [d.1, d.2])).size : Int) ≤ 1000000000 := zae (by have : (intsB [d.1, d.2]).length = (ptB d).length := rfl; omega)
    generalize str (intB c.length ++ (c.take k).flatMap ptB) = x at zx HX ⊢
    generalize str (intsB [d.1, d.2]) = y at zy CI HX ⊢
    have hsum : ¬ 9223372036854775807 < (x.size : Int) + (y.size : Int) := by omega
    have hsum2 : ¬ 9223372036854775807 < x.size + y.size := by omega
    have hsz := hh.out.size
    clear hd hc hfl hHL hk
    go_wp2
    go_region_held3 (fun w' => w'.cell? ⟨g, off + k * 2, none⟩ = some (.int .i64 d.1) ∧ w'.cell? ⟨g, off + k * 2 + 1, none⟩ = some (.int .i64 d.2)) (first | exact HK.out _ bel | go_keep)
     (first | (go_at_call 117; refine (CI.out _ _ rwt).mono ?_; rintro e w4 ⟨rfl, hb4⟩) | fail)
    all_goals go_wp2
    all_goals go_roundw
    case rel => exact ⟨k + 1, by omega, by go_num, by rw [HX.out], hid (by have := hh.out; exact bel)⟩
    case measure => simp [intOf]; omega
  obtain rfl : k = c.length := by omega
  have HT := hid (show c.take c.length = c from List.take_length)
  go_wp2
  go_ret
  exact ⟨zbl (by rw [HT.out]; rfl), hh.out⟩
theorem zup (d : FixD) (w : World) (hd : Fix64 d) (hp : d.prof.size ≤ 24) (hc : d.cable.size ≤ 24) :
  Calls Tryz.prog 116 #[.agg (fixA d)] w fun e w' => e = .returned (.string (str (fixB d))) ∧ Below w.heap.size w w' := by
 simp only [fixA]
 have HCx1 := hid (fun W g hg => zcn g d.ch d.part W hg hd.i1)
 have HCx2 := hid (fun W => zcd d.prof W (by omega))
 have HCx3 := hid (fun W g hg => zc5 g d.uni d.addr d.phase W hg hd.i2)
 have HCx4 := hid (fun W => zcd d.cable W (by omega))
 obtain ⟨Z, hZ⟩ : ∃ Z, w.alloc (.cells #[.int .i64 d.ch, .int .i64 d.part, .string d.prof, .int .i64 d.uni, .int .i64 d.addr, .int .i64 d.phase, .string d.cable] 173) = Z := ⟨_, rfl⟩
 have r0 : RowAt Z w.heap.size 173 #[.int .i64 d.ch, .int .i64 d.part, .string d.prof, .int .i64 d.uni, .int .i64 d.addr, .int .i64 d.phase, .string d.cable] := by rw [← hZ]; exact RowAt.new _ _ _
 have hbz : Below w.heap.size w Z := by rw [← hZ]; exact bel
 have HZ := hid (And.intro r0 hbz)
 have HK := hid (fun (W : World) (hW : Below Z.heap.size Z W) => (show W.cell? ⟨w.heap.size, 0, none⟩ = some (.int .i64 d.ch) ∧ W.cell? ⟨w.heap.size, 1, none⟩ = some (.int .i64 d.part) ∧ W.cell? ⟨w.heap.size, 2, none⟩ = some (.string d.prof) ∧ W.cell? ⟨w.heap.size, 3, none⟩ = some (.int .i64 d.uni) ∧ W.cell? ⟨w.heap.size, 4, none⟩ = some (.int .i64 d.addr) ∧ W.cell? ⟨w.heap.size, 5, none⟩ = some (.int .i64 d.phase) ∧ W.cell? ⟨w.heap.size, 6, none⟩ = some (.string d.cable) from by
  obtain ⟨f, _⟩ := zaa (HZ.out.1.run hW)
  exact ⟨f 0, f 1, f 2, f 3, f 4, f 5, f 6⟩))
 obtain ⟨e0, e1, e2, e3, e4, e5, e6⟩ := HK.out Z (Below.refl _ _)
 have hsz := hbz.size
 have zx1 : ((str (intsB [d.ch, d.part])).size : Int) ≤ 1000000000 := zae (by have := zat hd.i1; simp at this; omega)
 have zx2 : ((str (textB d.prof)).size : Int) ≤ 1000000000 := zae (by have := zbi hp (by omega); omega)
 have zx3 : ((str (intsB [d.uni, d.addr, d.phase])).size : Int) ≤ 1000000000 := zae (by have := zat hd.i2; simp at this; omega)
 have zx4 : ((str (textB d.cable)).size : Int) ≤ 1000000000 := zae (by have := zbi hc (by omega); omega)
 have HX := hid (show str (intsB [d.ch, d.part]) ++ str (textB d.prof) ++ str (intsB [d.uni, d.addr, d.phase]) ++ str (textB d.cable) = str (fixB d) from by simp only [zas]; simp [fixB, List.append_assoc])
 generalize str (intsB [d.ch, d.part]) = x1 at zx1 HX HCx1
 generalize str (textB d.prof) = x2 at zx2 HX HCx2
 generalize str (intsB [d.uni, d.addr, d.phase]) = x3 at zx3 HX HCx3
 generalize str (textB d.cable) = x4 at zx4 HX HCx4
 have su1a : ¬ 9223372036854775807 < (x1.size : Int) + (x2.size : Int) := by omega
 have su1b : ¬ 9223372036854775807 < x1.size + x2.size := by omega
 have su1e : x1.size + x2.size ≤ 9223372036854775807 := by omega
 have su1g : (x1.size : Int) + (x2.size : Int) ≤ 9223372036854775807 := by omega
 have su2a : ¬ 9223372036854775807 < (x1.size : Int) + (x2.size : Int) + (x3.size : Int) := by omega
 have su2b : ¬ 9223372036854775807 < x1.size + x2.size + x3.size := by omega
 have su2e : x1.size + x2.size + x3.size ≤ 9223372036854775807 := by omega
 have su2g : (x1.size : Int) + (x2.size : Int) + (x3.size : Int) ≤ 9223372036854775807 := by omega
 have su2c : ((x1 ++ x2).size : Int) = (x1.size : Int) + (x2.size : Int) := by simp [ByteArray.size_append]
 have su2d : ¬ 9223372036854775807 < ((x1 ++ x2).size : Int) + (x3.size : Int) := by omega
 have su2f : ¬ 9223372036854775807 < (x1 ++ x2).size + x3.size := by omega
 have su3a : ¬ 9223372036854775807 < (x1.size : Int) + (x2.size : Int) + (x3.size : Int) + (x4.size : Int) := by omega
 have su3b : ¬ 9223372036854775807 < x1.size + x2.size + x3.size + x4.size := by omega
 have su3e : x1.size + x2.size + x3.size + x4.size ≤ 9223372036854775807 := by omega
 have su3g : (x1.size : Int) + (x2.size : Int) + (x3.size : Int) + (x4.size : Int) ≤ 9223372036854775807 := by omega
 have su3c : ((x1 ++ x2 ++ x3).size : Int) = (x1.size : Int) + (x2.size : Int) + (x3.size : Int) := by simp [ByteArray.size_append]
 have su3d : ¬ 9223372036854775807 < ((x1 ++ x2 ++ x3).size : Int) + (x4.size : Int) := by omega
 have su3f : ¬ 9223372036854775807 < (x1 ++ x2 ++ x3).size + x4.size := by omega
 rw [← HX.out]
 clear r0 hbz hp hc hd
 go_enter Tryz.func116, Tryz.ntmps116
 go_wp2
 go_region_held3 (fun w' => w'.cell? ⟨w.heap.size, 0, none⟩ = some (.int .i64 d.ch) ∧ w'.cell? ⟨w.heap.size, 1, none⟩ = some (.int .i64 d.part) ∧ w'.cell? ⟨w.heap.size, 2, none⟩ = some (.string d.prof) ∧ w'.cell? ⟨w.heap.size, 3, none⟩ = some (.int .i64 d.uni) ∧ w'.cell? ⟨w.heap.size, 4, none⟩ = some (.int .i64 d.addr) ∧ w'.cell? ⟨w.heap.size, 5, none⟩ = some (.int .i64 d.phase) ∧ w'.cell? ⟨w.heap.size, 6, none⟩ = some (.string d.cable)) (first | exact HK.out _ bel | go_keep) (first | (go_at_call 117; (with_reducible refine (HCx1.out _ _ rwt).mono ?_); rintro e w1 ⟨rfl, hb1⟩; have hsw1 := hb1.size; (try simp at hsw1)) | (go_at_call 117; (with_reducible refine (HCx3.out _ _ rwt).mono ?_); rintro e w3 ⟨rfl, hb3⟩; have hsw3 := hb3.size; (try simp at hsw3)) | (go_at_call 113; (with_reducible refine (HCx2.out _).mono ?_); rintro e w2 ⟨rfl, hb2⟩; have hsw2 := hb2.size; (try simp at hsw2)) | (go_at_call 113; (with_reducible refine (HCx4.out _).mono ?_); rintro e w4 ⟨rfl, hb4⟩; have hsw4 := hb4.size; (try simp at hsw4)))
 all_goals (go_wp2; go_ret; exact ⟨rfl, by have := HZ.out.2; exact bel⟩)
theorem zsk (d : EffD) (v : Value) (w : World) (hv : ListAt 2 ptA w v d.wave) (hd : Ints64 [d.num, d.attr]) (hg : ∀ p ∈ d.wave, Ints64 [p.1, p.2]) (h3 : Ints64 [d.per, d.spr, d.size]) (hl : d.wave.length ≤ 16) :
  Calls Tryz.prog 120 #[.agg (effA (d, v))] w fun e w' => e = .returned (.string (str (effB d))) ∧ Below w.heap.size w w' := by
 have HV := hid hv
 obtain ⟨va, vc, rfl⟩ := hv.shape
 simp only [effA]
 have HCx1 := hid (fun W g hg => zcn g d.num d.attr W hg hd)
 have HCx2 := hid (fun (W : World) (hb : Below w.heap.size w W) => zh0 (.slice va d.wave.length vc) d.wave W (HV.out.run hb) hg hl)
 have HCx3 := hid (fun W g hg => zc5 g d.per d.spr d.size W hg h3)
 obtain ⟨Z, hZ⟩ : ∃ Z, w.alloc (.cells #[.int .i64 d.num, .int .i64 d.attr, .slice va d.wave.length vc, .int .i64 d.per, .int .i64 d.spr, .int .i64 d.size] 183) = Z := ⟨_, rfl⟩
 have r0 : RowAt Z w.heap.size 183 #[.int .i64 d.num, .int .i64 d.attr, .slice va d.wave.length vc, .int .i64 d.per, .int .i64 d.spr, .int .i64 d.size] := by rw [← hZ]; exact RowAt.new _ _ _
 have hbz : Below w.heap.size w Z := by rw [← hZ]; exact bel
 have HZ := hid (And.intro r0 hbz)
 have HK := hid (fun (W : World) (hW : Below Z.heap.size Z W) => (show W.cell? ⟨w.heap.size, 0, none⟩ = some (.int .i64 d.num) ∧ W.cell? ⟨w.heap.size, 1, none⟩ = some (.int .i64 d.attr) ∧ W.cell? ⟨w.heap.size, 2, none⟩ = some (.slice va d.wave.length vc) ∧ W.cell? ⟨w.heap.size, 3, none⟩ = some (.int .i64 d.per) ∧ W.cell? ⟨w.heap.size, 4, none⟩ = some (.int .i64 d.spr) ∧ W.cell? ⟨w.heap.size, 5, none⟩ = some (.int .i64 d.size) from by
  obtain ⟨f, _⟩ := zaa (HZ.out.1.run hW)
  exact ⟨f 0, f 1, f 2, f 3, f 4, f 5⟩))
 obtain ⟨e0, e1, e2, e3, e4, e5⟩ := HK.out Z (Below.refl _ _)
 have hsz := hbz.size
 have zx1 : ((str (intsB [d.num, d.attr])).size : Int) ≤ 1000000000 := zae (by have := zat hd; simp at this; omega)
 have zx2 : ((str (ptsB d.wave)).size : Int) ≤ 1000000000 := zae (by have := zc3 hg hl; omega)
 have zx3 : ((str (intsB [d.per, d.spr, d.size])).size : Int) ≤ 1000000000 := zae (by have := zat h3; simp at this; omega)
 have HX := hid (show str (intsB [d.num, d.attr]) ++ str (ptsB d.wave) ++ str (intsB [d.per, d.spr, d.size]) = str (effB d) from by simp only [zas]; simp [effB, List.append_assoc])
 generalize str (intsB [d.num, d.attr]) = x1 at zx1 HX HCx1
 generalize str (ptsB d.wave) = x2 at zx2 HX HCx2
 generalize str (intsB [d.per, d.spr, d.size]) = x3 at zx3 HX HCx3
 have su1a : ¬ 9223372036854775807 < (x1.size : Int) + (x2.size : Int) := by omega
 have su1b : ¬ 9223372036854775807 < x1.size + x2.size := by omega
 have su1e : x1.size + x2.size ≤ 9223372036854775807 := by omega
 have su1g : (x1.size : Int) + (x2.size : Int) ≤ 9223372036854775807 := by omega
 have su2a : ¬ 9223372036854775807 < (x1.size : Int) + (x2.size : Int) + (x3.size : Int) := by omega
 have su2b : ¬ 9223372036854775807 < x1.size + x2.size + x3.size := by omega
 have su2e : x1.size + x2.size + x3.size ≤ 9223372036854775807 := by omega
 have su2g : (x1.size : Int) + (x2.size : Int) + (x3.size : Int) ≤ 9223372036854775807 := by omega
 have su2c : ((x1 ++ x2).size : Int) = (x1.size : Int) + (x2.size : Int) := by simp [ByteArray.size_append]
 have su2d : ¬ 9223372036854775807 < ((x1 ++ x2).size : Int) + (x3.size : Int) := by omega
 have su2f : ¬ 9223372036854775807 < (x1 ++ x2).size + x3.size := by omega
 rw [← HX.out]
 clear r0 hbz hv hd hg h3
 go_enter Tryz.func120, Tryz.ntmps120
 go_wp2
 go_region_held3 (fun w' => w'.cell? ⟨w.heap.size, 0, none⟩ = some (.int .i64 d.num) ∧ w'.cell? ⟨w.heap.size, 1, none⟩ = some (.int .i64 d.attr) ∧ w'.cell? ⟨w.heap.size, 2, none⟩ = some (.slice va d.wave.length vc) ∧ w'.cell? ⟨w.heap.size, 3, none⟩ = some (.int .i64 d.per) ∧ w'.cell? ⟨w.heap.size, 4, none⟩ = some (.int .i64 d.spr) ∧ w'.cell? ⟨w.heap.size, 5, none⟩ = some (.int .i64 d.size)) (first | exact HK.out _ bel | go_keep) (first | (go_at_call 117; (with_reducible refine (HCx1.out _ _ rwt).mono ?_); rintro e w1 ⟨rfl, hb1⟩; have hsw1 := hb1.size; (try simp at hsw1)) | (go_at_call 117; (with_reducible refine (HCx3.out _ _ rwt).mono ?_); rintro e w3 ⟨rfl, hb3⟩; have hsw3 := hb3.size; (try simp at hsw3)) | (go_at_call 114; (with_reducible refine (HCx2.out _ (HZ.out.2.trans (Below.mono (show Below Z.heap.size Z _ from bel) hsz))).mono ?_); rintro e w2 ⟨rfl, hb2⟩; have hsw2 := hb2.size; (try simp at hsw2)))
 all_goals (go_wp2; go_ret; exact ⟨rfl, by have := HZ.out.2; exact bel⟩)
end Go.Proofs.YtjeigphhepngmaaGreatDoor
