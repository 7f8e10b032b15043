/- -/
import Derived.Test.YtjeigphhepngmaaGreatDoorOs
import Derived.Test.YtjeigphhepngmaaGreatDoorAx
import Derived.Test.YtjeigphhepngmaaGreatDoorJb
import Derived.Test.YtjeigphhepngmaaGreatDoorD5
import Derived.Shelf.Abstract
import Derived.Test.YtjeigphhepngmaaGreatDoorYv
import Derived.BigRegion
import Derived.Deep.RegionLaw
import Derived.Test.YtjeigphhepngmaaGreatDoorYe
import Derived.Defers
import Derived.Recover
import Derived.Laws.StructEq
import Derived.Test.YtjeigphhepngmaaGreatDoorJl
namespace Go.Proofs.YtjeigphhepngmaaGreatDoor
open Go.RowKit
open Go.Lib (hid)
set_option maxHeartbeats 8000000
set_option linter.unusedSimpArgs false
set_option maxRecDepth 100000
theorem zoi {cs : List (List Pt)} {ps : List ProfD} (h : profsE cs ps = 0) (k : Nat) (d : ProfD) (hd : ps[k]? = some d) :
   ((ps.take k).any fun q => decide (q.name = d.name)) = false ∧ 1 ≤ d.foot ∧ d.foot ≤ 512 := by
 have h1 : allB (profAt cs) ps = 0 := by
   unfold profsE at h
   split at h
   · cases h
   exact h
 have h2 := zj1 h1 k d hd
 unfold profAt at h2
 by_cases h3 : profE cs d = 0
 · rw [if_neg (by simp [h3])] at h2
   refine ⟨?_, ?_⟩
   · cases hc : (ps.take k).any fun q => decide (q.name = d.name) with
     | false => rfl
     | true => rw [hc] at h2; cases h2
   rw [zjt] at h3
   by_cases h4 : curvesE cs = 0
   · rw [if_neg (by simp [h4])] at h3
     by_cases h5 : profX d = 0
     · unfold profX at h5
       split at h5
       · cases h5
       split at h5
       · cases h5
       rename_i h6
       omega
     rw [if_pos h5] at h3; exact absurd h3 h5
   rw [if_pos h4] at h3; exact absurd h3 h4
 rw [if_pos h3] at h2; exact absurd h2 h3
theorem zil (n : Int) (w : World) : Calls Tryz.prog 348 #[.int .i64 n] w fun e w' => e = .returned (.bool (decide (0 < n))) ∧ Below w.heap.size w w' := by
 by_cases h : 0 < n
 · go_enter Tryz.func348, Tryz.ntmps348
   go_wp2
   go_ret
   exact ⟨zac (by simp [h]), bel⟩
 go_enter Tryz.func348, Tryz.ntmps348
 go_wp2
 go_ret
 exact ⟨zac (by simp [h]), bel⟩
theorem zjy : ∀ args W, (callFunc 348 args).run Tryz.prog W = .ok (.enter 348 args) W := enters_of Tryz.func348 (by kernel_rfl) rfl
def BoolPost (w : World) (e : Ending) (w' : World) : Prop := ∃ t, e = .returned (.bool t) ∧ Below w.heap.size w w'
theorem bp {w w' : World} {e : Ending} {t : Bool} (h : e = .returned (.bool t)) (hb : Below w.heap.size w w') : BoolPost w e w' := ⟨t, h, hb⟩
theorem zwk (a : Option Addr) (n c : Nat) (w : World) : Calls Tryz.prog 79 #[.slice a n c] w fun e w' => e = .returned (.bool (decide ((n : Int) ≤ 40))) ∧ w = w' := by
 go_enter Tryz.func79, Tryz.ntmps79
 go_wp2
 go_ret
 exact ⟨rfl, rfl⟩
theorem ztf (v : Value) (l : List (List Pt)) (w : World) (hv : RL 1 curveA RCurve w v l) :
  Calls Tryz.prog 35 #[v] w fun e w' => BoolPost w e w' := by
 have HV := hid hv
 obtain ⟨va, vc, rfl⟩ := hv.shape
 have hml := hv.few
 clear hv
 go_enter Tryz.func35, Tryz.ntmps35
 first
  | (exfalso; omega)
  | (go_wp2; (go_ret; exact bp rfl bel))
  | skip
    go_wp2
    go_loopw [3] (fun i wr => ∃ k : Nat, k ≤ l.length ∧ i = .int .i64 k ∧ w = wr) (fun i _ => l.length - (intOf i).toNat)
    case atStart => exact ⟨0, Nat.zero_le _, rfl, by first | rfl | trivial⟩
    case round =>
     obtain ⟨k, hk, rfl, rfl⟩ := hrel
     by_cases hlt : k < l.length
     · have hlt3 : (k : Int) < (l.length : Int) := by omega
       by_cases hcp : k < 40
       all_goals
        first
         | (have hcp3 : (k : Int) < 40 := by omega)
         | (have hcp3 : ¬ (k : Int) < 40 := by omega)
        (try skip)
        obtain ⟨d, hd⟩ : ∃ d, l[k]? = some d := ⟨_, List.getElem?_eq_getElem hlt⟩
        obtain ⟨y, g, off, cap', he, hg, hc⟩ := HV.out.at_ (by decide) zaz hd
        cases he
        have hcw := hc w (Below.refl _ _)
        obtain ⟨ya, yc, e9⟩ := hcw.2.shape
        simp only at e9
        subst e9
        have e0 : w.cell? ⟨g, off + k, none⟩ = some (.slice ya d.length yc) := by simpa [curveA] using hcw.1 0 (by decide)
        have C := hid (zwk ya d.length yc w)
        clear hd hc hcw hk
        by_cases hq : (d.length : Int) ≤ 40
        · first
          | (go_wp2; (go_ret; exact bp rfl bel))
          | (go_wp2_with fail
             refine C.out.mono ?_
             rintro e w1 ⟨rfl, rfl⟩
             go_wp2
             go_roundw
             (focus (exact ⟨k + 1, by omega, by go_num, by first | rfl | trivial⟩)); (focus (simp [intOf]; omega)))
        first
         | (go_wp2; (go_ret; exact bp rfl bel))
         | (go_wp2_with fail
            refine C.out.mono ?_
            rintro e w1 ⟨rfl, rfl⟩
            go_wp2
            (go_ret; exact bp rfl bel))
     obtain rfl : k = l.length := by omega
     go_wp2
     (go_ret; exact bp rfl bel)
theorem zlz (v : Value) (l : List GrpD) (w : World) (hv : RL 2 grpA RGrp w v l) :
  Calls Tryz.prog 37 #[v] w fun e w' => BoolPost w e w' := by
 have HV := hid hv
 obtain ⟨va, vc, rfl⟩ := hv.shape
 have hml := hv.few
 clear hv
 go_enter Tryz.func37, Tryz.ntmps37
 first
  | (exfalso; omega)
  | (go_wp2; (go_ret; exact bp rfl bel))
  | skip
    go_wp2
    go_loopw [3] (fun i wr => ∃ k : Nat, k ≤ l.length ∧ i = .int .i64 k ∧ w = wr) (fun i _ => l.length - (intOf i).toNat)
    case atStart => exact ⟨0, Nat.zero_le _, rfl, by first | rfl | trivial⟩
    case round =>
     obtain ⟨k, hk, rfl, rfl⟩ := hrel
     by_cases hlt : k < l.length
     · have hlt3 : (k : Int) < (l.length : Int) := by omega
       by_cases hcp : k < 60
       all_goals
        first
         | (have hcp3 : (k : Int) < 60 := by omega)
         | (have hcp3 : ¬ (k : Int) < 60 := by omega)
        (try skip)
        obtain ⟨d, hd⟩ : ∃ d, l[k]? = some d := ⟨_, List.getElem?_eq_getElem hlt⟩
        obtain ⟨y, g, off, cap', he, hg, hc⟩ := HV.out.at_ (by decide) zbf hd
        cases he
        have hcw := hc w (Below.refl _ _)
        obtain ⟨ya, yc, e9⟩ := hcw.2.1.shape
        simp only at e9
        subst e9
        have e00 : w.cell? ⟨g, off + k * 2, none⟩ = some (.int .i64 d.num) := hcw.1 0 (by decide)
        have e0 : w.cell? ⟨g, off + k * 2 + 1, none⟩ = some (.slice ya d.chs.length yc) := hcw.1 1 (by decide)
        clear hd hc hcw hk
        by_cases t1 : (40 : Int) < (d.chs.length : Int)
        all_goals by_cases t2 : (d.chs.length : Int) ≤ 256
        all_goals
         first
          | (exfalso; omega)
          | (go_wp2; (go_ret; exact bp rfl bel))
          | (go_wp2; go_roundw; (focus (exact ⟨k + 1, by omega, by go_num, by first | rfl | trivial⟩)); (focus (simp [intOf]; omega)))
     obtain rfl : k = l.length := by omega
     go_wp2
     (go_ret; exact bp rfl bel)
theorem zvz (v : Value) (l : List PalD) (w : World) (hv : RL 2 palA RPal w v l) :
  Calls Tryz.prog 38 #[v] w fun e w' => BoolPost w e w' := by
 have HV := hid hv
 obtain ⟨va, vc, rfl⟩ := hv.shape
 have hml := hv.few
 clear hv
 by_cases t0 : (64 : Int) < (l.length : Int)
 all_goals
  go_enter Tryz.func38, Tryz.ntmps38
  first
   | (exfalso; omega)
   | (go_wp2; (go_ret; exact bp rfl bel))
   | skip
     go_wp2
     go_loopw [3] (fun i wr => ∃ k : Nat, k ≤ l.length ∧ i = .int .i64 k ∧ w = wr) (fun i _ => l.length - (intOf i).toNat)
     case atStart => exact ⟨0, Nat.zero_le _, rfl, by first | rfl | trivial⟩
     case round =>
      obtain ⟨k, hk, rfl, rfl⟩ := hrel
      by_cases hlt : k < l.length
      · have hlt3 : (k : Int) < (l.length : Int) := by omega
        obtain ⟨d, hd⟩ : ∃ d, l[k]? = some d := ⟨_, List.getElem?_eq_getElem hlt⟩
        obtain ⟨y, g, off, cap', he, hg, hc⟩ := HV.out.at_ (by decide) zbe hd
        cases he
        have hcw := hc w (Below.refl _ _)
        obtain ⟨ya, yc, e9⟩ := hcw.2.shape
        simp only at e9
        subst e9
        have e00 : w.cell? ⟨g, off + k * 2, none⟩ = some (.int .i64 d.num) := hcw.1 0 (by decide)
        have e0 : w.cell? ⟨g, off + k * 2 + 1, none⟩ = some (.slice ya d.hues.length yc) := hcw.1 1 (by decide)
        clear hd hc hcw hk
        by_cases t1 : (512 : Int) < (d.hues.length : Int)
        all_goals
         first
          | (exfalso; omega)
          | (go_wp2; (go_ret; exact bp rfl bel))
          | (go_wp2; go_roundw; (focus (exact ⟨k + 1, by omega, by go_num, by first | rfl | trivial⟩)); (focus (simp [intOf]; omega)))
      obtain rfl : k = l.length := by omega
      go_wp2
      (go_ret; exact bp rfl bel)
theorem zny (v : Value) (l : List SubD) (w : World) (hv : RL 4 subA RSub w v l) :
  Calls Tryz.prog 39 #[v] w fun e w' => BoolPost w e w' := by
 have HV := hid hv
 obtain ⟨va, vc, rfl⟩ := hv.shape
 have hml := hv.few
 clear hv
 go_enter Tryz.func39, Tryz.ntmps39
 first
  | (exfalso; omega)
  | (go_wp2; (go_ret; exact bp rfl bel))
  | skip
    go_wp2
    go_loopw [3] (fun i wr => ∃ k : Nat, k ≤ l.length ∧ i = .int .i64 k ∧ w = wr) (fun i _ => l.length - (intOf i).toNat)
    case atStart => exact ⟨0, Nat.zero_le _, rfl, by first | rfl | trivial⟩
    case round =>
     obtain ⟨k, hk, rfl, rfl⟩ := hrel
     by_cases hlt : k < l.length
     · have hlt3 : (k : Int) < (l.length : Int) := by omega
       by_cases hcp : k < 40
       all_goals
        first
         | (have hcp3 : (k : Int) < 40 := by omega)
         | (have hcp3 : ¬ (k : Int) < 40 := by omega)
        (try skip)
        obtain ⟨d, hd⟩ : ∃ d, l[k]? = some d := ⟨_, List.getElem?_eq_getElem hlt⟩
        obtain ⟨y, g, off, cap', he, hg, hc⟩ := HV.out.at_ (by decide) zbm hd
        cases he
        have hcw := hc w (Below.refl _ _)
        obtain ⟨ya, yc, e9⟩ := hcw.2.shape
        simp only at e9
        subst e9
        have e00 : w.cell? ⟨g, off + k * 4, none⟩ = some (.int .i64 d.num) := hcw.1 0 (by decide)
        have e0 : w.cell? ⟨g, off + k * 4 + 3, none⟩ = some (.slice ya d.gains.length yc) := hcw.1 3 (by decide)
        clear hd hc hcw hk
        by_cases t1 : (30 : Int) < (d.gains.length : Int)
        all_goals by_cases t2 : (d.gains.length : Int) ≤ 128
        all_goals
         first
          | (exfalso; omega)
          | (go_wp2; (go_ret; exact bp rfl bel))
          | (go_wp2; go_roundw; (focus (exact ⟨k + 1, by omega, by go_num, by first | rfl | trivial⟩)); (focus (simp [intOf]; omega)))
     obtain rfl : k = l.length := by omega
     go_wp2
     (go_ret; exact bp rfl bel)
theorem zrr (fa : Option Addr) (fn fc : Nat) (v : Value) (l : List ProfD) (w : World) (hv : RL 4 profA RProf w v l) :
  Calls Tryz.prog 36 #[.slice fa fn fc, v] w fun e w' => BoolPost w e w' := by
 have HV := hid hv
 obtain ⟨va, vc, rfl⟩ := hv.shape
 have hml := hv.few
 clear hv
 by_cases t0 : (12 : Int) < (fn : Int)
 all_goals by_cases t1 : (fn : Int) ≤ 64
 all_goals by_cases t2 : (6 : Int) < (l.length : Int)
 all_goals by_cases t3 : (l.length : Int) ≤ 32
 all_goals
  go_enter Tryz.func36, Tryz.ntmps36
  first
   | (exfalso; omega)
   | (go_wp2; (go_ret; exact bp rfl bel))
   | skip
     go_wp2
     go_loopw [5] (fun i wr => ∃ k : Nat, k ≤ l.length ∧ i = .int .i64 k ∧ w = wr) (fun i _ => l.length - (intOf i).toNat)
     case atStart => exact ⟨0, Nat.zero_le _, rfl, by first | rfl | trivial⟩
     case round =>
      obtain ⟨k, hk, rfl, rfl⟩ := hrel
      by_cases hlt : k < l.length
      · have hlt3 : (k : Int) < (l.length : Int) := by omega
        by_cases hcp : k < 6
        all_goals
         first
          | (have hcp3 : (k : Int) < 6 := by omega)
          | (have hcp3 : ¬ (k : Int) < 6 := by omega)
         (try skip)
         obtain ⟨d, hd⟩ : ∃ d, l[k]? = some d := ⟨_, List.getElem?_eq_getElem hlt⟩
         obtain ⟨y, g, off, cap', he, hg, hc⟩ := HV.out.at_ (by decide) zap hd
         cases he
         have hcw := hc w (Below.refl _ _)
         obtain ⟨ya, yc, e9⟩ := hcw.2.1.shape
         simp only at e9
         subst e9
         have e00 : w.cell? ⟨g, off + k * 4, none⟩ = some (.string d.name) := hcw.1 0 (by decide)
         have e0 : w.cell? ⟨g, off + k * 4 + 3, none⟩ = some (.slice ya d.feats.length yc) := hcw.1 3 (by decide)
         clear hd hc hcw hk
         by_cases t4 : (16 : Int) < (d.feats.length : Int)
         all_goals
          first
           | (exfalso; omega)
           | (go_wp2; (go_ret; exact bp rfl bel))
           | (go_wp2; go_roundw; (focus (exact ⟨k + 1, by omega, by go_num, by first | rfl | trivial⟩)); (focus (simp [intOf]; omega)))
      obtain rfl : k = l.length := by omega
      go_wp2
      (go_ret; exact bp rfl bel)
theorem zpz (a : Option Addr) (n c : Nat) (w : World) : Calls Tryz.prog 40 #[.slice a n c, .slice none 0 0] w fun e w' => BoolPost w e w' := by
 by_cases t0 : (4 : Int) < (n : Int)
 all_goals by_cases t1 : (n : Int) ≤ 16
 all_goals
  go_enter Tryz.func40, Tryz.ntmps40
  first
   | (exfalso; omega)
   | (go_wp2; (go_ret; exact bp rfl bel))
   | skip
     go_wp2
     go_loopw [5] (fun i wr => i = .int .i64 0 ∧ w = wr) (fun _ _ => 0)
     case atStart => exact ⟨rfl, by first | rfl | trivial⟩
     case round =>
      obtain ⟨rfl, rfl⟩ := hrel
      go_wp2
      (go_ret; exact bp rfl bel)
def cueS (c : CueD) : ByteArray := if cueE c = 0 then str (cueB c) else ⟨#[]⟩
theorem zyj : ∀ args W, (callFunc 70 args).run Tryz.prog W = .ok (.enter 70 args) W := enters_of Tryz.func70 (by kernel_rfl) rfl
theorem zpj (c : CueD) (v1 v2 : Value) (w : World) (h : CueAt w v1 v2 c) (hc : Cue64 c) (hcap : CapOk v1) (hlen : (cueB c).length ≤ 1000000000) (hn : c.num.size ≤ 9223372036854775806) (hk : c.link.size ≤ 9223372036854775806) :
   Calls Tryz.prog 28 #[.agg #[.string c.num, .string c.lab, v1, v2, .bool c.block, .bool c.mark, .int .i64 c.follow, .string c.link, .int .i64 c.loops]] w fun e w' => e = .returned (.tuple #[.string (cueS c), .int .i64 (cueE c)]) ∧ Below w.heap.size w w' := by
 have C := fun (W : World) (hb : Below w.heap.size w W) => zjm c v1 v2 W (h.run hb) hcap hn hc.lab hk
 have HA := hid h
 have HC := hid hc
 obtain ⟨r, hr⟩ : ∃ r, cueE c = r := ⟨_, rfl⟩
 have hS : cueS c = if r = 0 then str (cueB c) else ⟨#[]⟩ := by rw [cueS, hr]
 rw [hr] at C ⊢
 rw [hS]
 have K := hid C
 clear C h hc hr hS
 by_cases hr0 : r = 0
 · subst hr0
   rw [if_pos rfl]
   go_enter Tryz.func28, Tryz.ntmps28
   go_wp2_with fail
   refine (K.out _ bel).mono ?_
   rintro e w1 ⟨rfl, hb1⟩
   have hr : RowAt w1 w.heap.size 64 #[.string c.num, .string c.lab, v1, v2, .bool c.block, .bool c.mark, .int .i64 c.follow, .string c.link, .int .i64 c.loops] := rwt; obtain ⟨hra, hrb, hrc, hrd, hre, hrf⟩ := zaa hr
   have hbw : Below w.heap.size w w1 := bel
   have D := hid (zfo 70 (.pointer (some ⟨w.heap.size, 0, none⟩)) (cueB c) w1 (zix c) zyj (fun b W hW hb => znj w1.heap.size b w.heap.size c v1 v2 W hW (hr.run hb) (((HA.out.run hbw).moves.low (Nat.le_refl _)).kept hb) (((HA.out.run hbw).parts.low (Nat.le_refl _)).kept hb) HC.out (by omega) hb.size))
   have HB := hid hbw
   clear hra hr hb1 hbw
   go_wp2_with fail
   refine D.out.mono ?_
   rintro e w2 ⟨rfl, hb2⟩
   go_wp2
   go_ret2
   exact ⟨rfl, HB.out.trans (hb2.mono HB.out.size)⟩
 have hr1 : (r != 0) = true := by simpa using hr0
 rw [if_neg hr0]
 go_enter Tryz.func28, Tryz.ntmps28
 go_wp2_with fail
 refine (K.out _ bel).mono ?_
 rintro e w1 ⟨rfl, hb1⟩
 go_wp2
 go_ret2
 exact ⟨rfl, bel⟩
def RRd (w : World) (b : Nat) (s : ByteArray) (st : RS) : Prop := RowAt w b 139 #[.string s, .int .i64 (st.at_ : Int), .bool st.bad]
def QPost (b : Nat) (s : ByteArray) (v : Value) (st' : RS) (w : World) (e : Ending) (w' : World) : Prop := e = .returned v ∧ RRd w' b s st' ∧ Upd b w w'
theorem RRd.run {w w' : World} {b : Nat} {s : ByteArray} {st : RS} (h : RRd w b s st) (hb : Below w.heap.size w w') : RRd w' b s st := RowAt.run h hb
theorem QPost.le {b : Nat} {s : ByteArray} {v : Value} {st' : RS} {w w' : World} {e : Ending} (h : QPost b s v st' w e w') : RRd w' b s st' := h.2.1
theorem zak {w : World} {b T : Nat} {cs : Array Value} (h : RowAt w b T cs) (o : Nat) : w.cell? ⟨b, o, none⟩ = cs[o]? := (zaa h).1 o
theorem zji {b : Nat} {a w w' : World} (h : Upd b a w) (g : Upd b w w') : Upd b a w' := zbh h g
def LoopQ {α : Type} (s : ByteArray) (q : Rq α) (N : Nat) (st0 : RS) (l : List α) (st : RS) : Prop :=
 qL q N st0 = (l ++ (qL q (N - l.length) st).1, (qL q (N - l.length) st).2) ∧ st.at_ ≤ s.size ∧ l.length ≤ st.at_ + (if st.bad = true then 1 else 0)
theorem LoopQ.start {α : Type} {s : ByteArray} {q : Rq α} {N : Nat} {st0 : RS} (h : st0.at_ ≤ s.size) : LoopQ s q N st0 [] st0 := ⟨by simp, h, by simp⟩
theorem LoopQ.step {α : Type} {s : ByteArray} {q : Rq α} {N : Nat} {st0 st st' : RS} {l : List α} {x : α} (F : FwdQ s q) (h : LoopQ s q N st0 l st) (hb : st.bad = false) (hl : l.length < N) (hx : q st = (x, st')) : LoopQ s q N st0 (l ++ [x]) st' := by
 obtain ⟨h1, h2, h3⟩ := h
 have f1 := F.fwd st h2
 have f2 := F.good st h2
 rw [hx] at f1 f2
 obtain ⟨c, hc⟩ : ∃ c, N - l.length = c + 1 := ⟨N - l.length - 1, by omega⟩
 refine ⟨?_, f1.2, ?_⟩
 · rw [h1, hc, qL, if_neg (by simp [hb]), hx, List.length_append, show N - (l.length + [x].length) = c from by simp; omega]
   simp
 rw [if_neg (by simp [hb])] at h3
 simp only [List.length_append, List.length_singleton]
 cases hb' : st'.bad with
 | true => simp; simp at f1; omega
 | false =>
   have := (f2 hb').2
   simp
   simp at this
   omega
theorem LoopQ.stop {α : Type} {s : ByteArray} {q : Rq α} {N : Nat} {st0 st : RS} {l : List α} (h : LoopQ s q N st0 l st) (hs : st.bad = true ∨ N ≤ l.length) : qL q N st0 = (l, st) := by
 rw [h.1]
 rcases hs with hb | hN
 · have : qL q (N - l.length) st = ([], st) := by
    cases N - l.length with
    | zero => rfl
    | succ k => rw [qL, if_pos hb]
   rw [this]
   simp
 rw [show N - l.length = 0 from by omega]
 simp [qL]
theorem LoopQ.few {α : Type} {s : ByteArray} {q : Rq α} {N : Nat} {st0 st : RS} {l : List α} (h : LoopQ s q N st0 l st) : l.length ≤ s.size + 1 := by
 have := h.2.2
 have := h.2.1
 split at * <;> omega
theorem RowAt.nine {w : World} {k T : Nat} {c0 c1 c2 c3 c4 c5 c6 c7 c8 v0 v1 v2 v3 v4 v5 v6 v7 v8 : Value} (h : RowAt w k T #[c0, c1, c2, c3, c4, c5, c6, c7, c8]) : RowAt (((((((((w.setCell ⟨k, 0, none⟩ v0).setCell ⟨k, 1, none⟩ v1).setCell ⟨k, 2, none⟩ v2).setCell ⟨k, 3, none⟩ v3).setCell ⟨k, 4, none⟩ v4).setCell ⟨k, 5, none⟩ v5).setCell ⟨k, 6, none⟩ v6).setCell ⟨k, 7, none⟩ v7).setCell ⟨k, 8, none⟩ v8) k T #[v0, v1, v2, v3, v4, v5, v6, v7, v8] := by
 have h0 : RowAt (w.setCell ⟨k, 0, none⟩ v0) k T #[v0, c1, c2, c3, c4, c5, c6, c7, c8] := RowAt.set (i := 0) (u := v0) h rfl
 have h1 : RowAt ((w.setCell ⟨k, 0, none⟩ v0).setCell ⟨k, 1, none⟩ v1) k T #[v0, v1, c2, c3, c4, c5, c6, c7, c8] := RowAt.set (i := 1) (u := v1) h0 rfl
 have h2 : RowAt (((w.setCell ⟨k, 0, none⟩ v0).setCell ⟨k, 1, none⟩ v1).setCell ⟨k, 2, none⟩ v2) k T #[v0, v1, v2, c3, c4, c5, c6, c7, c8] := RowAt.set (i := 2) (u := v2) h1 rfl
 have h3 : RowAt ((((w.setCell ⟨k, 0, none⟩ v0).setCell ⟨k, 1, none⟩ v1).setCell ⟨k, 2, none⟩ v2).setCell ⟨k, 3, none⟩ v3) k T #[v0, v1, v2, v3, c4, c5, c6, c7, c8] := RowAt.set (i := 3) (u := v3) h2 rfl
 have h4 : RowAt (((((w.setCell ⟨k, 0, none⟩ v0).setCell ⟨k, 1, none⟩ v1).setCell ⟨k, 2, none⟩ v2).setCell ⟨k, 3, none⟩ v3).setCell ⟨k, 4, none⟩ v4) k T #[v0, v1, v2, v3, v4, c5, c6, c7, c8] := RowAt.set (i := 4) (u := v4) h3 rfl
 have h5 : RowAt ((((((w.setCell ⟨k, 0, none⟩ v0).setCell ⟨k, 1, none⟩ v1).setCell ⟨k, 2, none⟩ v2).setCell ⟨k, 3, none⟩ v3).setCell ⟨k, 4, none⟩ v4).setCell ⟨k, 5, none⟩ v5) k T #[v0, v1, v2, v3, v4, v5, c6, c7, c8] := RowAt.set (i := 5) (u := v5) h4 rfl
 have h6 : RowAt (((((((w.setCell ⟨k, 0, none⟩ v0).setCell ⟨k, 1, none⟩ v1).setCell ⟨k, 2, none⟩ v2).setCell ⟨k, 3, none⟩ v3).setCell ⟨k, 4, none⟩ v4).setCell ⟨k, 5, none⟩ v5).setCell ⟨k, 6, none⟩ v6) k T #[v0, v1, v2, v3, v4, v5, v6, c7, c8] := RowAt.set (i := 6) (u := v6) h5 rfl
 have h7 : RowAt ((((((((w.setCell ⟨k, 0, none⟩ v0).setCell ⟨k, 1, none⟩ v1).setCell ⟨k, 2, none⟩ v2).setCell ⟨k, 3, none⟩ v3).setCell ⟨k, 4, none⟩ v4).setCell ⟨k, 5, none⟩ v5).setCell ⟨k, 6, none⟩ v6).setCell ⟨k, 7, none⟩ v7) k T #[v0, v1, v2, v3, v4, v5, v6, v7, c8] := RowAt.set (i := 7) (u := v7) h6 rfl
 have h8 : RowAt (((((((((w.setCell ⟨k, 0, none⟩ v0).setCell ⟨k, 1, none⟩ v1).setCell ⟨k, 2, none⟩ v2).setCell ⟨k, 3, none⟩ v3).setCell ⟨k, 4, none⟩ v4).setCell ⟨k, 5, none⟩ v5).setCell ⟨k, 6, none⟩ v6).setCell ⟨k, 7, none⟩ v7).setCell ⟨k, 8, none⟩ v8) k T #[v0, v1, v2, v3, v4, v5, v6, v7, v8] := RowAt.set (i := 8) (u := v8) h7 rfl
 exact h8
theorem ze8 {k : Nat} {w : World} {v0 v1 v2 v3 v4 v5 v6 v7 v8 : Value} : Upd k w (((((((((w.setCell ⟨k, 0, none⟩ v0).setCell ⟨k, 1, none⟩ v1).setCell ⟨k, 2, none⟩ v2).setCell ⟨k, 3, none⟩ v3).setCell ⟨k, 4, none⟩ v4).setCell ⟨k, 5, none⟩ v5).setCell ⟨k, 6, none⟩ v6).setCell ⟨k, 7, none⟩ v7).setCell ⟨k, 8, none⟩ v8) := by
 have h0 : Upd k w (w.setCell ⟨k, 0, none⟩ v0) := zav (za5 k w) 0 v0
 have h1 : Upd k w ((w.setCell ⟨k, 0, none⟩ v0).setCell ⟨k, 1, none⟩ v1) := zav h0 1 v1
 have h2 : Upd k w (((w.setCell ⟨k, 0, none⟩ v0).setCell ⟨k, 1, none⟩ v1).setCell ⟨k, 2, none⟩ v2) := zav h1 2 v2
 have h3 : Upd k w ((((w.setCell ⟨k, 0, none⟩ v0).setCell ⟨k, 1, none⟩ v1).setCell ⟨k, 2, none⟩ v2).setCell ⟨k, 3, none⟩ v3) := zav h2 3 v3
 have h4 : Upd k w (((((w.setCell ⟨k, 0, none⟩ v0).setCell ⟨k, 1, none⟩ v1).setCell ⟨k, 2, none⟩ v2).setCell ⟨k, 3, none⟩ v3).setCell ⟨k, 4, none⟩ v4) := zav h3 4 v4
 have h5 : Upd k w ((((((w.setCell ⟨k, 0, none⟩ v0).setCell ⟨k, 1, none⟩ v1).setCell ⟨k, 2, none⟩ v2).setCell ⟨k, 3, none⟩ v3).setCell ⟨k, 4, none⟩ v4).setCell ⟨k, 5, none⟩ v5) := zav h4 5 v5
 have h6 : Upd k w (((((((w.setCell ⟨k, 0, none⟩ v0).setCell ⟨k, 1, none⟩ v1).setCell ⟨k, 2, none⟩ v2).setCell ⟨k, 3, none⟩ v3).setCell ⟨k, 4, none⟩ v4).setCell ⟨k, 5, none⟩ v5).setCell ⟨k, 6, none⟩ v6) := zav h5 6 v6
 have h7 : Upd k w ((((((((w.setCell ⟨k, 0, none⟩ v0).setCell ⟨k, 1, none⟩ v1).setCell ⟨k, 2, none⟩ v2).setCell ⟨k, 3, none⟩ v3).setCell ⟨k, 4, none⟩ v4).setCell ⟨k, 5, none⟩ v5).setCell ⟨k, 6, none⟩ v6).setCell ⟨k, 7, none⟩ v7) := zav h6 7 v7
 have h8 : Upd k w (((((((((w.setCell ⟨k, 0, none⟩ v0).setCell ⟨k, 1, none⟩ v1).setCell ⟨k, 2, none⟩ v2).setCell ⟨k, 3, none⟩ v3).setCell ⟨k, 4, none⟩ v4).setCell ⟨k, 5, none⟩ v5).setCell ⟨k, 6, none⟩ v6).setCell ⟨k, 7, none⟩ v7).setCell ⟨k, 8, none⟩ v8) := zav h7 8 v8
 exact h8
theorem zhn {α : Type} {S : Nat} {f : α → Array Value} {w w' : World} {k : Nat} {v : Value} {l : List α} (h : ListAt S f w v l) (hu : Upd k w w') (hk : ∀ b off cap, v = .slice (some ⟨b, off, none⟩) l.length cap → 0 < l.length → b ≠ k) : ListAt S f w' v l := by
 rcases h with h | ⟨h0, h1, b, off, cap, rfl, hlt, hc⟩
 · exact .inl h
 refine .inr ⟨h0, h1, b, off, cap, rfl, Nat.lt_of_lt_of_le hlt hu.size, fun j hj => ?_⟩
 rw [← hc j hj]
 exact World.cell?_of_block (hu.block b hlt (fun e => hk b off cap rfl h0 (Option.some.inj e)))
def PRd (w : World) (b : Nat) (s : ByteArray) (a : Nat) : Prop := RowAt w b 110 #[.string s, .int .i64 (a : Int)]
def BadE : Ending := .panicked [{ v := .iface 200 (.agg #[.int .i64 3]), recovered := false }]
def PPost {α : Type} (b : Nat) (s : ByteArray) (f : α → Value) (r : Option (α × Nat)) (w : World) (e : Ending) (w' : World) : Prop :=
 match r with
 | some (x, k) => e = .returned (f x) ∧ PRd w' b s k ∧ Upd b w w'
 | none => e = BadE ∧ Upd b w w'
theorem PRd.run {w w' : World} {b : Nat} {s : ByteArray} {a : Nat} (h : PRd w b s a) (hb : Below w.heap.size w w') : PRd w' b s a := RowAt.run h hb
theorem zao {w w' : World} (h : Below w.drew.heap.size w.drew w') : Below w.heap.size w w' := ⟨h.os, h.tape, h.output, h.size, h.block⟩
theorem zdb {b : Nat} {w w' : World} (h : Below w.heap.size w w') : Upd b w w' := zbp (za5 b w) h
theorem zih (b : Nat) (s : ByteArray) (a n : Nat) (w : World) (h : PRd w b s a) :
  Calls Tryz.prog 262 #[.pointer (some ⟨b, 0, none⟩), .int .i64 (n : Int), .int .i64 0] w fun e w' => e = .returned (.tuple #[]) ∧ PRd w' b s n ∧ Upd b w w' := by
 obtain ⟨x1, x2, x3, x4, x5, x6⟩ := zaa h
 have HS := hid (And.intro (show PRd (w.setCell ⟨b, 1, none⟩ (.int .i64 (n : Int))) b s n from RowAt.set h rfl) (show Upd b w (w.setCell ⟨b, 1, none⟩ (.int .i64 (n : Int))) from zav (za5 _ _) _ _))
 clear h
 go_enter Tryz.func262, Tryz.ntmps262
 go_wp2
 (first | go_end0 | refine bodyPost_ret (results_none rfl _ _ _) rfl ?_)
 exact ⟨rfl, HS.out.1, HS.out.2⟩
theorem zje (b : Nat) (c n : Int) (w : World) (hc : (c != 0) = true) :
  Calls Tryz.prog 262 #[.pointer (some ⟨b, 0, none⟩), .int .i64 n, .int .i64 c] w fun e w' => e = BadE ∧ w' = w := by
 go_enter Tryz.func262, Tryz.ntmps262
 go_wp2
 exact ⟨rfl, rfl, rfl⟩
theorem zl8 (b : Nat) (s : ByteArray) (a : Nat) (w : World) (h : PRd w b s a) (ha : a ≤ s.size) (hs : s.size ≤ 1000000) :
   Calls Tryz.prog 178 #[.pointer (some ⟨b, 0, none⟩)] w fun e w' => PPost b s (fun n => .int .i64 n) (rI s a) w e w' := by
 have C := hid (fun W => zyg s a W ha hs)
 obtain ⟨x1, x2, x3, x4, x5, x6⟩ := zaa h
 clear hs ha
 cases hx : getI s a with
 | error c =>
   have hc : c = 20 ∨ c = 3 := zds hx
   have hc0 : (c != 0) = true := by rw [bne_iff_ne]; omega
   have HX := hid (show rI s a = none from by simp [rI, hx, Except.toOption])
   have K := hid (fun W n => zje b c n W hc0)
   rw [hx] at C
   have C' := C.out
   simp only [intV] at C'
   have HC := hid C'
   clear C'
   have HP := hid h
   clear hx hc hc0 C h
   go_enter Tryz.func178, Tryz.ntmps178
   go_wp2
   go_region_held3 (fun w' => w'.cell? ⟨b, 0, none⟩ = some (.string s) ∧ w'.cell? ⟨b, 1, none⟩ = some (.int .i64 (a : Int))) (first | go_keep | exact ⟨(zaa (HP.out.run (zao (by assumption)))).1 0, (zaa (HP.out.run (zao (by assumption)))).1 1⟩) ((go_at_call 264; refine (HC.out _).mono ?_; rintro e w1 ⟨rfl, hb1'⟩))
   have hb1 := zao hb1'
   clear hb1'
   go_wp2_with fail
   refine (K.out _ _).mono ?_
   rintro e w2 ⟨rfl, rfl⟩
   simp only [BadE]
   go_wp2
   exact ⟨rfl, by rw [HX.out]; exact ⟨rfl, zdb hb1⟩⟩
 | ok y =>
   obtain ⟨n, nx⟩ := y
   have HX := hid (show rI s a = some (n, nx) from by simp [rI, hx, Except.toOption])
   have K := hid (fun W (hb : Below w.heap.size w W) => zih b s a nx W (h.run hb))
   rw [hx] at C
   have C' := C.out
   simp only [intV] at C'
   have HC := hid C'
   clear C'
   have HP := hid h
   clear hx C h
   go_enter Tryz.func178, Tryz.ntmps178
   go_wp2
   go_region_held3 (fun w' => w'.cell? ⟨b, 0, none⟩ = some (.string s) ∧ w'.cell? ⟨b, 1, none⟩ = some (.int .i64 (a : Int))) (first | go_keep | exact ⟨(zaa (HP.out.run (zao (by assumption)))).1 0, (zaa (HP.out.run (zao (by assumption)))).1 1⟩) ((go_at_call 264; refine (HC.out _).mono ?_; rintro e w1 ⟨rfl, hb1'⟩))
   have hb1 := zao hb1'
   clear hb1'
   go_wp2_with fail
   refine (K.out _ hb1).mono ?_
   rintro e w2 ⟨rfl, hp2, hu2⟩
   go_wp2
   go_ret
   rw [HX.out]
   exact ⟨rfl, hp2, zbh (zdb hb1) hu2⟩
theorem zjx (b : Nat) (s : ByteArray) (a : Nat) (w : World) (h : PRd w b s a) (ha : a ≤ s.size) (hs : s.size ≤ 1000000) :
   Calls Tryz.prog 172 #[.pointer (some ⟨b, 0, none⟩)] w fun e w' => PPost b s (fun x => .string x) (rT s a) w e w' := by
 have C := hid (fun W => znx s a W ha hs)
 obtain ⟨x1, x2, x3, x4, x5, x6⟩ := zaa h
 clear hs ha
 cases hx : getT s a with
 | error c =>
   have hc : c = 20 ∨ c = 3 := zin hx
   have hc0 : (c != 0) = true := by rw [bne_iff_ne]; omega
   have HX := hid (show rT s a = none from by simp [rT, hx, Except.toOption])
   have K := hid (fun W n => zje b c n W hc0)
   rw [hx] at C
   have C' := C.out
   simp only [textV] at C'
   have HC := hid C'
   clear C'
   have HP := hid h
   clear hx hc hc0 C h
   go_enter Tryz.func172, Tryz.ntmps172
   go_wp2
   go_region_held3 (fun w' => w'.cell? ⟨b, 0, none⟩ = some (.string s) ∧ w'.cell? ⟨b, 1, none⟩ = some (.int .i64 (a : Int))) (first | go_keep | exact ⟨(zaa (HP.out.run (zao (by assumption)))).1 0, (zaa (HP.out.run (zao (by assumption)))).1 1⟩) ((go_at_call 261; refine (HC.out _).mono ?_; rintro e w1 ⟨rfl, hb1'⟩))
   have hb1 := zao hb1'
   clear hb1'
   go_wp2_with fail
   refine (K.out _ _).mono ?_
   rintro e w2 ⟨rfl, rfl⟩
   simp only [BadE]
   go_wp2
   exact ⟨rfl, by rw [HX.out]; exact ⟨rfl, zdb hb1⟩⟩
 | ok y =>
   obtain ⟨n, nx⟩ := y
   have HX := hid (show rT s a = some (n, nx) from by simp [rT, hx, Except.toOption])
   have K := hid (fun W (hb : Below w.heap.size w W) => zih b s a nx W (h.run hb))
   rw [hx] at C
   have C' := C.out
   simp only [textV] at C'
   have HC := hid C'
   clear C'
   have HP := hid h
   clear hx C h
   go_enter Tryz.func172, Tryz.ntmps172
   go_wp2
   go_region_held3 (fun w' => w'.cell? ⟨b, 0, none⟩ = some (.string s) ∧ w'.cell? ⟨b, 1, none⟩ = some (.int .i64 (a : Int))) (first | go_keep | exact ⟨(zaa (HP.out.run (zao (by assumption)))).1 0, (zaa (HP.out.run (zao (by assumption)))).1 1⟩) ((go_at_call 261; refine (HC.out _).mono ?_; rintro e w1 ⟨rfl, hb1'⟩))
   have hb1 := zao hb1'
   clear hb1'
   go_wp2_with fail
   refine (K.out _ hb1).mono ?_
   rintro e w2 ⟨rfl, hp2, hu2⟩
   go_wp2
   go_ret
   rw [HX.out]
   exact ⟨rfl, hp2, zbh (zdb hb1) hu2⟩
theorem zvf (b : Nat) (s : ByteArray) (a : Nat) (w : World) (h : PRd w b s a) :
   Calls Tryz.prog 51 #[.pointer (some ⟨b, 0, none⟩)] w fun e w' => Upd b w w' ∧ e = if a = s.size then .returned (.tuple #[]) else BadE := by
 obtain ⟨x1, x2, x3, x4, x5, x6⟩ := zaa h
 clear h
 by_cases hq : a = s.size
 · subst hq
   go_enter Tryz.func51, Tryz.ntmps51
   go_wp2
   go_region_held3 (fun w' => w'.cell? ⟨b, 0, none⟩ = some (.string s) ∧ w'.cell? ⟨b, 1, none⟩ = some (.int .i64 (s.size : Int))) (go_keep) (fail)
   go_wp2
   (first | go_end0 | refine bodyPost_ret (results_none rfl _ _ _) rfl ?_)
   exact ⟨zfi (za5 _ _) _, rfl⟩
 have hq1 : ((a : Int) != (s.size : Int)) = true := by rw [bne_iff_ne]; omega
 have HQ := hid hq
 clear hq
 go_enter Tryz.func51, Tryz.ntmps51
 go_wp2
 go_region_held3 (fun w' => w'.cell? ⟨b, 0, none⟩ = some (.string s) ∧ w'.cell? ⟨b, 1, none⟩ = some (.int .i64 (a : Int))) (go_keep) (fail)
 go_wp2
 exact ⟨rfl, zfi (za5 _ _) _, rfl⟩
structure Upd2 (b t : Nat) (w w' : World) : Prop where
 os : w'.os = w.os
 tape : w'.tape = w.tape
 output : w'.output = w.output
 size : w.heap.size ≤ w'.heap.size
 block : ∀ k, k < w.heap.size → k ≠ b → k ≠ t → w'.heap[k]? = w.heap[k]?
theorem Upd2.refl (b t : Nat) (w : World) : Upd2 b t w w := ⟨rfl, rfl, rfl, Nat.le_refl _, fun _ _ _ _ => rfl⟩
theorem Upd2.upd {b t : Nat} {a w w' : World} (h : Upd2 b t a w) (hu : Upd b w w') : Upd2 b t a w' :=
 ⟨hu.os.trans h.os, hu.tape.trans h.tape, hu.output.trans h.output, Nat.le_trans h.size hu.size, fun k hk h1 h2 => (hu.block k (by have := h.size; omega) (by simp; omega)).trans (h.block k hk h1 h2)⟩
theorem Upd2.trans {b t : Nat} {a w w' : World} (h : Upd2 b t a w) (hu : Upd2 b t w w') : Upd2 b t a w' :=
 ⟨hu.os.trans h.os, hu.tape.trans h.tape, hu.output.trans h.output, Nat.le_trans h.size hu.size, fun k hk h1 h2 => (hu.block k (by have := h.size; omega) h1 h2).trans (h.block k hk h1 h2)⟩
theorem Upd2.set {b t : Nat} {a w : World} (h : Upd2 b t a w) (o : Nat) (u : Value) : Upd2 b t a (w.setCell ⟨t, o, none⟩ u) :=
 ⟨h.os, h.tape, h.output, by simpa using h.size, fun k hk h1 h2 => (heap_setCell_other w ⟨t, o, none⟩ k u h2).trans (h.block k hk h1 h2)⟩
theorem Upd2.below {b t : Nat} {a w w' : World} (h : Upd2 b t a w) (hb : Below w.heap.size w w') : Upd2 b t a w' := h.upd (zdb hb)
def LoopR {α : Type} (s : ByteArray) (f : Rd α) (N a : Nat) (l : List α) (c : Nat) : Prop :=
 rL f N a = (rL f (N - l.length) c).map (fun y => (l ++ y.1, y.2)) ∧ c ≤ s.size ∧ l.length ≤ c ∧ l.length ≤ N
theorem LoopR.start {α : Type} {s : ByteArray} {f : Rd α} {N a : Nat} (h : a ≤ s.size) : LoopR s f N a [] a := ⟨by simp, h, by simp, by simp⟩
theorem LoopR.step {α : Type} {s : ByteArray} {f : Rd α} {N a c c' : Nat} {l : List α} {x : α} (F : Fwd s f) (h : LoopR s f N a l c) (hl : l.length < N) (hx : f c = some (x, c')) : LoopR s f N a (l ++ [x]) c' := by
 obtain ⟨h1, h2, h3, h4⟩ := h
 have f1 := F c x c' hx h2
 obtain ⟨d, hd⟩ : ∃ d, N - l.length = d + 1 := ⟨N - l.length - 1, by omega⟩
 refine ⟨?_, f1.2, by simp; omega, by simp; omega⟩
 rw [h1, hd, rL, hx, List.length_append, show N - (l.length + [x].length) = d from by simp; omega]
 simp only [Option.bind_some]
 cases rL f d c' <;> simp
theorem LoopR.fail {α : Type} {s : ByteArray} {f : Rd α} {N a c : Nat} {l : List α} (h : LoopR s f N a l c) (hl : l.length < N) (hx : f c = none) : rL f N a = none := by
 obtain ⟨d, hd⟩ : ∃ d, N - l.length = d + 1 := ⟨N - l.length - 1, by omega⟩
 rw [h.1, hd, rL, hx]
 rfl
theorem LoopR.stop {α : Type} {s : ByteArray} {f : Rd α} {N a c : Nat} {l : List α} (h : LoopR s f N a l c) (hl : N ≤ l.length) : rL f N a = some (l, c) := by
 rw [h.1, show N - l.length = 0 from by omega]
 simp [rL]
theorem zfj {w : World} {B B' T S n : Nat} {v : Value} {xs : List Value} (h : w.ownsRow B' T S v n xs) (hB : B ≤ B') : w.ownsRow B T S v n xs := by
 refine ⟨h.1, ?_⟩
 rcases h.2 with hn | ⟨g, cap, cur, rfl, hbg, rest⟩
 · exact .inl hn
 exact .inr ⟨g, cap, cur, rfl, Nat.le_trans hB hbg, rest⟩
theorem zw8 (v : Value) (w : World) : (Instr.typeAssert (.iface 200 v) 20 200 true).run Tryz.prog w = .ok (.tuple #[v, .bool true]) w := by kernel_rfl
theorem zly (k : Nat) (w : World) :
  CallsD Tryz.prog 132 #[.pointer (some ⟨k, 0, none⟩)] .returning w fun e u' w' => e = .returned (.tuple #[]) ∧ u' = .returning ∧ w' = w := by
 refine callsD_of_wpS Tryz.func132 rfl fun c₀ cs hu => ?_
 apply wpS_seq
 apply wpS_region
 simp [wpOpsS, go_sem, recoverD, hu, Tryz.ntmps132, Exit.thenS]
 refine wpS_of_wp ?_
 simp only [List.replicate, Array.replicate]
 go_wp2
 exact ⟨rfl, _, by cases c₀; simp_all, _, results_none rfl _ _ _, rfl, rfl, rfl⟩
theorem zvj (K : Nat) (caps : Array Value) (w : World) (R : World → Prop)
  (hk : ∀ args W, (callFunc K args).run Tryz.prog W = .ok (.enter K args) W)
  (h : Calls Tryz.prog K caps (w.alloc (.cells #[.int .i64 0] 35)) fun e w' => e = .returned (.tuple #[]) ∧ RowAt w' w.heap.size 35 #[.int .i64 0] ∧ R w')
  : Calls Tryz.prog 49 #[.func (.func K) #[] caps] w fun e w' => e = .returned (.int .i64 0) ∧ ∃ w1, R w1 ∧ Upd w.heap.size w1 w' := by
 have hmf : ∀ (fn : Fn) (first cap : Array Value) (w : World), (Instr.makeFunc fn first cap).run Tryz.prog w = .ok (.func fn first cap) w := fun _ _ _ _ => rfl
 have HC := hid h
 clear h
 go_enter_defers Tryz.func49, Tryz.ntmps49
 go_wp2_with fail
 refine HC.out.mono ?_
 rintro e w1 ⟨rfl, hr1, hR⟩
 obtain ⟨x1, x2, x3, x4, x5, x6⟩ := zaa hr1
 have h1 : RowAt (w1.setCell ⟨w.heap.size, 0, none⟩ (.int .i64 0)) w.heap.size 35 #[.int .i64 0] := RowAt.set hr1 rfl
 have h2 : Upd w.heap.size w1 (w1.setCell ⟨w.heap.size, 0, none⟩ (.int .i64 0)) := zav (za5 _ _) _ _
 have HH := hid (And.intro hR h2)
 have f0 := zak h1 0
 simp at f0
 clear hR h2 hr1 h1
 go_wp2
 refine leaves_cons (f := 132) (args := #[.pointer (some ⟨w.heap.size, 0, none⟩)]) (by simp) (by simp [go_sem]) ?_
 refine (zly w.heap.size _).mono ?_
 rintro e u' w2 ⟨rfl, rfl, rfl⟩
 exact ⟨_, by simp [results, Tryz.results49, go_sem, f0], rfl, _, HH.out⟩
theorem zm0 {k r : Nat} {a w w' : World} (h : Upd k a w) (hu : Upd r w w') (hr : a.heap.size ≤ r) : Upd k a w' :=
 ⟨hu.os.trans h.os, hu.tape.trans h.tape, hu.output.trans h.output, Nat.le_trans h.size hu.size, fun j hj hne => (hu.block j (by have := h.size; omega) (by simp; omega)).trans (h.block j hj hne)⟩
theorem CueAt.upd {w w' : World} {k B : Nat} {v1 v2 : Value} {c : CueD} (h : CueAt w v1 v2 c) (hu : Upd k w w') (h1 : NewB B v1) (h2 : NewB B v2) (hk : k < B) : CueAt w' v1 v2 c :=
 ⟨zhn h.moves hu (fun b off cap he _ => by have := h1 b off _ _ he; omega), zhn h.parts hu (fun b off cap he _ => by have := h2 b off _ _ he; omega)⟩
theorem NewB.mono {B B' : Nat} {v : Value} (h : NewB B' v) (hB : B ≤ B') : NewB B v := fun g off n cap he => Nat.le_trans hB (h g off n cap he)
theorem zt2 (x : ByteArray) : (x != x) = false := by
 obtain ⟨x⟩ := x
 show (!(x == x)) = false
 simp
def FewPost (c : CueD) (w : World) (e : Ending) (w' : World) : Prop := ∃ t, e = .returned (.bool t) ∧ (t = true → c.num.size ≤ 40 ∧ c.lab.size ≤ 100 ∧ c.link.size ≤ 40 ∧ c.parts.length ≤ 10 ∧ c.moves.length ≤ 300) ∧ Below w.heap.size w w'
theorem zau (c : CueD) (a1 a2 : Option Addr) (p1 p2 : Nat) (w : World) :
   Calls Tryz.prog 27 #[.agg #[.string c.num, .string c.lab, .slice a1 c.moves.length p1, .slice a2 c.parts.length p2, .bool c.block, .bool c.mark, .int .i64 c.follow, .string c.link, .int .i64 c.loops]] w fun e w' => FewPost c w e w' := by
 obtain ⟨nu, la, ms, l, bl, mk, fo, li, lo⟩ := c
 simp only
 have b1 : Below w.heap.size w (w.alloc (.cells #[.string nu, .string la, .slice a1 ms.length p1, .slice a2 l.length p2, .bool bl, .bool mk, .int .i64 fo, .string li, .int .i64 lo] 64)) := bel
 have HB := hid b1
 clear b1
 by_cases h1 : (nu.size : Int) ≤ 40
 · by_cases h2 : (la.size : Int) ≤ 100
   · by_cases h3 : (li.size : Int) ≤ 40
     · by_cases h4 : (l.length : Int) ≤ 10
       · go_enter Tryz.func27, Tryz.ntmps27
         go_wp2
         go_ret
         exact ⟨_, rfl, (fun h => by
          show nu.size ≤ 40 ∧ la.size ≤ 100 ∧ li.size ≤ 40 ∧ l.length ≤ 10 ∧ ms.length ≤ 300
          have h5 := h
          simp at h5
          omega), HB.out⟩
       go_enter Tryz.func27, Tryz.ntmps27
       go_wp2
       go_ret
       exact ⟨false, rfl, (fun h => by cases h), HB.out⟩
     go_enter Tryz.func27, Tryz.ntmps27
     go_wp2
     go_ret
     exact ⟨false, rfl, (fun h => by cases h), HB.out⟩
   go_enter Tryz.func27, Tryz.ntmps27
   go_wp2
   go_ret
   exact ⟨false, rfl, (fun h => by cases h), HB.out⟩
 go_enter Tryz.func27, Tryz.ntmps27
 go_wp2
 go_ret
 exact ⟨false, rfl, (fun h => by cases h), HB.out⟩
theorem ztx (d : ProfD) (v : Value) (w : World) (hv : RL 10 featA RFeat w v d.feats) :
  Calls Tryz.prog 41 #[.agg (profA (d, v))] w fun e w' => BoolPost w e w' := by
 have HV := hid hv
 obtain ⟨va, vc, rfl⟩ := hv.shape
 have hml := hv.few
 simp only [profA]
 obtain ⟨Z, hZ⟩ : ∃ Z, w.alloc (.cells #[.string d.name, .int .i64 d.foot, .int .i64 d.watts, .slice va d.feats.length vc] 89) = Z := ⟨_, rfl⟩
 have r0 : RowAt Z w.heap.size 89 #[.string d.name, .int .i64 d.foot, .int .i64 d.watts, .slice va d.feats.length vc] := by rw [← hZ]; exact RowAt.new _ _ _
 have hbz : Below w.heap.size w Z := by rw [← hZ]; exact bel
 have HB := hid hbz
 obtain ⟨x1, x2, x3, x4, x5, x6⟩ := zaa r0
 clear hv r0
 go_enter Tryz.func41, Tryz.ntmps41
 go_wp2
 go_loopw [3] (fun i wr => ∃ k : Nat, k ≤ d.feats.length ∧ i = .int .i64 k ∧ Z = wr) (fun i _ => d.feats.length - (intOf i).toNat)
 case atStart => exact ⟨0, Nat.zero_le _, rfl, by first | rfl | trivial⟩
 case round =>
  obtain ⟨k, hk, rfl, rfl⟩ := hrel
  by_cases hlt : k < d.feats.length
  · have hlt3 : (k : Int) < (d.feats.length : Int) := by omega
    obtain ⟨f, hf⟩ : ∃ f, d.feats[k]? = some f := ⟨_, List.getElem?_eq_getElem hlt⟩
    obtain ⟨y, g, off, cap', he, hg, hc⟩ := HV.out.at_ (by decide) za6 hf
    cases he
    have hcw := hc Z HB.out
    obtain ⟨ya, yc, e9⟩ := hcw.2.1.shape
    simp only at e9
    subst e9
    have e00 : Z.cell? ⟨g, off + k * 10, none⟩ = some (.int .i64 f.attr) := hcw.1 0 (by decide)
    have e0 : Z.cell? ⟨g, off + k * 10 + 9, none⟩ = some (.slice ya f.wheel.length yc) := hcw.1 9 (by decide)
    clear hf hc hcw hk
    by_cases hcp : (k : Int) < 40
    all_goals by_cases t1 : (40 : Int) < (f.wheel.length : Int)
    all_goals
     by_cases t2 : (d.feats.length : Int) ≤ 40
     · first
       | (exfalso; omega)
       | (go_wp2; (go_ret; exact bp rfl HB.out))
       | (go_wp2; go_roundw; (focus (exact ⟨k + 1, by omega, by go_num, by first | rfl | trivial⟩)); (focus (simp [intOf]; omega)))
     first
      | (exfalso; omega)
      | (go_wp2; (go_ret; exact bp rfl HB.out))
      | (go_wp2; go_roundw; (focus (exact ⟨k + 1, by omega, by go_num, by first | rfl | trivial⟩)); (focus (simp [intOf]; omega)))
  obtain rfl : k = d.feats.length := by omega
  by_cases t2 : (d.feats.length : Int) ≤ 40
  · go_wp2
    go_ret
    exact bp rfl HB.out
  go_wp2
  go_ret
  exact bp rfl HB.out
theorem zox (d : LstD) (v : Value) (w : World) (hv : RL 9 cueYA RCueY w v d.cues) :
   Calls Tryz.prog 80 #[.agg (lstA (d, v))] w fun e w' => BoolPost w e w' := by
 have HV := hid hv
 obtain ⟨va, vc, rfl⟩ := hv.shape
 have hml := hv.few
 simp only [lstA]
 obtain ⟨Z, hZ⟩ : ∃ Z, w.alloc (.cells #[.int .i64 d.num, .int .i64 d.pri, .slice va d.cues.length vc] 93) = Z := ⟨_, rfl⟩
 have r0 : RowAt Z w.heap.size 93 #[.int .i64 d.num, .int .i64 d.pri, .slice va d.cues.length vc] := by rw [← hZ]; exact RowAt.new _ _ _
 have hbz : Below w.heap.size w Z := by rw [← hZ]; exact bel
 have HB := hid (And.intro r0 hbz)
 obtain ⟨x1, x2, x3, x4, x5, x6⟩ := zaa r0
 clear hv r0
 by_cases t0 : (128 : Int) < (d.cues.length : Int)
 · go_enter Tryz.func80, Tryz.ntmps80
   go_wp2
   go_ret
   exact bp rfl HB.out.2
 go_enter Tryz.func80, Tryz.ntmps80
 go_wp2
 clear x1 x2 x3 x4 x5 x6
 go_loopw [3] (fun i wr => ∃ k : Nat, k ≤ d.cues.length ∧ i = .int .i64 k ∧ Hid (Below Z.heap.size Z wr)) (fun i _ => d.cues.length - (intOf i).toNat)
 case atStart => exact ⟨0, Nat.zero_le _, rfl, hid (Below.refl _ _)⟩
 case round =>
   obtain ⟨k, hk, rfl, hh⟩ := hrel
   obtain ⟨x1, x2, x3, x4, x5, x6⟩ := zaa (HB.out.1.run hh.out)
   have hbw : Below w.heap.size w wr := HB.out.2.trans (hh.out.mono HB.out.2.size)
   by_cases hlt : k < d.cues.length
   · have hlt3 : (k : Int) < (d.cues.length : Int) := by omega
     obtain ⟨c, hc0⟩ : ∃ c, d.cues[k]? = some c := ⟨_, List.getElem?_eq_getElem hlt⟩
     obtain ⟨⟨ca, cb⟩, g, off, cap', he, hg, hc⟩ := RL.at_ (by decide) zbr HV.out hc0
     cases he
     have hcw := (hc wr hbw).1
     have hRc := (hc w (Below.refl _ _)).2
     obtain ⟨va, vac, e8⟩ := hRc.at_.moves.shape
     obtain ⟨vb, vbc, e9⟩ := hRc.at_.parts.shape
     simp only at e8 e9
     subst e8 e9
     have f0 : wr.cell? ⟨g, off + k * 9, none⟩ = some (.string c.num) := hcw 0 (by decide)
     have f1 : wr.cell? ⟨g, off + k * 9 + 1, none⟩ = some (.string c.lab) := hcw 1 (by decide)
     have f2 : wr.cell? ⟨g, off + k * 9 + 2, none⟩ = some (.slice va c.moves.length vac) := hcw 2 (by decide)
     have f3 : wr.cell? ⟨g, off + k * 9 + 3, none⟩ = some (.slice vb c.parts.length vbc) := hcw 3 (by decide)
     have f4 : wr.cell? ⟨g, off + k * 9 + 4, none⟩ = some (.bool c.block) := hcw 4 (by decide)
     have f5 : wr.cell? ⟨g, off + k * 9 + 5, none⟩ = some (.bool c.mark) := hcw 5 (by decide)
     have f6 : wr.cell? ⟨g, off + k * 9 + 6, none⟩ = some (.int .i64 c.follow) := hcw 6 (by decide)
     have f7 : wr.cell? ⟨g, off + k * 9 + 7, none⟩ = some (.string c.link) := hcw 7 (by decide)
     have f8 : wr.cell? ⟨g, off + k * 9 + 8, none⟩ = some (.int .i64 c.loops) := hcw 8 (by decide)
     have C := hid (zau c va vb vac vbc wr)
     clear hc0 hc hcw hRc hk
     go_wp2_with fail
     refine C.out.mono ?_
     rintro e w1 ⟨t, rfl, -, hb1⟩
     have H1 := hid (hh.out.trans (hb1.mono hh.out.size))
     have hq := hid (HB.out.2.trans (H1.out.mono HB.out.2.size))
     clear hb1
     cases t with
     | true =>
       go_wp2
       go_roundw
       case rel => exact ⟨k + 1, by omega, by go_num, H1⟩
       case measure => simp [intOf]; omega
     | false =>
       go_wp2
       go_ret
       exact bp rfl hq.out
   obtain rfl : k = d.cues.length := by omega
   go_wp2
   go_ret
   exact bp rfl hbw
theorem zwn (d : LstD) (v : Value) (w : World) (hv : RL 9 cueYA RCueY w v d.cues) (HC : ∀ (v : Value) (W : World), RL 9 cueYA RCueY W v d.cues → Calls Tryz.prog 81 #[.agg #[.int .i64 d.num, .int .i64 d.pri, v]] W fun e w' => e = .returned (.int .i64 (lstE d)) ∧ Below W.heap.size W w') :
   Calls Tryz.prog 42 #[.agg (lstA (d, v))] w fun e w' => BoolPost w e w' := by
 have HV := hid hv
 obtain ⟨va, vc, rfl⟩ := hv.shape
 have hml := hv.few
 simp only [lstA]
 obtain ⟨Z, hZ⟩ : ∃ Z, w.alloc (.cells #[.int .i64 d.num, .int .i64 d.pri, .slice va d.cues.length vc] 93) = Z := ⟨_, rfl⟩
 have r0 : RowAt Z w.heap.size 93 #[.int .i64 d.num, .int .i64 d.pri, .slice va d.cues.length vc] := by rw [← hZ]; exact RowAt.new _ _ _
 have hbz : Below w.heap.size w Z := by rw [← hZ]; exact bel
 have HB := hid (And.intro r0 hbz)
 obtain ⟨x1, x2, x3, x4, x5, x6⟩ := zaa r0
 clear hv r0
 have CF := hid (zox d (.slice va d.cues.length vc) Z (HV.out.run zbr hbz))
 have CC := hid (fun (W : World) (hW : Below Z.heap.size Z W) => HC (.slice va d.cues.length vc) W (HV.out.run zbr (HB.out.2.trans (hW.mono HB.out.2.size))))
 simp only [lstA] at CF
 generalize lstE d = le at CC
 clear HC
 go_enter Tryz.func42, Tryz.ntmps42
 go_wp2_with fail
 refine CF.out.mono ?_
 rintro e w1 ⟨t, rfl, hb1⟩
 have H1 := hid hb1
 have hq1 := hid (HB.out.2.trans (hb1.mono HB.out.2.size))
 clear hb1 x1 x2 x3 x4 x5 x6
 obtain ⟨x1, x2, x3, x4, x5, x6⟩ := zaa (HB.out.1.run H1.out)
 cases t with
 | false =>
   go_wp2
   go_ret
   exact bp rfl hq1.out
 | true =>
   by_cases t1 : (10 : Int) < (d.cues.length : Int)
   · go_wp2_with fail
     refine (CC.out _ H1.out).mono ?_
     rintro e w2 ⟨rfl, hb2⟩
     have hq := hid (HB.out.2.trans ((H1.out.trans (hb2.mono H1.out.size)).mono HB.out.2.size))
     clear hb2
     go_wp2
     go_ret
     exact bp rfl hq.out
   go_wp2
   clear x1 x2 x3 x4 x5 x6
   rename World => wh
   go_loopw [3, 4] (fun s i wr => ∃ k m : Nat, k ≤ d.cues.length ∧ i = .int .i64 k ∧ s = .int .i64 m ∧ m ≤ 30 ∧ Hid (Below Z.heap.size Z wr)) (fun _ i _ => d.cues.length - (intOf i).toNat)
   case atStart => exact ⟨0, 0, Nat.zero_le _, rfl, rfl, by omega, H1⟩
   case round =>
     obtain ⟨k, m, hk, rfl, rfl, hm, hh⟩ := hrel
     obtain ⟨x1, x2, x3, x4, x5, x6⟩ := zaa (HB.out.1.run hh.out)
     have hbw : Below w.heap.size w wr := HB.out.2.trans (hh.out.mono HB.out.2.size)
     by_cases hlt : k < d.cues.length
     · have hlt3 : (k : Int) < (d.cues.length : Int) := by omega
       obtain ⟨c, hc0⟩ : ∃ c, d.cues[k]? = some c := ⟨_, List.getElem?_eq_getElem hlt⟩
       obtain ⟨⟨ca, cb⟩, g, off, cap', he, hg, hc⟩ := RL.at_ (by decide) zbr HV.out hc0
       cases he
       have hcw := (hc wr hbw).1
       have hRc := (hc w (Below.refl _ _)).2
       obtain ⟨va, vac, e8⟩ := hRc.at_.moves.shape
       simp only at e8
       subst e8
       have hmv : c.moves.length ≤ 140737488351232 := hRc.at_.moves.few
       have f0 : wr.cell? ⟨g, off + k * 9, none⟩ = some (.string c.num) := hcw 0 (by decide)
       have f2 : wr.cell? ⟨g, off + k * 9 + 2, none⟩ = some (.slice va c.moves.length vac) := hcw 2 (by decide)
       have hw : IntKind.i64.wrap ((m : Int) + (c.moves.length : Int)) = (m : Int) + (c.moves.length : Int) := IntWalk.i64_in _ (by omega)
       have CC2 := hid (CC.out wr hh.out)
       have HW := hid hbw
       clear hc0 hc hcw hRc hk hbw
       by_cases t2 : (20 : Int) < (c.moves.length : Int)
       · go_wp2_with fail
         refine CC2.out.mono ?_
         rintro e w2 ⟨rfl, hb2⟩
         have hq := hid (HW.out.trans (hb2.mono HW.out.size))
         clear hb2
         go_wp2
         go_ret
         exact bp rfl hq.out
       by_cases t3 : (30 : Int) < (m : Int) + (c.moves.length : Int)
       · go_wp2_with fail
         refine CC2.out.mono ?_
         rintro e w2 ⟨rfl, hb2⟩
         have hq := hid (HW.out.trans (hb2.mono HW.out.size))
         clear hb2
         go_wp2
         go_ret
         exact bp rfl hq.out
       go_wp2
       go_roundw
       case rel => exact ⟨k + 1, m + c.moves.length, by omega, by go_num, by go_num, by omega, hh⟩
       case measure => simp [intOf]; omega
     obtain rfl : k = d.cues.length := by omega
     go_wp2
     go_ret
     exact bp rfl hbw
end Go.Proofs.YtjeigphhepngmaaGreatDoor
