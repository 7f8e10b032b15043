/-
  Records: packed and joined.
  The chapter's example of a cue.
-/
import Derived.Lib.AppendStr
import Derived.Test.YtjeigphhepngmaaGreatDoorZl
namespace Go.Proofs.YtjeigphhepngmaaGreatDoor
open Go.RowKit

set_option maxHeartbeats 1000000 in
set_option maxRecDepth 100000 in
theorem pack_long (c : UInt8) (d : ByteArray) (w : World) (hd : 65535 < d.size) :
    Calls Tryz.prog 148 #[.agg #[.int .i64 (c.toNat : Int), .string d]] w fun e w' => e = .returned (.tuple #[.string ⟨#[]⟩, .int .i64 13]) ∧ Below w.heap.size w w' := by
  have hc := c.toNat_lt
  have h1 : ¬ (c.toNat : Int) < 0 := by omega
  have h2 : ¬ (255 : Int) < (c.toNat : Int) := by omega
  have h3 : (65535 : Int) < (d.size : Int) := by omega
  clear hd
  go_enter Tryz.func148, Tryz.ntmps148
  go_wp2
  go_ret2
  exact ⟨rfl, by (repeat' (first | (with_reducible exact Below.refl _ _) | (with_reducible assumption) | (with_reducible refine below_run ?_ (by assumption)) | (with_reducible refine below_of_upd ?_ (by assumption) ?_) | (with_reducible refine below_drewN ?_ _) | (with_reducible refine Below.drew ?_) | (with_reducible refine below_seven ?_ ?_) | (with_reducible refine below_six ?_ ?_) | (with_reducible refine below_one ?_ ?_) | (with_reducible refine Below.alloc ?_ ?_ _) | (with_reducible refine below_after ?_ ?_ (by assumption)) | (show _ ≤ _; first | omega | (simp; done) | (simp; omega))))⟩

/-- A record: its kind, its data. -/
abbrev Ent := UInt8 × ByteArray
def entA (x : Ent) : Array Value := #[.int .i64 (x.1.toNat : Int), .string x.2]
/-- The bytes of records, or that one is too long. -/
def joinB (l : List Ent) : List UInt8 := l.flatMap fun x => packB x.1 x.2
def entOk (x : Ent) : Bool := decide (x.2.size ≤ 65535)
def joinV (l : List Ent) : Value := if l.all entOk = true then .tuple #[.string (str (joinB l)), .int .i64 0] else .tuple #[.string ⟨#[]⟩, .int .i64 13]
theorem pack_len (x : Ent) : (packB x.1 x.2).length = x.2.size + 5 := by
  simp [packB, headB, wordB]
theorem joinB_snoc (l : List Ent) (x : Ent) : joinB (l ++ [x]) = joinB l ++ packB x.1 x.2 := by simp [joinB]
theorem joinB_len (l : List Ent) (h : ∀ x ∈ l, entOk x = true) : (joinB l).length ≤ l.length * 65540 := by
  induction l with
  | nil => simp [joinB]
  | cons x l ih =>
    have h1 := ih fun y hy => h y (List.mem_cons_of_mem _ hy)
    have h2 := h x (List.mem_cons_self ..)
    simp only [entOk, decide_eq_true_eq] at h2
    have h3 := pack_len x
    simp only [joinB, List.flatMap_cons, List.length_append, List.length_cons] at h1 ⊢
    omega
theorem u8L_str (s : ByteArray) : Lib.strCells s = u8L s.data.toList := by
  rw [Lib.strCells_eq]
  rfl
theorem ent_cells {w : World} {b off : Nat} {l : List Ent} (hc : ∀ j, j < l.length * 2 → w.cell? ⟨b, off + j, none⟩ = genC 2 entA l j) (k : Nat) (d : Ent) (hd : l[k]? = some d) :
    w.cell? ⟨b, off + k * 2, none⟩ = some (.int .i64 (d.1.toNat : Int)) ∧ w.cell? ⟨b, off + k * 2 + 1, none⟩ = some (.string d.2) := by
  obtain ⟨hk, hdk⟩ := List.getElem?_eq_some_iff.1 hd
  have g := fun i hi => gen_cell (S := 2) (f := entA) (by decide) hc k hk i hi
  rw [hdk] at g
  exact ⟨g 0 (by decide), g 1 (by decide)⟩

set_option maxHeartbeats 1000000 in
set_option maxRecDepth 100000 in
theorem join_any (v : Value) (l : List Ent) (w : World) (hv : ListAt 2 entA w v l) (hl : l.length ≤ 1000000) :
    Calls Tryz.prog 63 #[v] w fun e w' => e = .returned (joinV l) ∧ Below w.heap.size w w' := by
  obtain ⟨i0, hi, hz0, hz1, hz2⟩ := info_parts Tryz.info_byte
  rcases hv with ⟨h0, a, cap, rfl⟩ | ⟨h0, h1, b, off, cap, rfl, hlt, hc⟩
  · have hl0 : l = [] := List.eq_nil_of_length_eq_zero h0
    subst hl0
    have hcv := Tryz.conv_nil
    go_enter Tryz.func63, Tryz.ntmps63
    go_wp2
    refine wp_loop_rounds 1 ?_
    rw [rounds_succ]
    go_wp2
    go_ret2
    exact ⟨rfl, by (repeat' (first | (with_reducible exact Below.refl _ _) | (with_reducible assumption) | (with_reducible refine below_run ?_ (by assumption)) | (with_reducible refine below_of_upd ?_ (by assumption) ?_) | (with_reducible refine below_drewN ?_ _) | (with_reducible refine Below.drew ?_) | (with_reducible refine below_seven ?_ ?_) | (with_reducible refine below_six ?_ ?_) | (with_reducible refine below_one ?_ ?_) | (with_reducible refine Below.alloc ?_ ?_ _) | (with_reducible refine below_after ?_ ?_ (by assumption)) | (show _ ≤ _; first | omega | (simp; done) | (simp; omega))))⟩
  · have h3 : (l.length : Int) ≤ 1000000 := by omega
    have h4 : (0 : Int) < (l.length : Int) := by omega
    have HC := Lib.hid hc
    clear hc
    go_enter Tryz.func63, Tryz.ntmps63
    go_wp2
    go_loopw [4, 6, 7, 8, 11] (fun v _ _ _ i wr => ∃ k : Nat, k ≤ l.length ∧ i = .int .i64 k ∧ Hid ((∀ x ∈ l.take k, entOk x = true) ∧ OwnB wr w.heap.size v (joinB (l.take k)) ∧ Below w.heap.size w wr)) (fun _ _ _ _ i _ => l.length - (intOf i).toNat)
    case atStart => exact ⟨0, Nat.zero_le _, rfl, Lib.hid ⟨by simp, ownB_nil _ _, Below.refl _ _⟩⟩
    case round =>
      obtain ⟨k, hk, rfl, hh⟩ := hrel
      obtain ⟨hok, hown, hb0⟩ := hh.out
      have hjl := joinB_len _ hok
      have hkl : (l.take k).length = k := by simp; omega
      by_cases hlt2 : k < l.length
      · have hlt3 : (k : Int) < (l.length : Int) := by omega
        have hk0 : (0 : Int) ≤ (k : Int) := by omega
        have hw1 : ∀ j, j < l.length * 2 → wr.cell? ⟨b, off + j, none⟩ = genC 2 entA l j := fun j hj => (hb0.cell (p := ⟨b, off + j, none⟩) hlt).trans (HC.out j hj)
        obtain ⟨d, hd⟩ : ∃ d, l[k]? = some d := ⟨l[k], List.getElem?_eq_getElem hlt2⟩
        obtain ⟨e0, e1⟩ := ent_cells hw1 k d hd
        have hts := take_succ_some hd
        have hmem : d ∈ l := List.mem_of_getElem? hd
        obtain ⟨c, d⟩ := d
        simp only at e0 e1
        have hbs := hb0.size
        by_cases hdl : d.size ≤ 65535
        · have CP := Lib.hid (fun W => pack_ok c d W hdl)
          have hpl := pack_len (c, d)
          simp only at hpl
          have hsl : (str (packB c d)).size = d.size + 5 := by rw [str_length, hpl]
          have HT := Lib.hid hts
          have HOK := Lib.hid (show ∀ x ∈ l.take (k + 1), entOk x = true from by
            rw [hts]
            intro x hx
            rcases List.mem_append.1 hx with hx | hx
            · exact hok x hx
            · simp at hx; subst hx; simpa [entOk] using hdl)
          have HH := Lib.hid (And.intro hown hb0)
          clear hw1 hd hts hmem hok hh hown hb0 hpl
          go_wp2_with fail
          refine (CP.out _).mono ?_
          rintro e w1 ⟨rfl, hb1⟩
          have hb1' : Below wr.heap.size wr w1 := by (repeat' (first | (with_reducible exact Below.refl _ _) | (with_reducible assumption) | (with_reducible refine below_run ?_ (by assumption)) | (with_reducible refine below_of_upd ?_ (by assumption) ?_) | (with_reducible refine below_drewN ?_ _) | (with_reducible refine Below.drew ?_) | (with_reducible refine below_seven ?_ ?_) | (with_reducible refine below_six ?_ ?_) | (with_reducible refine below_one ?_ ?_) | (with_reducible refine Below.alloc ?_ ?_ _) | (with_reducible refine below_after ?_ ?_ (by assumption)) | (show _ ≤ _; first | omega | (simp; done) | (simp; omega))))
          have hown1 : OwnB w1 w.heap.size _ (joinB (l.take k)) := own_run HH.out.1 hb1'
          have hb1s := hb1'.size
          have HB1 := Lib.hid (HH.out.2.trans (hb1'.mono hbs))
          clear hb1 hb1'
          go_wp2_with (at_builtin; refine Lib.wpList_append_own_string _ rfl _ _ 59 9 rfl w.heap.size 5 i0 Tryz.underlying59 Tryz.underlying9 hi hz0 hz1 hz2 _ _ _ rfl hown1 (str (packB c d)) rfl ?c3 ?c4 ?c5 ?_)
          case c3 => unfold maxLen; omega
          case c4 => omega
          case c5 => omega
          · intro v' w2 hown' hgrow _
            have hb2 := below_grown HB1.out hown1 (Nat.le_refl _) hgrow (by omega)
            have HN := Lib.hid (show OwnB w2 w.heap.size v' (joinB (l.take (k + 1))) ∧ Below w.heap.size w w2 from ⟨by
              rw [HT.out, joinB_snoc]
              unfold OwnB
              rw [List.length_append, u8L, List.map_append, show (packB (c, d).1 (c, d).2).length = d.size + 5 from pack_len (c, d)]
              have hq := hown'
              rw [u8L_str, str_data] at hq
              exact hq, hb2⟩)
            clear hown' hgrow hown1 hb2
            go_wp2
            go_roundw
            case rel => exact ⟨k + 1, by omega, by go_num, Lib.hid ⟨HOK.out, HN.out.1, HN.out.2⟩⟩
            case measure => simp [intOf]; omega
        · have CP := Lib.hid (fun W => pack_long c d W (by omega))
          have HJ := Lib.hid (show joinV l = .tuple #[.string ⟨#[]⟩, .int .i64 13] from if_neg (by
            intro hall
            have := List.all_eq_true.1 hall _ hmem
            simp [entOk] at this
            omega))
          have HH := Lib.hid hb0
          clear hw1 hd hts hmem hok hh hown hb0
          go_wp2_with fail
          refine (CP.out _).mono ?_
          rintro e w1 ⟨rfl, hb1⟩
          have HB1 := Lib.hid (show Below w.heap.size w w1 from HH.out.trans ((show Below wr.heap.size wr w1 from by (repeat' (first | (with_reducible exact Below.refl _ _) | (with_reducible assumption) | (with_reducible refine below_run ?_ (by assumption)) | (with_reducible refine below_of_upd ?_ (by assumption) ?_) | (with_reducible refine below_drewN ?_ _) | (with_reducible refine Below.drew ?_) | (with_reducible refine below_seven ?_ ?_) | (with_reducible refine below_six ?_ ?_) | (with_reducible refine below_one ?_ ?_) | (with_reducible refine Below.alloc ?_ ?_ _) | (with_reducible refine below_after ?_ ?_ (by assumption)) | (show _ ≤ _; first | omega | (simp; done) | (simp; omega))))).mono hbs))
          clear hb1
          go_wp2
          go_ret2
          exact ⟨by rw [HJ.out]; rfl, HB1.out⟩
      · obtain rfl : k = l.length := by omega
        rw [List.take_length] at hown hok
        have hcv := conv_own hown
        have HJ := Lib.hid (show joinV l = .tuple #[.string (str (joinB l)), .int .i64 0] from if_pos (List.all_eq_true.2 hok))
        have HB1 := Lib.hid hb0
        clear hown hok hh hb0 hjl hkl
        go_wp2
        go_ret2
        exact ⟨by rw [HJ.out]; rfl, HB1.out⟩

end Go.Proofs.YtjeigphhepngmaaGreatDoor

namespace Go.Proofs.YtjeigphhepngmaaGreatDoor
open Go.RowKit

def exCue : CueD := ⟨⟨#[49]⟩, ⟨#[]⟩, [], [⟨0, 0, 0, 0, 0, 0⟩], false, false, -1, ⟨#[]⟩, 0⟩
theorem exCue_e : cueE exCue = 0 := by kernel_rfl
theorem exCue_b : cueB exCue = [2, 49, 0, 0, 2, 0, 0, 0, 0, 0, 0, 0, 0, 1, 0, 0] := by kernel_rfl
theorem exCue_s : cueS exCue = ⟨#[2, 49, 0, 0, 2, 0, 0, 0, 0, 0, 0, 0, 0, 1, 0, 0]⟩ := by rw [cueS, if_pos exCue_e, exCue_b]; rfl

end Go.Proofs.YtjeigphhepngmaaGreatDoor
