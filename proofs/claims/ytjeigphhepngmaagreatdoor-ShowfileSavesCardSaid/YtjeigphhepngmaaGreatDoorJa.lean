/- -/
import Derived.Test.YtjeigphhepngmaaGreatDoorYa
import Derived.Test.YtjeigphhepngmaaGreatDoorV5
namespace Go.Proofs.YtjeigphhepngmaaGreatDoor
set_option maxHeartbeats 8000000
set_option maxRecDepth 100000
def firstE (f : Nat → Int) : Nat → Nat → Int
 | _, 0 => 0
 | k, c + 1 => if f k ≠ 0 then f k else firstE f (k + 1) c
theorem zcc {f : Nat → Int} {k n : Nat} (h : k < n) (h0 : f k = 0) : firstE f k (n - k) = firstE f (k + 1) (n - (k + 1)) := by
 obtain ⟨c, hc⟩ : ∃ c, n - k = c + 1 := ⟨n - k - 1, by omega⟩
 rw [hc, firstE, if_neg (by simp [h0]), show n - (k + 1) = c from by omega]
theorem zb8 {f : Nat → Int} {k n : Nat} (h : k < n) (h0 : f k ≠ 0) : firstE f k (n - k) = f k := by
 obtain ⟨c, hc⟩ : ∃ c, n - k = c + 1 := ⟨n - k - 1, by omega⟩
 rw [hc, firstE, if_pos h0]
theorem zfw {f : Nat → Int} {n : Nat} : firstE f n (n - n) = 0 := by rw [Nat.sub_self]; rfl
structure Tim where
 up : Int
 down : Int
 pos : Int
 col : Int
 beam : Int
 del : Int
deriving DecidableEq
structure Mv where
 ch : Int
 at_ : Int
 pal : Int
 lev : Int
 part : Int
deriving DecidableEq
structure CueD where
 num : ByteArray
 lab : ByteArray
 moves : List Mv
 parts : List Tim
 block : Bool
 mark : Bool
 follow : Int
 link : ByteArray
 loops : Int
deriving DecidableEq
def mvI (m : Mv) : List Int := [m.ch, m.at_, m.pal, m.lev, m.part]
def timI (t : Tim) : List Int := [t.up, t.down, t.pos, t.col, t.beam, t.del]
def mvB (m : Mv) : List UInt8 := intsB (mvI m)
def timB (t : Tim) : List UInt8 := intsB (timI t)
def cueB (c : CueD) : List UInt8 :=
 textB c.num ++ textB c.lab ++ intB c.moves.length ++ c.moves.flatMap mvB ++ intB c.parts.length ++ c.parts.flatMap timB ++ intB (truthI c.block) ++ intB (truthI c.mark) ++ intB c.follow ++ textB c.link ++ intB c.loops
def parE (ch at_ : Int) : Int := if ch < 1 ∨ 999 < ch ∨ at_ < 0 ∨ 15 ≤ at_ then 2 else 0
def valE (pal lev : Int) : Int := if (pal = 0 ∧ 0 ≤ lev ∧ lev ≤ 65535) ∨ (-1 ≤ pal ∧ pal ≠ 0 ∧ pal ≤ 1048576 ∧ lev = 0) then 0 else 2
def befP (c1 a1 c2 a2 : Int) : Bool := decide (c1 < c2 ∨ (c1 = c2 ∧ a1 < a2))
def mvE (p : Option Mv) (m : Mv) : Int :=
 if parE m.ch m.at_ ≠ 0 then 2 else if valE m.pal m.lev ≠ 0 then 2 else if m.part < 1 ∨ 4 < m.part then 2 else
  match p with
  | none => 0
  | some q => if befP q.ch q.at_ m.ch m.at_ then 0 else 9
def prevOf {α : Type} (l : List α) (k : Nat) : Option α := if k = 0 then none else l[k - 1]?
def mvAtE (l : List Mv) (k : Nat) : Int := match l[k]? with | none => 0 | some m => mvE (prevOf l k) m
def movesE (l : List Mv) : Int := if 128 < l.length then 5 else firstE (mvAtE l) 0 l.length
def okCh (b : UInt8) : Bool := decide (32 ≤ b.toNat ∧ b.toNat ≤ 126 ∧ b.toNat ≠ 34)
def labE (s : ByteArray) : Int := if 24 < s.size then 13 else if s.data.toList.all okCh then 0 else 3
def timeOk (v : Int) : Bool := decide (0 ≤ v ∧ v ≤ 10000000)
def timOk (t : Tim) : Bool := timeOk t.up && (timeOk t.down && (timeOk t.pos && (timeOk t.col && (timeOk t.beam && timeOk t.del))))
def ptsE (l : List Tim) : Int := if l.length = 0 then 12 else if 4 < l.length then 5 else if l.all timOk then 0 else 2
def nextE (c : CueD) : Int :=
 if c.follow ≠ -1 ∧ (c.follow < 25 ∨ 10000000 < c.follow) then 2 else if c.link.size ≠ 0 ∧ chk5 c.link.data.toList ≠ 0 then chk5 c.link.data.toList
 else if c.loops < 0 ∨ 100 < c.loops then 2 else if 0 < c.loops ∧ c.link.size = 0 then 11 else 0
def cueE (c : CueD) : Int :=
 if chk5 c.num.data.toList ≠ 0 then chk5 c.num.data.toList else if labE c.lab ≠ 0 then labE c.lab else if movesE c.moves ≠ 0 then movesE c.moves
 else if ptsE c.parts ≠ 0 then ptsE c.parts else if c.moves.any (fun m => decide ((c.parts.length : Int) < m.part)) then 6 else nextE c
abbrev Pt := Int × Int
structure SlotD where
 name : ByteArray
 lo : Int
 hi : Int
deriving DecidableEq
structure FeatD where
 attr : Int
 bits : Int
 coarse : Int
 fine : Int
 curve : Int
 home : Int
 low : Int
 high : Int
 snap : Bool
 wheel : List SlotD
deriving DecidableEq
structure ProfD where
 name : ByteArray
 foot : Int
 watts : Int
 feats : List FeatD
deriving DecidableEq
structure FixD where
 ch : Int
 part : Int
 prof : ByteArray
 uni : Int
 addr : Int
 phase : Int
 cable : ByteArray
deriving DecidableEq
structure GrpD where
 num : Int
 chs : List Int
deriving DecidableEq
structure HueD where
 ch : Int
 at_ : Int
 lev : Int
deriving DecidableEq
structure PalD where
 num : Int
 hues : List HueD
deriving DecidableEq
structure LstD where
 num : Int
 pri : Int
 cues : List CueD
deriving DecidableEq
structure GainD where
 ch : Int
 at_ : Int
 lev : Int
deriving DecidableEq
structure SubD where
 num : Int
 pri : Int
 inh : Bool
 gains : List GainD
deriving DecidableEq
structure EffD where
 num : Int
 attr : Int
 wave : List Pt
 per : Int
 spr : Int
 size : Int
deriving DecidableEq
structure ShowD where
 title : ByteArray
 curves : List (List Pt)
 profs : List ProfD
 fixs : List FixD
 grps : List GrpD
 pals : List PalD
 lists : List LstD
 subs : List SubD
 effs : List EffD
deriving DecidableEq
def atB {α : Type} (f : List α → α → Int) (l : List α) (k : Nat) : Int := match l[k]? with | none => 0 | some d => f (l.take k) d
def allB {α : Type} (f : List α → α → Int) (l : List α) : Int := firstE (atB f l) 0 l.length
def LoopB {α : Type} (f : List α → α → Int) (l : List α) (k : Nat) : Prop := allB f l = firstE (atB f l) k (l.length - k) ∧ k ≤ l.length ∧ ∀ j, j < k → atB f l j = 0
theorem zam {α : Type} (f : List α → α → Int) (l : List α) : LoopB f l 0 := ⟨by simp [allB], Nat.zero_le _, fun j h => by omega⟩
theorem zb2 {α : Type} {f : List α → α → Int} {l : List α} {k : Nat} {d : α} (h : l[k]? = some d) : atB f l k = f (l.take k) d := by rw [atB, h]
theorem zah {α : Type} {f : List α → α → Int} {l : List α} {k : Nat} {d : α} (h : LoopB f l k) (hd : l[k]? = some d) (h0 : f (l.take k) d = 0) : LoopB f l (k + 1) := by
 have hk := (List.getElem?_eq_some_iff.1 hd).1
 have e0 : atB f l k = 0 := (zb2 hd).trans h0
 refine ⟨h.1.trans (zcc hk e0), hk, fun j hj => ?_⟩
 by_cases e : j = k
 · subst e; exact e0
 exact h.2.2 j (by omega)
theorem zad {α : Type} {f : List α → α → Int} {l : List α} {k : Nat} {d : α} {x : Int} (h : LoopB f l k) (hd : l[k]? = some d) (hx : f (l.take k) d = x) (h0 : x ≠ 0) : allB f l = x := by
 have hk := (List.getElem?_eq_some_iff.1 hd).1
 have e0 : atB f l k = x := (zb2 hd).trans hx
 rw [h.1, zb8 hk (by rw [e0]; exact h0), e0]
theorem zan {α : Type} {f : List α → α → Int} {l : List α} (h : LoopB f l l.length) : allB f l = 0 := by rw [h.1, zfw]
theorem zbs {α : Type} {l : List α} {k : Nat} {q : α} (h : l[k]? = some q) : (l.take (k + 1)).getLast? = some q := by
 rw [List.take_add_one, h]
 simp
def levB (v : Int) : Bool := decide (0 ≤ v ∧ v ≤ 65535)
def ptE (p : List Pt) (d : Pt) : Int := if (levB d.1 && levB d.2) = false then 2 else match p.getLast? with | none => 0 | some q => if d.1 ≤ q.1 then 9 else 0
def curveE (c : List Pt) : Int :=
 if c.length < 2 then 14 else if 16 < c.length then 5 else if allB ptE c ≠ 0 then allB ptE c
 else if (c.head?.map (·.1)) ≠ some 0 ∨ (c.getLast?.map (·.1)) ≠ some 65535 then 14 else 0
def curvesE (l : List (List Pt)) : Int := if 16 < l.length then 5 else allB (fun _ c => curveE c) l
def wvB (p : List Pt) (d : Pt) : Int := if ¬ (-1000 ≤ d.2 ∧ d.2 ≤ 1000) then 2 else match p.getLast? with | none => 0 | some q => if d.1 ≤ q.1 then 9 else 0
def waveE (c : List Pt) : Int :=
 if c.length < 2 ∨ 16 < c.length then 14 else if (c.head?.map (·.1)) ≠ some 0 ∨ (c.getLast?.map (·.1)) ≠ some 1000 then 2
 else if allB wvB c ≠ 0 then allB wvB c else if (c.head?.map (·.2)) ≠ (c.getLast?.map (·.2)) then 3 else 0
def letterB (b : UInt8) : Bool := decide (97 ≤ b.toNat ∧ b.toNat ≤ 122)
def nameCh (b : UInt8) : Bool := letterB b || (b == 95 || decide (48 ≤ b.toNat ∧ b.toNat ≤ 57))
def nameL (l : List UInt8) : Bool := match l with | [] => false | b :: r => letterB b && r.all nameCh
def nameB (s : ByteArray) : Bool := nameL s.data.toList && decide (s.size ≤ 24)
def slotE (p : List SlotD) (d : SlotD) : Int :=
 if nameB d.name = false then 8 else if p.any (fun q => decide (q.name = d.name)) then 7 else if levB d.lo = false ∨ levB d.hi = false ∨ d.hi < d.lo then 2
 else match p.getLast? with | none => 0 | some q => if d.lo ≤ q.hi then 9 else 0
def wheelE (l : List SlotD) : Int := if 16 < l.length then 5 else allB slotE l
def topB (bits : Int) : Int := if bits = 8 then 255 else 65535
def insideE (d : FeatD) : Int := if levB d.home = false ∨ d.low < 0 ∨ d.high < d.low ∨ topB d.bits < d.high then 2 else wheelE d.wheel
def innerE (n : Int) (d : FeatD) : Int := if d.curve < 0 ∨ n < d.curve then 6 else insideE d
def usedB (p : List FeatD) (o : Int) : Bool := p.any fun q => decide (q.coarse = o ∨ (q.bits = 16 ∧ q.fine = o))
def featE (foot n : Int) (p : List FeatD) (d : FeatD) : Int :=
 if d.attr < 0 ∨ 15 ≤ d.attr then 1 else if p.any (fun q => decide (q.attr = d.attr)) then 7 else if d.bits ≠ 8 ∧ d.bits ≠ 16 then 1
 else if d.coarse < 0 ∨ foot ≤ d.coarse ∨ (d.bits = 16 ∧ (d.fine < 0 ∨ foot ≤ d.fine)) then 2 else if d.bits = 8 ∧ d.fine ≠ 0 then 3
 else if usedB p d.coarse ∨ (d.bits = 16 ∧ (usedB p d.fine ∨ d.fine = d.coarse)) then 11 else innerE n d
def profE (cs : List (List Pt)) (d : ProfD) : Int :=
 if curvesE cs ≠ 0 then curvesE cs else if nameB d.name = false then 8 else if d.foot < 1 ∨ 512 < d.foot ∨ d.watts < 0 ∨ 1048576 < d.watts then 2
 else if 16 < d.feats.length then 5 else allB (featE d.foot cs.length) d.feats
def profAt (cs : List (List Pt)) (p : List ProfD) (d : ProfD) : Int := if profE cs d ≠ 0 then profE cs d else if p.any (fun q => decide (q.name = d.name)) then 7 else 0
def profsE (cs : List (List Pt)) (l : List ProfD) : Int := if 32 < l.length then 5 else allB (profAt cs) l
def profOf (ps : List ProfD) (s : ByteArray) : Option ProfD := ps.find? fun q => decide (q.name = s)
def footOf (ps : List ProfD) (d : FixD) : Int := match profOf ps d.prof with | none => 0 | some q => q.foot
def rangedB (d : FixD) : Bool := decide (1 ≤ d.ch ∧ d.ch ≤ 999 ∧ 1 ≤ d.part ∧ d.part ≤ 64 ∧ 1 ≤ d.uni ∧ d.uni ≤ 8 ∧ 1 ≤ d.addr ∧ d.addr ≤ 512 ∧ 1 ≤ d.phase ∧ d.phase ≤ 3)
def aloneE (ps : List ProfD) (d : FixD) : Int :=
 if rangedB d = false then 2 else if d.cable.size ≠ 0 ∧ nameB d.cable = false then 8 else match profOf ps d.prof with
  | none => 6
  | some q => if q.foot < 1 ∨ 512 - d.addr + 1 < q.foot then 2 else 0
def overB (ps : List ProfD) (x y : FixD) : Bool := decide (x.uni = y.uni ∧ x.addr < y.addr + footOf ps y ∧ y.addr < x.addr + footOf ps x)
def fixE (ps : List ProfD) (p : List FixD) (d : FixD) : Int :=
 if aloneE ps d ≠ 0 then aloneE ps d else if p.any (fun q => decide (q.ch = d.ch ∧ q.part = d.part)) then 7 else if p.any (fun q => overB ps q d) then 10 else 0
def patchE (ps : List ProfD) (l : List FixD) : Int := if 32 < ps.length ∨ 64 < l.length then 5 else allB (fixE ps) l
def chE (p : List Int) (c : Int) : Int := if c < 1 ∨ 999 < c then 2 else if p.any (fun q => decide (q = c)) then 7 else 0
def grpE (d : GrpD) : Int := if d.num < 1 ∨ 1048576 < d.num then 2 else if 256 < d.chs.length then 5 else allB chE d.chs
def tabE {α : Type} (chk : α → Int) (num : α → Int) (p : List α) (d : α) : Int := if chk d ≠ 0 then chk d else match p.getLast? with | none => 0 | some q => if num d ≤ num q then 9 else 0
def grpsE (l : List GrpD) : Int := if 32 < l.length then 5 else allB (tabE grpE GrpD.num) l
def hueE (p : List HueD) (d : HueD) : Int :=
 if d.ch < 0 ∨ 999 < d.ch ∨ d.at_ < 0 ∨ 15 ≤ d.at_ ∨ levB d.lev = false then 2 else match p.getLast? with | none => 0 | some q => if befP q.ch q.at_ d.ch d.at_ then 0 else 9
def huesE (l : List HueD) : Int := if 256 < l.length then 5 else allB hueE l
def palE (p : List PalD) (d : PalD) : Int :=
 if d.num < 1 ∨ 1048576 < d.num then 2 else match p.getLast? with | none => huesE d.hues | some q => if d.num ≤ q.num then 9 else huesE d.hues
def palsE (l : List PalD) : Int := if 32 < l.length then 5 else allB palE l
def cueAtE (p : List CueD) (d : CueD) : Int := if cueE d ≠ 0 then cueE d else match p.getLast? with | none => 0 | some q => if val5 d.num.data.toList ≤ val5 q.num.data.toList then 9 else 0
def lstE (d : LstD) : Int := if d.num < 1 ∨ 1048576 < d.num ∨ d.pri < 0 ∨ 9 < d.pri then 2 else if 64 < d.cues.length then 5 else allB cueAtE d.cues
def listsE (l : List LstD) : Int := if 8 < l.length then 5 else allB (tabE lstE LstD.num) l
def gainE (inh : Bool) (p : List GainD) (d : GainD) : Int :=
 if parE d.ch d.at_ ≠ 0 then 2 else if levB d.lev = false then 2 else if inh = true ∧ d.at_ ≠ 0 then 11 else match p.getLast? with | none => 0 | some q => if befP q.ch q.at_ d.ch d.at_ then 0 else 9
def subE (d : SubD) : Int := if d.num < 1 ∨ 1048576 < d.num ∨ d.pri < 0 ∨ 9 < d.pri then 2 else if 128 < d.gains.length then 5 else allB (gainE d.inh) d.gains
def subsE (l : List SubD) : Int := if 16 < l.length then 5 else allB (tabE subE SubD.num) l
def effE (d : EffD) : Int :=
 if d.num < 1 ∨ 1048576 < d.num ∨ d.attr < 0 ∨ 15 ≤ d.attr then 2 else if waveE d.wave ≠ 0 then waveE d.wave
 else if d.per < 1 ∨ 10000000 < d.per ∨ d.spr < 0 ∨ 1000 < d.spr ∨ d.size < 0 ∨ 65535 < d.size then 2 else 0
def effsE (l : List EffD) : Int := if 16 < l.length then 5 else allB (tabE effE EffD.num) l
def rigE (s : ShowD) : Int := if curvesE s.curves ≠ 0 then curvesE s.curves else if profsE s.curves s.profs ≠ 0 then profsE s.curves s.profs else patchE s.profs s.fixs
def showE (s : ShowD) : Int :=
 if labE s.title ≠ 0 then labE s.title else if rigE s ≠ 0 then rigE s else if grpsE s.grps ≠ 0 then grpsE s.grps else if palsE s.pals ≠ 0 then palsE s.pals
 else if listsE s.lists ≠ 0 then listsE s.lists else if subsE s.subs ≠ 0 then subsE s.subs else effsE s.effs
end Go.Proofs.YtjeigphhepngmaaGreatDoor
