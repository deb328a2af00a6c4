/- A disk, in plain words: the data of the document's answer, and what each call makes of it. No program is in sight. -/
import Derived.Test.YtbmieiffboenbaaRow
namespace Go.Vf
open Go.Sw Go.Proofs.Ytbmieiffboenbaa

instance : LawfulBEq ByteArray := { eq_of_beq := fun h => baEq.1 h, rfl := baEq.2 rfl }
structure Body where
  now : ByteArray
  kept : ByteArray
instance : Inhabited Body := ⟨⟨ByteArray.mk #[], ByteArray.mk #[]⟩⟩
/-- a path, and the number of the body that it names (less than 0: none) -/
abbrev Nm := ByteArray × Int
structure Ch where
  dir : ByteArray
  l : List Nm
structure DM where
  room : Int
  bodies : List Body
  names : List Nm
  kept : List Nm
  changes : List Ch
  fails : Bool
  once : Bool
  calls : Int
def newM (room : Int) : DM := ⟨if 0 > room then 0 else room, [], [], [], [], false, false, 0⟩
def lookN : List Nm → ByteArray → Option Int
  | [], _ => none
  | n :: r, p => if p == n.1 then some n.2 else lookN r p
def withN (l : List Nm) (x : Nm) : List Nm := l.filter (fun n => !(x.1 == n.1)) ++ (if 0 ≤ x.2 then [x] else [])
def applyN (l : List Nm) (c : List Nm) : List Nm := c.foldl withN l
def bodyAt (M : DM) (k : Int) : Body := M.bodies.getD k.toNat default
def sizeAt (M : DM) (k : Int) : Nat := (bodyAt M k).now.size
def usedM (M : DM) : Nat := (M.names.map fun x => sizeAt M x.2).sum
def callM (M : DM) (right : Bool) : DM := { M with fails := (callS M.fails M.once M.calls right).2.1, calls := (callS M.fails M.once M.calls right).2.2 }
def errM (M : DM) (right : Bool) : Int := (callS M.fails M.once M.calls right).1
def changeM (M : DM) (dir : ByteArray) (l : List Nm) : DM := { M with names := applyN M.names l, changes := M.changes ++ [⟨dir, l⟩] }
def wasM (M : DM) (p : ByteArray) : Nat := match lookN M.names p with | none => 0 | some k => sizeAt M k
def writeM (M : DM) (p b : ByteArray) : Int × DM :=
  if errM M (rightB p) ≠ 0 then (errM M (rightB p), callM M (rightB p))
  else if (usedM M : Int) - (wasM M p : Int) + (b.size : Int) > M.room then (61, callM M (rightB p))
  else (0, changeM { callM M (rightB p) with bodies := M.bodies ++ [⟨b, ByteArray.mk #[]⟩] } (dirB p) [(p, (M.bodies.length : Int))])
def setBody (M : DM) (k : Int) (b : Body) : DM := { M with bodies := M.bodies.set k.toNat b }
def appendM (M : DM) (p b : ByteArray) : Int × DM :=
  if errM M (rightB p) ≠ 0 then (errM M (rightB p), callM M (rightB p))
  else match lookN M.names p with
    | none => (60, callM M (rightB p))
    | some k => if (usedM M : Int) + (b.size : Int) > M.room then (61, callM M (rightB p)) else (0, setBody (callM M (rightB p)) k ⟨(bodyAt M k).now ++ b, (bodyAt M k).kept⟩)
def readM (M : DM) (p : ByteArray) : ByteArray × Int :=
  match lookN M.names p with
  | none => (ByteArray.mk #[], 60)
  | some k => ((bodyAt M k).now, 0)
def renR (p q : ByteArray) : Bool := (rightB p && rightB q) && ((dirB p).toList == (dirB q).toList)
def renameM (M : DM) (p q : ByteArray) : Int × DM :=
  if errM M (renR p q) ≠ 0 then (errM M (renR p q), callM M (renR p q))
  else match lookN M.names p with
    | none => (60, callM M (renR p q))
    | some k => (0, if p == q then callM M (renR p q) else changeM (callM M (renR p q)) (dirB q) [(p, -1), (q, k)])
def removeM (M : DM) (p : ByteArray) : Int × DM :=
  if errM M (rightB p) ≠ 0 then (errM M (rightB p), callM M (rightB p))
  else match lookN M.names p with
    | none => (60, callM M (rightB p))
    | some _ => (0, changeM (callM M (rightB p)) (dirB p) [(p, -1)])
def syncM (M : DM) (p : ByteArray) : Int × DM :=
  if errM M (rightB p) ≠ 0 then (errM M (rightB p), callM M (rightB p))
  else match lookN M.names p with
    | none => (60, callM M (rightB p))
    | some k => (0, setBody (callM M (rightB p)) k ⟨(bodyAt M k).now, (bodyAt M k).now⟩)
def chOf (l : List Ch) (d : ByteArray) : List (List Nm) := (l.filter fun c => d == c.dir).map (·.l)
def dirR (d : ByteArray) : Bool := (d.toList == (ByteArray.mk #[]).toList) || partB d
def syncDirM (M : DM) (d : ByteArray) : Int × DM :=
  if errM M (dirR d) ≠ 0 then (errM M (dirR d), callM M (dirR d))
  else (0, { callM M (dirR d) with kept := (chOf M.changes d).foldl applyN M.kept, changes := M.changes.filter fun c => !(d == c.dir) })
def listM (M : DM) (d : ByteArray) : List ByteArray := sortB ((M.names.filter fun n => (dirB n.1).toList == d.toList).map Prod.fst)
def failM (M : DM) (calls : Int) (once : Bool) : DM := { M with fails := true, once := once, calls := if 0 > calls then 0 else calls }
/-- each once -/
def onceL : List ByteArray → List ByteArray
  | [] => []
  | x :: r => if x ∈ onceL r then onceL r else x :: onceL r
def dirsOf (l : List Ch) : List ByteArray := sortB (onceL (l.map (·.dir)))
def crashB : List Body → List Int → List Body × List Int
  | [], l => ([], l)
  | b :: r, l =>
    if (b.now.size : Int) - (b.kept.size : Int) > 0 then
      let x := b.now.extract 0 (b.kept.size + (nextK (l.headD 0) ((b.now.size : Int) - (b.kept.size : Int) + 1)).toNat)
      (⟨x, x⟩ :: (crashB r (l.drop 1)).1, (crashB r (l.drop 1)).2)
    else (⟨b.kept, b.kept⟩ :: (crashB r l).1, (crashB r l).2)
def crashD (l : List Ch) : List ByteArray → List Int → List Nm → List Nm
  | [], _, K => K
  | d :: r, ks, K => crashD l r (ks.drop 1) (((chOf l d).take (nextK (ks.headD 0) (((chOf l d).length : Int) + 1)).toNat).foldl applyN K)
def crashM (M : DM) (ks : List Int) : DM :=
  { M with bodies := (crashB M.bodies ks).1, names := crashD M.changes (dirsOf M.changes) (crashB M.bodies ks).2 M.kept, kept := crashD M.changes (dirsOf M.changes) (crashB M.bodies ks).2 M.kept, changes := [], fails := false }
end Go.Vf
