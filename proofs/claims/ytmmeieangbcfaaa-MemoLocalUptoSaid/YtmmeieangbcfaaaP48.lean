/- Layer 48, plain: a memo as data; what Get does. -/
import Derived.Test.YtmmeieangbcfaaaRegV
namespace Go.Proofs.Ytmmeieangbcfaaa
open Go.RowKit Go

/-- A cell. -/
structure C4 where
  st : Int
  en : Int
  ot : Int
  pe : Int
deriving DecidableEq
def C4.ok (c : C4) : Prop := (Lit.int .i64 c.st).wf = true ∧ (Lit.int .i64 c.en).wf = true ∧ (Lit.int .i64 c.ot).wf = true ∧ (Lit.int .i64 c.pe).wf = true
def C4.cs (c : C4) : List Value := [.int .i64 c.st, .int .i64 c.en, .int .i64 c.ot, .int .i64 c.pe]
def C4.v (c : C4) : Value := .agg #[.int .i64 c.st, .int .i64 c.en, .int .i64 c.ot, .int .i64 c.pe]

abbrev cellT : Ty := .pr (.int .i64) (.pr (.int .i64) (.pr (.int .i64) (.pr (.int .i64) .un)))
abbrev termT : Ty := .pr cellT (.pr (.int .i16) .un)
abbrev formT : Ty := .pr cellT (.pr (.sl termT) (.pr (.int .i16) (.pr (.int .u8) (.pr (.int .i8) .un))))
def c4 (x : cellT.den) : C4 := ⟨x.1, x.2.1, x.2.2.1, x.2.2.2.1⟩
def C4.d (c : C4) : cellT.den := (c.st, c.en, c.ot, c.pe, ())

/-- A formula as data. -/
structure Fm where
  cell : C4
  terms : List (C4 × Int)
  add : Int
  md : Int
  skip : Int
def tm (x : termT.den) : C4 × Int := (c4 x.1, x.2.1)
def fm (x : formT.den) : Fm := ⟨c4 x.1, List.map (β := C4 × Int) (fun y : termT.den => tm y) x.2.1, x.2.2.1, x.2.2.2.1, x.2.2.2.2.1⟩

/-- The formula of a cell: the last one. -/
def findF (l : List Fm) (c : C4) : Fm := (l.reverse.find? fun f => decide (f.cell = c)).getD ⟨c, [], 0, 0, 0⟩
/-- The sum with a further term. -/
def nextV (factor sum value : Int) : Int := (wrap64 (sum + wrap64 (factor * (value.tmod 1000000)))).tmod 1000000000
def stopV (f : Fm) (i : Nat) (value : Int) : Bool := decide ((i : Int) = f.skip) && (value.tmod 2 == 0)
def endV (f : Fm) (sum : Int) : Int := if 2 ≤ f.md then (wrap64 (sum + f.add)).tmod f.md else wrap64 (sum + f.add)

/-- A kept cell. -/
structure Ent where
  value : Int
  reads : List (C4 × Int)
  checked : Bool
  changed : Bool
/-- An evaluation in progress. -/
structure Fr1 where
  reads : List (C4 × Int)
  failed : Bool
/-- A memo. -/
structure MS where
  kept : C4 → Option Ent
  n : Nat
  prog : C4 → Bool
  pn : Nat
  comp : List C4

def upd {α : Type} (f : C4 → α) (c : C4) (x : α) : C4 → α := fun d => if d = c then x else f d
def noteF (f : Fr1) (c : C4) (v : Int) (e : Int) : Fr1 :=
  if e ≠ 0 then { f with failed := true } else if f.reads.any (fun r => decide (r.1 = c)) then f else { f with reads := f.reads ++ [(c, v)] }
def MS.done (s : MS) (c : C4) : MS := { s with prog := upd s.prog c false, pn := if s.prog c = true then s.pn - 1 else s.pn }
def MS.start (s : MS) (c : C4) : MS := { s with prog := upd s.prog c true, pn := if s.prog c = true then s.pn else s.pn + 1 }
/-- What a memo may grow to here. -/
def most : Nat := 1000000
def MS.check (s : MS) (c : C4) (x : Ent) : MS := { s with kept := upd s.kept c (some { x with checked := true }) }
def MS.drop (s : MS) (c : C4) : MS := { s with kept := upd s.kept c none, n := if (s.kept c).isSome then s.n - 1 else s.n, comp := s.comp ++ [c] }
def MS.keep (s : MS) (c : C4) (x : Ent) : MS := { s with kept := upd s.kept c (some x), n := if (s.kept c).isSome then s.n else s.n + 1 }

mutual
/-- get: the value and the error (0 or 7), and the memo; none: out of fuel. -/
def getM (l : List Fm) : Nat → MS → C4 → Option ((Int × Int) × MS)
  | 0, _, _ => none
  | n + 1, s, c =>
    if s.prog c = true then some ((0, 7), s)
    else if most ≤ s.pn then none
    else match s.kept c with
      | some x =>
        if x.checked = true then some ((x.value, 0), s)
        else if x.changed = true then
          match evalM l n (s.start c) c with
          | some (r, s') => some (r, s'.done c)
          | none => none
        else
          match sameM l n (s.start c) x.reads with
          | some (true, s') => some ((x.value, 0), (s'.check c x).done c)
          | some (false, s') =>
            match evalM l n s' c with
            | some (r, s'') => some (r, s''.done c)
            | none => none
          | none => none
      | none =>
        match evalM l n (s.start c) c with
        | some (r, s') => some (r, s'.done c)
        | none => none
/-- same. -/
def sameM (l : List Fm) : Nat → MS → List (C4 × Int) → Option (Bool × MS)
  | 0, _, _ => none
  | _ + 1, s, [] => some (true, s)
  | n + 1, s, r :: rs =>
    match getM l n s r.1 with
    | none => none
    | some ((v, e), s') => if e ≠ 0 ∨ v ≠ r.2 then some (false, s') else sameM l n s' rs
/-- evaluate. -/
def evalM (l : List Fm) : Nat → MS → C4 → Option ((Int × Int) × MS)
  | 0, _, _ => none
  | n + 1, s, c =>
    match termsM l n s (findF l c) 0 (findF l c).terms 0 ⟨[], false⟩ with
    | none => none
    | some (sum, f, s') =>
      if most ≤ s'.n ∨ most ≤ s'.comp.length then none
      else if f.failed = true then some ((0, 7), s'.drop c)
      else some ((endV (findF l c) sum, 0), (s'.drop c).keep c ⟨endV (findF l c) sum, f.reads, true, false⟩)
/-- The terms of a formula, from the i-th on. -/
def termsM (l : List Fm) : Nat → MS → Fm → Nat → List (C4 × Int) → Int → Fr1 → Option (Int × Fr1 × MS)
  | 0, _, _, _, _, _, _ => none
  | _ + 1, s, _, _, [], sum, f => some (sum, f, s)
  | n + 1, s, fo, i, t :: ts, sum, f =>
    match getM l n s t.1 with
    | none => none
    | some ((v, e), s') =>
      if most ≤ f.reads.length then none
      else if stopV fo i v = true then some (nextV t.2 sum v, noteF f t.1 v e, s')
      else termsM l n s' fo (i + 1) ts (nextV t.2 sum v) (noteF f t.1 v e)
end
end Go.Proofs.Ytmmeieangbcfaaa
