/- Layer 53, plain: names, tasks, keys. -/
import Derived.Test.YtdcjocldggmdbaaFr
import Derived.Test.YtdcjocldggmdbaaRead
namespace Go.Proofs.Ytdcjocldggmdbaa
open Go.RowKit Go

abbrev taskT : Ty := .pr .str (.pr (.sl .str) (.pr .bool (.pr .bool .un)))
abbrev keyT : Ty := .pr .str (.pr (.int .i64) (.pr (.int .i64) .un))
structure Tk where
  name : ByteArray
  needs : List ByteArray
  grp : Bool
  aft : Bool
structure Ky where
  task : ByteArray
  ent : Int
  per : Int
deriving DecidableEq
def tk (x : taskT.den) : Tk := ⟨x.1, x.2.1, x.2.2.1, x.2.2.2.1⟩
def ky (x : keyT.den) : Ky := ⟨x.1, x.2.1, x.2.2.1⟩
def Ky.d (k : Ky) : keyT.den := (k.task, k.ent, k.per, ())
theorem ky_d (k : Ky) : ky k.d = k := rfl
def Ky.v (k : Ky) : Value := .agg #[.string k.task, .int .i64 k.ent, .int .i64 k.per]
def Ky.ok (k : Ky) : Prop := k.task.size ≤ maxLen ∧ (Lit.int .i64 k.ent).wf = true ∧ (Lit.int .i64 k.per).wf = true

/-! ### names -/
def letB (c : UInt8) : Bool := (decide (97 ≤ c.toNat) && decide (c.toNat ≤ 122)) || (decide (65 ≤ c.toNat) && decide (c.toNat ≤ 90))
def inB (c : UInt8) : Bool := letB c || decide (c.toNat = 45) || (decide (48 ≤ c.toNat) && decide (c.toNat ≤ 57))
/-- A character at a place of a name. -/
def charB (i : Nat) (c : UInt8) : Bool := letB c || (decide (i ≠ 0) && (decide (c.toNat = 45) || (decide (48 ≤ c.toNat) && decide (c.toNat ≤ 57))))
def nameB (s : ByteArray) : Bool := (List.range s.size).all (fun i => charB i (s.get! i)) && decide (1 ≤ s.size) && decide (s.size ≤ 16)
theorem get_at (s : ByteArray) (k : Nat) (h : k < s.size) : s.get! k = s[k] := by
  show s.data[k]! = s.data[k]'h
  exact getElem!_pos s.data k h
theorem name_bad {s : ByteArray} {k : Nat} (h : k < s.size) (hc : charB k s[k] = false) : nameB s = false := by
  unfold nameB
  rw [Bool.and_eq_false_iff, Bool.and_eq_false_iff]
  left; left
  rw [List.all_eq_false]
  exact ⟨k, by simpa using h, by rw [get_at s k h, hc]; simp⟩
theorem name_all {s : ByteArray} (h : ∀ j (hj : j < s.size), charB j s[j] = true) : nameB s = (decide (1 ≤ s.size) && decide (s.size ≤ 16)) := by
  have : (List.range s.size).all (fun i => charB i (s.get! i)) = true := by
    rw [List.all_eq_true]
    intro i hi
    have hi : i < s.size := by simpa using hi
    rw [get_at s i hi]
    exact h i hi
  unfold nameB
  rw [this]
  simp

/-! ### places -/
def plc (ts : List Tk) (n : ByteArray) : Nat := ts.findIdx (fun t => decide (t.name = n))
def plcI (ts : List Tk) (n : ByteArray) : Int := if plc ts n < ts.length then (plc ts n : Int) else -1
theorem plc_hit {ts : List Tk} {n : ByteArray} {k : Nat} (hk : k < ts.length) (h : ts[k].name = n) (hm : ∀ j (hj : j < k), (ts[j]'(by omega)).name ≠ n) : plc ts n = k := by
  unfold plc
  rw [List.findIdx_eq hk]
  exact ⟨by simpa using h, fun j hj => by simpa using hm j hj⟩
theorem plc_miss {ts : List Tk} {n : ByteArray} (hm : ∀ j (hj : j < ts.length), ts[j].name ≠ n) : plc ts n = ts.length := by
  unfold plc
  rw [List.findIdx_eq_length]
  intro t ht
  obtain ⟨j, hj, rfl⟩ := List.getElem_of_mem ht
  simpa using hm j hj
theorem plc_le (ts : List Tk) (n : ByteArray) : plc ts n ≤ ts.length := List.findIdx_le_length
theorem plc_name {ts : List Tk} {n : ByteArray} (h : plc ts n < ts.length) : ts[plc ts n].name = n := by
  have := List.findIdx_getElem (xs := ts) (p := fun (t : Tk) => decide (t.name = n)) (w := h)
  exact of_decide_eq_true this

def tkAt (ts : List Tk) (n : ByteArray) : Tk := (ts[plc ts n]?).getD ⟨ByteArray.empty, [], false, false⟩
theorem tkAt_get {ts : List Tk} {n : ByteArray} (h : plc ts n < ts.length) : tkAt ts n = ts[plc ts n] := by
  unfold tkAt
  rw [List.getElem?_eq_getElem h]; rfl
/-- The error of a key. -/
def checkI (ts : List Tk) (ne np : Int) (k : Ky) : Int :=
  if plc ts k.task < ts.length then
    if (if (tkAt ts k.task).grp then k.ent = -1 else 0 ≤ k.ent ∧ k.ent < ne) ∧ 0 ≤ k.per ∧ k.per < np then 0 else 2
  else 8
def keysL (ne : Nat) (t : Tk) (per : Int) : List Ky := if t.grp then [⟨t.name, -1, per⟩] else (List.range ne).map fun e => ⟨t.name, (e : Nat), per⟩
def needOf (ts : List Tk) (ne : Nat) (own : Tk) (k : Ky) (n : ByteArray) : List Ky := if (tkAt ts n).grp || own.grp then keysL ne (tkAt ts n) k.per else [⟨n, k.ent, k.per⟩]
def rawNeeds (ts : List Tk) (ne : Nat) (k : Ky) : List Ky :=
  (tkAt ts k.task).needs.flatMap (needOf ts ne (tkAt ts k.task) k) ++ (if (tkAt ts k.task).aft && decide (0 < k.per) then [⟨k.task, k.ent, k.per - 1⟩] else [])
/-- A list of tasks is valid. -/
structure TksOk (ts : List Tk) : Prop where
  one : 1 ≤ ts.length
  most : ts.length ≤ 20
  names : (ts.map Tk.name).Nodup
  good : ∀ t ∈ ts, nameB t.name = true
  needs : ∀ (i : Nat) (hi : i < ts.length), ts[i].needs.Nodup ∧ ∀ n ∈ ts[i].needs, plc ts n < i
theorem plc_at {ts : List Tk} (h : TksOk ts) {i : Nat} (hi : i < ts.length) : plc ts ts[i].name = i :=
  plc_hit hi rfl fun j hj e => by
    have := List.pairwise_iff_getElem.1 h.names j i (by rw [List.length_map]; omega) (by rw [List.length_map]; exact hi) hj
    rw [List.getElem_map, List.getElem_map] at this
    exact this e
end Go.Proofs.Ytdcjocldggmdbaa
