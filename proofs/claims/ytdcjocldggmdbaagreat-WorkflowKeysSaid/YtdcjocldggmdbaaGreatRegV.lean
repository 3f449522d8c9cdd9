/- Program independent: what a call may have turned ('Gr': only blocks of F, of those that were there), slices carried over it; bytes as strings; slice expressions. -/
import Derived.Test.YtdcjocldggmdbaaGreatColl
import Derived.Laws.BytesArg
import Derived.Laws.Bits64
import Derived.Test.YtdcjocldggmdbaaGreatProg
import Derived.OrdersHeld
namespace Go.Proofs.YtdcjocldggmdbaaGreat
open Go.RowKit Go

/-- Of the blocks that were there, only those of F may have turned. -/
structure Gr (F : Nat → Prop) (w w' : World) : Prop where
  os : w'.os = w.os
  tape : w'.tape = w.tape
  output : w'.output = w.output
  size : w.heap.size ≤ w'.heap.size
  block : ∀ k, k < w.heap.size → ¬ F k → w'.heap[k]? = w.heap[k]?

theorem Gr.refl (F : Nat → Prop) (w : World) : Gr F w w := ⟨rfl, rfl, rfl, Nat.le_refl _, fun _ _ _ => rfl⟩
theorem Gr.trans {F G : Nat → Prop} {a b c : World} (h : Gr F a b) (k : Gr G b c) (hG : ∀ x, G x → F x ∨ a.heap.size ≤ x) : Gr F a c :=
  ⟨k.os.trans h.os, k.tape.trans h.tape, k.output.trans h.output, Nat.le_trans h.size k.size, fun x hx hf => (k.block x (Nat.lt_of_lt_of_le hx h.size) (fun e => by
    rcases hG x e with h' | h'
    · exact hf h'
    · omega)).trans (h.block x hx hf)⟩
theorem Gr.mono {F G : Nat → Prop} {a b : World} (h : Gr F a b) (hG : ∀ x, F x → G x ∨ a.heap.size ≤ x) : Gr G a b := (Gr.refl G a).trans h hG
theorem Gr.of_below {F : Nat → Prop} {w w' : World} (h : Below w.heap.size w w') : Gr F w w' := ⟨h.os, h.tape, h.output, h.size, fun k hk _ => h.block k hk⟩
theorem Gr.below {F : Nat → Prop} {w w' : World} {n : Nat} (h : Gr F w w') (hF : ∀ b, F b → n ≤ b) (hn : n ≤ w.heap.size) : Below n w w' :=
  ⟨h.os, h.tape, h.output, h.size, fun k hk => h.block k (by omega) (fun e => by have := hF k e; omega)⟩
theorem Gr.of_grown {w w' : World} {row : Option Nat} (h : w.grownBy w' row) : Gr (fun b => row = some b) w w' := ⟨h.os, h.tape, h.output, h.size, fun k hk hf => h.block k hk (fun e => hf e.symm)⟩
theorem Gr.drew {F : Nat → Prop} {a w : World} (h : Gr F a w) : Gr F a w.drew := ⟨h.os, h.tape, h.output, h.size, h.block⟩
theorem Gr.drewN {F : Nat → Prop} {a w : World} (h : Gr F a w) (m : Nat) : Gr F a (w.drewN m) := ⟨h.os, h.tape, h.output, h.size, h.block⟩
theorem Gr.alloc {F : Nat → Prop} {a w : World} (h : Gr F a w) (o : Obj) : Gr F a (w.alloc o) :=
  h.trans (G := fun _ => False) (Gr.of_below ((Below.refl _ w).alloc (Nat.le_refl _) o)) (fun _ h => h.elim)
theorem Gr.setCell {F : Nat → Prop} {a w : World} (h : Gr F a w) {p : Addr} (hp : F p.block ∨ a.heap.size ≤ p.block) (u : Value) : Gr F a (w.setCell p u) :=
  h.trans (G := fun b => b = p.block) ⟨rfl, rfl, rfl, by simp [World.setCell], fun k hk hf => Below.heap_setCell _ _ _ _ hf⟩ (fun x e => by rw [e]; exact hp)
theorem Gr.step {F : Nat → Prop} {a b c : World} (h : Gr F a b) (k : Below b.heap.size b c) : Gr F a c := h.trans (G := fun _ => False) (Gr.of_below k) (fun _ h => h.elim)
theorem Gr.grown {F : Nat → Prop} {a b c : World} {row : Option Nat} (h : Gr F a b) (k : b.grownBy c row) (hr : ∀ x, row = some x → F x ∨ a.heap.size ≤ x) : Gr F a c := h.trans (Gr.of_grown k) (fun x e => hr x e)

theorem Gr.cell {F : Nat → Prop} {w w' : World} (h : Gr F w w') {p : Addr} {v : Value} (hc : w.cell? p = some v) (hf : ¬ F p.block) : w'.cell? p = some v :=
  (World.cell?_of_block (w := w) (h.block p.block (World.block_lt_of_cell? w p hc) hf)).trans hc
theorem Rd.gr {t : Ty} {S S' : Nat → Prop} {F : Nat → Prop} {w w' : World} {cs : List Value} {x : t.den} (h : Rd t S w cs x) (hg : Gr F w w') (hS : ∀ b, S b → b < w.heap.size ∧ ¬ F b) (hs : ∀ b, S b → S' b) : Rd t S' w' cs x :=
  h.keep (fun b hb => hg.block b (hS b hb).1 (hS b hb).2) hs
theorem Owns.gr {e : Ty} {te : TypeId} {base : Nat} {S : Nat → Prop} {F : Nat → Prop} {w w' : World} {v : Value} {xs : List e.den} (h : Owns e te base S w v xs) (hg : Gr F w w') (hS : ∀ b, S b → ¬ F b) (hv : ∀ b, v.ownBlock = some b → ¬ F b) : Owns e te base S w' v xs :=
  h.keep (fun b hb => by
    rcases hb with hb | hb
    · exact hg.block b (h.bound b hb).2 (hS b hb)
    · exact hg.block b (h.own b hb).2 (hv b hb)) hg.size
theorem blk_gr {F : Nat → Prop} {w w' : World} (hg : Gr F w w') {p : Nat} {o : Obj} (h : w.heap[p]? = some o) (hf : ¬ F p) : w'.heap[p]? = some o :=
  (hg.block p (Array.getElem?_eq_some_iff.1 h).1 hf).trans h
theorem blk_lt {w : World} {p : Nat} {o : Obj} (h : w.heap[p]? = some o) : p < w.heap.size := (Array.getElem?_eq_some_iff.1 h).1
theorem blk_set {w : World} {p i : Nat} {cs : Array Value} {t : TypeId} (h : w.heap[p]? = some (.cells cs t (0, 0))) (u : Value) : (w.setCell ⟨p, i, none⟩ u).heap[p]? = some (.cells (cs.setIfInBounds i u) t (0, 0)) := by
  simp [World.setCell, Array.getElem?_modify, h]
theorem blk_cell {w : World} {p : Nat} {cs : Array Value} {t : TypeId} (h : w.heap[p]? = some (.cells cs t (0, 0))) (i : Nat) : w.cell? ⟨p, i, none⟩ = cs[i]? := cell_of_row w p i cs t (0, 0) h
theorem blk_frozen {w : World} {p : Nat} {cs : Array Value} {t : TypeId} (h : w.heap[p]? = some (.cells cs t (0, 0))) (i : Nat) : w.frozen? ⟨p, i, none⟩ = false := by simp [World.frozen?, h]

/-! ### A slice of what is read -/
theorem Rd.drop {e : Ty} {S : Nat → Prop} {w : World} {a : Option Addr} {len cap : Nat} {xs : List e.den} (h : Rd (.sl e) S w [.slice a len cap] xs) (k : Nat) (hk : k ≤ len) :
    Rd (.sl e) S w [.slice (if cap = k then a else a.map (·.add (k * e.sz))) (len - k) (cap - k)] (xs.drop k) := by
  obtain ⟨a', l', c', he, h1, h2, h3, h4⟩ := h
  simp only [List.cons.injEq, Value.slice.injEq, and_true] at he
  obtain ⟨rfl, rfl, rfl⟩ := he
  have h1' : List.length xs = len := h1
  refine ⟨_, len - k, cap - k, rfl, ?_, by omega, by omega, ?_⟩
  · rw [List.length_drop, h1']
  · rcases h4 with h0 | ⟨b, off, rfl, hb, hx⟩
    · exact .inl (by omega)
    · by_cases hck : len - k = 0
      · exact .inl hck
      · right
        rw [if_neg (by omega)]
        refine ⟨b, off + k * e.sz, by rw [Option.map_some, Addr.add_none], hb, fun i hi => ?_⟩
        rw [List.length_drop] at hi
        obtain ⟨vs, hl, hc, hr⟩ := hx (i + k) (by omega)
        refine ⟨vs, hl, fun j u hu => ?_, ?_⟩
        · rw [← hc j u hu, Nat.add_mul]; congr 2; omega
        · have : (xs.drop k)[i]'(by rw [List.length_drop]; omega) = xs[i + k]'(by omega) := by simp [Nat.add_comm]
          simp only [List.get_eq_getElem] at hr ⊢
          rw [this]; exact hr

/-! ### Bytes as a string -/
theorem Rd.conv {P : Program} {S : Nat → Prop} {w : World} {a : Option Addr} {len cap : Nat} {xs : List Int} (h : Rd (.sl (.int .u8)) S w [.slice a len cap] xs) {src e dst : TypeId} (hs : P.underlying src = some (.slice e)) (he : P.underlying e = some (.int .u8)) (hd : P.underlying dst = some .string) :
    (convert src dst (.slice a len cap)).run P w = .ok (.string (strOfNums xs)) w := by
  obtain ⟨h1, h2, h3, h4, h5⟩ := h.ints
  by_cases h0 : len = 0
  · subst h0
    have hx : xs = [] := List.eq_nil_of_length_eq_zero h1
    subst hx
    cases a with
    | none => rw [run_convert_bytes_nil w src e hs he 0 cap dst hd]; rfl
    | some ad => 
      rw [run_convert_bytes_string w src dst e _ 0 cap hs he hd, run_bytesToString w _ 0 cap [] (by simp [loadCells, loadCellsFrom])]
      rfl
  · obtain ⟨b, off, rfl, _, _⟩ := h4 0 (by omega)
    refine run_convert_bytes_arg w src e hs he b off len cap xs h1 (fun i hi => ?_) dst hd
    obtain ⟨b', off', hb, _, hc⟩ := h4 i hi
    cases hb
    rw [hc, List.getD_eq_getElem?_getD]
/-! ### n<<8 | x -/
end Go.Proofs.YtdcjocldggmdbaaGreat

/- Layer 53, plain: names, tasks, keys. -/
namespace Go.Proofs.YtdcjocldggmdbaaGreat
open Go.RowKit Go

abbrev taskT : Ty := .pr .str (.pr (.sl .str) (.pr .bool (.pr .bool .un)))
abbrev keyT : Ty := .pr .str (.pr (.int .i64) (.pr (.int .i64) .un))
structure Tk where
  name : ByteArray
  needs : List ByteArray
  grp : Bool
  aft : Bool
structure Ky where
  task : ByteArray
  ent : Int
  per : Int
deriving DecidableEq
def tk (x : taskT.den) : Tk := ⟨x.1, x.2.1, x.2.2.1, x.2.2.2.1⟩
def ky (x : keyT.den) : Ky := ⟨x.1, x.2.1, x.2.2.1⟩
def Ky.d (k : Ky) : keyT.den := (k.task, k.ent, k.per, ())
def Ky.v (k : Ky) : Value := .agg #[.string k.task, .int .i64 k.ent, .int .i64 k.per]
def Ky.ok (k : Ky) : Prop := k.task.size ≤ maxLen ∧ (Lit.int .i64 k.ent).wf = true ∧ (Lit.int .i64 k.per).wf = true

/-! ### names -/
def letB (c : UInt8) : Bool := (decide (97 ≤ c.toNat) && decide (c.toNat ≤ 122)) || (decide (65 ≤ c.toNat) && decide (c.toNat ≤ 90))
/-- A character at a place of a name. -/
def charB (i : Nat) (c : UInt8) : Bool := letB c || (decide (i ≠ 0) && (decide (c.toNat = 45) || (decide (48 ≤ c.toNat) && decide (c.toNat ≤ 57))))
def nameB (s : ByteArray) : Bool := (List.range s.size).all (fun i => charB i (s.get! i)) && decide (1 ≤ s.size) && decide (s.size ≤ 16)
theorem get_at (s : ByteArray) (k : Nat) (h : k < s.size) : s.get! k = s[k] := by
  show s.data[k]! = s.data[k]'h
  exact getElem!_pos s.data k h
theorem name_bad {s : ByteArray} {k : Nat} (h : k < s.size) (hc : charB k s[k] = false) : nameB s = false := by
  unfold nameB
  rw [Bool.and_eq_false_iff, Bool.and_eq_false_iff]
  left; left
  rw [List.all_eq_false]
  exact ⟨k, by simpa using h, by rw [get_at s k h, hc]; simp⟩
theorem name_all {s : ByteArray} (h : ∀ j (hj : j < s.size), charB j s[j] = true) : nameB s = (decide (1 ≤ s.size) && decide (s.size ≤ 16)) := by
  have : (List.range s.size).all (fun i => charB i (s.get! i)) = true := by
    rw [List.all_eq_true]
    intro i hi
    have hi : i < s.size := by simpa using hi
    rw [get_at s i hi]
    exact h i hi
  unfold nameB
  rw [this]
  simp

/-! ### places -/
def plc (ts : List Tk) (n : ByteArray) : Nat := ts.findIdx (fun t => decide (t.name = n))
def plcI (ts : List Tk) (n : ByteArray) : Int := if plc ts n < ts.length then (plc ts n : Int) else -1
theorem plc_hit {ts : List Tk} {n : ByteArray} {k : Nat} (hk : k < ts.length) (h : ts[k].name = n) (hm : ∀ j (hj : j < k), (ts[j]'(by omega)).name ≠ n) : plc ts n = k := by
  unfold plc
  rw [List.findIdx_eq hk]
  exact ⟨by simpa using h, fun j hj => by simpa using hm j hj⟩
theorem plc_miss {ts : List Tk} {n : ByteArray} (hm : ∀ j (hj : j < ts.length), ts[j].name ≠ n) : plc ts n = ts.length := by
  unfold plc
  rw [List.findIdx_eq_length]
  intro t ht
  obtain ⟨j, hj, rfl⟩ := List.getElem_of_mem ht
  simpa using hm j hj
theorem plc_name {ts : List Tk} {n : ByteArray} (h : plc ts n < ts.length) : ts[plc ts n].name = n := by
  have := List.findIdx_getElem (xs := ts) (p := fun (t : Tk) => decide (t.name = n)) (w := h)
  exact of_decide_eq_true this

def tkAt (ts : List Tk) (n : ByteArray) : Tk := (ts[plc ts n]?).getD ⟨ByteArray.empty, [], false, false⟩
theorem tkAt_get {ts : List Tk} {n : ByteArray} (h : plc ts n < ts.length) : tkAt ts n = ts[plc ts n] := by
  unfold tkAt
  rw [List.getElem?_eq_getElem h]; rfl
/-- The error of a key. -/
def checkI (ts : List Tk) (ne np : Int) (k : Ky) : Int :=
  if plc ts k.task < ts.length then
    if (if (tkAt ts k.task).grp then k.ent = -1 else 0 ≤ k.ent ∧ k.ent < ne) ∧ 0 ≤ k.per ∧ k.per < np then 0 else 2
  else 8
def keysL (ne : Nat) (t : Tk) (per : Int) : List Ky := if t.grp then [⟨t.name, -1, per⟩] else (List.range ne).map fun e => ⟨t.name, (e : Nat), per⟩
def needOf (ts : List Tk) (ne : Nat) (own : Tk) (k : Ky) (n : ByteArray) : List Ky := if (tkAt ts n).grp || own.grp then keysL ne (tkAt ts n) k.per else [⟨n, k.ent, k.per⟩]
def rawNeeds (ts : List Tk) (ne : Nat) (k : Ky) : List Ky :=
  (tkAt ts k.task).needs.flatMap (needOf ts ne (tkAt ts k.task) k) ++ (if (tkAt ts k.task).aft && decide (0 < k.per) then [⟨k.task, k.ent, k.per - 1⟩] else [])
end Go.Proofs.YtdcjocldggmdbaaGreat

/- Layer 53: a name. -/
set_option linter.unusedSimpArgs false
namespace Go.Proofs.YtdcjocldggmdbaaGreat
open Go.RowKit Go

set_option maxRecDepth 20000 in
set_option maxHeartbeats 1000000 in
theorem name53 (w : World) (s : ByteArray) (hs : s.size ≤ maxLen) :
    Calls Tryz.prog 41 #[.string s] w fun e w' => e = .returned (.bool (nameB s)) ∧ w' = w := by
  have hsz : s.size ≤ 9223372036854775807 := by simpa [maxLen] using hs
  go_enter Tryz.func41, Tryz.ntmps41
  go_wp2
  go_loopw [3, 4, 5, 8] (fun _ _ _ i wr => ∃ (k : Nat), k ≤ s.size ∧ i = .int .i64 k ∧ (∀ j (hj : j < s.size), j < k → charB j s[j] = true) ∧ wr = w) (fun _ _ _ i _ => s.size - (intOf i).toNat)
  case atStart => exact ⟨0, Nat.zero_le _, rfl, fun j _ hj => absurd hj (by omega), rfl⟩
  case round =>
    obtain ⟨k, hk, rfl, hall, rfl⟩ := hrel
    have HALL := Lib.hid hall
    clear hall
    by_cases hlt : k < s.size
    · have hkI : (k : Int) < (s.size : Int) := by omega
      have HBAD := Lib.hid (show charB k s[k] = false → nameB s = false from fun h => name_bad (s := s) hlt h)
      have HGOOD := Lib.hid (show charB k s[k] = true → ∀ j (hj : j < s.size), j < k + 1 → charB j s[j] = true from fun h j hj hjk => by
        by_cases e : j = k
        · subst e; exact h
        · exact HALL.out j hj (by omega))
      have HLT := Lib.hid hlt
      go_wp2_with fail
      all_goals try subst_vars
      all_goals clear HALL
      all_goals first
        | (exfalso; omega)
        | (exfalso; simp at *; omega)
        | (go_ret
           rw [HBAD.out (by unfold charB letB; simp; omega)]
           exact ⟨rfl, rfl⟩)
        | (go_ret
           rw [HBAD.out (by unfold charB letB; simp at *; omega)]
           exact ⟨rfl, rfl⟩)
        | (refine ⟨⟨_, HLT.out, by go_num, HGOOD.out (by unfold charB letB; simp; omega), by first | rfl | trivial⟩, by have := HLT.out; simp [intOf]; try omega⟩)
        | (refine ⟨⟨_, HLT.out, by go_num, HGOOD.out (by unfold charB letB; simp at *; omega), by first | rfl | trivial⟩, by have := HLT.out; simp [intOf]; try omega⟩)
    · obtain rfl : k = s.size := by omega
      have HN := Lib.hid (name_all (s := s) (fun j hj => HALL.out j hj hj))
      by_cases e1 : (1 : Int) ≤ (s.size : Int)
      · go_wp2_with fail
        go_ret
        have h1 : decide (1 ≤ s.size) = true := by simp; omega
        have h2 : decide ((s.size : Int) ≤ 16) = decide (s.size ≤ 16) := decide_eq_decide.2 (by omega)
        rw [HN.out, h1]
        refine ⟨?_, rfl⟩
        first | rw [← h2]; rfl | (simp; omega)
      · have H1 := Lib.hid (show decide (1 ≤ s.size) = false from decide_eq_false (by omega))
        go_wp2_with fail
        go_ret
        rw [HN.out, H1.out]
        exact ⟨rfl, rfl⟩
end Go.Proofs.YtdcjocldggmdbaaGreat

/- Layer 53: tasks in memory; the place of a task. -/
set_option linter.unusedSimpArgs false
namespace Go.Proofs.YtdcjocldggmdbaaGreat
open Go.RowKit Go

theorem taskT_sz : taskT.sz = 4 := rfl
theorem task_at {S : Nat → Prop} {w : World} {a : Option Addr} {len cap : Nat} {xs : List taskT.den} (h : Rd (.sl taskT) S w [.slice a len cap] xs) (i : Nat) (hi : i < xs.length) :
    ∃ b off na nl nc, a = some ⟨b, off, none⟩ ∧ S b ∧ w.cell? ⟨b, off + i * 4, none⟩ = some (.string (tk xs[i]).name) ∧ w.cell? ⟨b, off + i * 4 + 1, none⟩ = some (.slice na nl nc) ∧ w.cell? ⟨b, off + i * 4 + 2, none⟩ = some (.bool (tk xs[i]).grp) ∧ w.cell? ⟨b, off + i * 4 + 3, none⟩ = some (.bool (tk xs[i]).aft) ∧
      Rd (.sl .str) S w [.slice na nl nc] (tk xs[i]).needs ∧ (tk xs[i]).name.size ≤ maxLen := by
  obtain ⟨hl, -, -, vs, hr, hor⟩ := h.sl_flat
  obtain ⟨c, hc, hcc, hrd⟩ := hr.at_ i hi
  rcases hor with h0 | ⟨b, off, rfl, hb, hcell⟩
  · omega
  · generalize xs[i] = s at hrd ⊢
    obtain ⟨nm, nd, g, f, ⟨⟩⟩ := s
    obtain ⟨c1, r1, rfl, ⟨rfl, h1⟩, c2, r2, rfl, h2, c3, r3, rfl, rfl, c4, r4, rfl, rfl, rfl⟩ := hrd
    obtain ⟨na, nl, nc, rfl, h2'⟩ := id h2
    refine ⟨b, off, na, nl, nc, rfl, hb, ?_, ?_, ?_, ?_, h2, h1⟩
    · rw [show off + i * 4 = off + (i * taskT.sz + 0) by rw [taskT_sz]; omega]; exact hcell _ _ (hcc 0 _ rfl)
    · rw [show off + i * 4 + 1 = off + (i * taskT.sz + 1) by rw [taskT_sz]; omega]; exact hcell _ _ (hcc 1 _ rfl)
    · rw [show off + i * 4 + 2 = off + (i * taskT.sz + 2) by rw [taskT_sz]; omega]; exact hcell _ _ (hcc 2 _ rfl)
    · rw [show off + i * 4 + 3 = off + (i * taskT.sz + 3) by rw [taskT_sz]; omega]; exact hcell _ _ (hcc 3 _ rfl)
theorem strB (a b : ByteArray) : (a.toList == b.toList) = decide (a = b) := by
  by_cases h : a = b
  · subst h; simp
  · have : a.toList ≠ b.toList := fun e => h (by
      rw [ByteArray.toList_eq, ByteArray.toList_eq] at e
      exact ByteArray.ext (Array.toList_inj.1 e))
    simp [h, this]
theorem taskSame (w : World) (nm n : ByteArray) (na : Option Addr) (nl nc : Nat) (g f : Bool) (cb : Nat) (hb : w.heap[cb]? = some (.cells #[.string n] 9 (0, 0))) :
    Calls Tryz.prog 66 #[.agg #[.string nm, .slice na nl nc, .bool g, .bool f], .pointer (some ⟨cb, 0, none⟩)] w fun e w' => e = .returned (.bool (decide (nm = n))) ∧ Below w.heap.size w w' := by
  have hB : Below w.heap.size w (w.alloc (.cells #[.string nm, .slice na nl nc, .bool g, .bool f] 68)) := (Below.refl _ w).alloc (Nat.le_refl _) _
  have hb' := (hB.block _ (blk_lt hb)).trans hb
  have k0 := blk_cell hb' 0
  simp at k0
  clear hb hb'
  rw [← strB]
  go_enter Tryz.func66, Tryz.ntmps66
  go_wp2
  go_ret
  exact ⟨rfl, hB⟩
set_option maxRecDepth 20000 in
set_option maxHeartbeats 1000000 in
theorem placeIndex {S : Nat → Prop} (w : World) (a : Option Addr) (len cap : Nat) (xs : List taskT.den) (hx : Rd (.sl taskT) S w [.slice a len cap] xs) (hS : ∀ b, S b → b < w.heap.size) (cb : Nat) (n : ByteArray) (hcb : w.heap[cb]? = some (.cells #[.string n] 9 (0, 0))) :
    Calls Tryz.prog 65 #[.slice a len cap, .func (.func 66) #[] #[.pointer (some ⟨cb, 0, none⟩)]] w fun e w' => e = .returned (.int .i64 (plcI (xs.map tk) n)) ∧ Below w.heap.size w w' := by
  obtain ⟨hl, hlc, hm, -⟩ := hx.sl_flat
  have HX := Lib.hid hx
  have HL := Lib.hid hl
  have HS := Lib.hid hS
  have HCB := Lib.hid hcb
  clear hx hl hS hcb
  go_enter Tryz.func65, Tryz.ntmps65
  go_wp2_with fail
  go_loopw [5, 8] (fun _ i wr => ∃ (k : Nat), k ≤ len ∧ i = .int .i64 k ∧ (∀ j (hj : j < xs.length), j < k → (tk xs[j]).name ≠ n) ∧ Below w.heap.size w wr) (fun _ i _ => len - (intOf i).toNat)
  case atStart => exact ⟨0, Nat.zero_le _, rfl, fun j _ hj => absurd hj (by omega), Below.refl _ _⟩
  case round =>
    obtain ⟨k, hk, rfl, hno, hB⟩ := hrel
    have HNO := Lib.hid hno
    have HB := Lib.hid hB
    clear hno
    by_cases hlt : k < len
    · have hkx : k < xs.length := by rw [HL.out]; exact hlt
      obtain ⟨b, o, na, nl, nc, rfl, -, m0, m1, m2, m3, -, -⟩ := task_at (HX.out.below hB HS.out) k hkx
      have hkI : (k : Int) < (len : Int) := by omega
      have hcw := (HB.out.block _ (blk_lt HCB.out)).trans HCB.out
      obtain ⟨t, ht⟩ : ∃ t, tk xs[k] = t := ⟨_, rfl⟩
      rw [ht] at m0 m2 m3
      obtain ⟨bd, hbd⟩ : ∃ bd, decide (t.name = n) = bd := ⟨_, rfl⟩
      have HNN := Lib.hid (show bd = false → ∀ j (hj : j < xs.length), j < k + 1 → (tk xs[j]).name ≠ n from fun h j hj hjk => by
        by_cases e : j = k
        · subst e; rw [ht]; exact of_decide_eq_false (hbd.trans h)
        · exact HNO.out j hj (by omega))
      have HYY := Lib.hid (show bd = true → plcI (xs.map tk) n = k from fun h => by
        have hkm : k < (xs.map tk).length := by rw [List.length_map]; exact hkx
        have e : plc (xs.map tk) n = k := plc_hit hkm (by rw [List.getElem_map, ht]; exact of_decide_eq_true (hbd.trans h)) fun j hj => by rw [List.getElem_map]; exact HNO.out j (by omega) hj
        unfold plcI
        rw [e, if_pos hkm])
      obtain ⟨nm, nd, g, f⟩ := t
      simp only at m0 m1 m2 m3 hbd
      have HCL := Lib.hid (taskSame wr nm n na nl nc g f cb hcw)
      rw [hbd] at HCL
      have HLT := Lib.hid hlt
      clear hcw hB hbd ht
      cases bd
      · go_wp2_with (go_at_call 66; refine (HCL.out).mono ?_; rintro e w1 ⟨rfl, hw⟩; have HW := Lib.hid hw; clear hw)
        go_roundw
        case rel => exact ⟨k + 1, HLT.out, by go_num, HNN.out (by first | rfl | trivial), below_step HB.out HW.out⟩
        case measure => simp [intOf]; try omega
      · go_wp2_with (go_at_call 66; refine (HCL.out).mono ?_; rintro e w1 ⟨rfl, hw⟩; have HW := Lib.hid hw; clear hw)
        go_ret
        rw [HYY.out (by first | rfl | trivial)]
        exact ⟨rfl, below_step HB.out HW.out⟩
    · obtain rfl : len = k := by omega
      have HN := Lib.hid (show plcI (xs.map tk) n = -1 from by
        have e : plc (xs.map tk) n = (xs.map tk).length := plc_miss fun j hj => by
          rw [List.length_map] at hj
          rw [List.getElem_map]; exact HNO.out j hj (by rw [← HL.out]; exact hj)
        unfold plcI
        rw [e, if_neg (Nat.lt_irrefl _)])
      clear hB
      go_wp2_with fail
      go_ret
      rw [HN.out]
      exact ⟨rfl, HB.out⟩
/-- A workflow in memory, but for what is signed. -/
structure WfT (S : Nat → Prop) (w : World) (p : Nat) (ts : List Tk) (ne np m : Nat) : Prop where
  row : ∃ (a : Option Addr) (len cap : Nat) (xs : List taskT.den), w.heap[p]? = some (.cells #[.slice a len cap, .int .i64 ne, .int .i64 np, .map (some m)] 92 (0, 0)) ∧ Rd (.sl taskT) S w [.slice a len cap] xs ∧ xs.map tk = ts
  hS : ∀ b, S b → b < w.heap.size
theorem WfT.gr {S : Nat → Prop} {F : Nat → Prop} {w w' : World} {p : Nat} {ts : List Tk} {ne np m : Nat} (h : WfT S w p ts ne np m) (hG : Gr F w w') (hp : ¬ F p) (hS : ∀ b, S b → ¬ F b) : WfT S w' p ts ne np m := by
  obtain ⟨a, len, cap, xs, h1, h2, h3⟩ := h.row
  exact ⟨⟨a, len, cap, xs, blk_gr hG h1 hp, h2.gr hG (fun b hb => ⟨h.hS b hb, hS b hb⟩) (fun _ h => h), h3⟩, fun b hb => Nat.lt_of_lt_of_le (h.hS b hb) hG.size⟩
theorem WfT.below {S : Nat → Prop} {w w' : World} {p : Nat} {ts : List Tk} {ne np m : Nat} (h : WfT S w p ts ne np m) (hB : Below w.heap.size w w') : WfT S w' p ts ne np m :=
  h.gr (Gr.of_below (F := fun _ => False) hB) (fun h => h) (fun _ _ h => h)
set_option maxRecDepth 20000 in
theorem place53 {S : Nat → Prop} (w : World) (p : Nat) (ts : List Tk) (ne np m : Nat) (h : WfT S w p ts ne np m) (n : ByteArray) :
    Calls Tryz.prog 52 #[.pointer (some ⟨p, 0, none⟩), .string n] w fun e w' => e = .returned (.int .i64 (plcI ts n)) ∧ Below w.heap.size w w' := by
  have hB : Below w.heap.size w (w.alloc (.cells #[.string n] 9)) := (Below.refl _ w).alloc (Nat.le_refl _) _
  have hcb := heap_alloc_new w (.cells #[.string n] 9)
  have h' := h.below hB
  obtain ⟨a, len, cap, xs, h1, h2, h3⟩ := h'.row
  have y0 := blk_cell h1 0
  simp at y0
  have HI := Lib.hid (placeIndex _ a len cap xs h2 h'.hS w.heap.size n hcb)
  rw [h3] at HI
  have HB := Lib.hid hB
  clear h h' hcb h1 h2 h3 hB
  go_enter Tryz.func52, Tryz.ntmps52
  go_wp2_with fail
  refine (HI.out).mono ?_
  rintro e w1 ⟨rfl, hw⟩
  have HW := Lib.hid (below_step HB.out hw)
  clear hw
  go_wp2_with fail
  go_ret
  exact ⟨rfl, HW.out⟩
end Go.Proofs.YtdcjocldggmdbaaGreat

/- cmp.Compare, cmp.Or at int. -/
set_option linter.unusedSimpArgs false
namespace Go.Proofs.YtdcjocldggmdbaaGreat
open Go.RowKit Go

def cmpI (a b : Int) : Int := if a < b then -1 else if b < a then 1 else 0
theorem nanI_sum (w : World) (a : Int) : Calls Tryz.prog 79 #[.int .i64 a] w fun e w' => e = .returned (.bool false) ∧ w' = w := by
  have h : (a != a) = false := by simp
  go_enter Tryz.func79, Tryz.ntmps79
  go_wp2
  go_ret
  exact ⟨rfl, rfl⟩
theorem compareI_sum (w : World) (a b : Int) : Calls Tryz.prog 61 #[.int .i64 a, .int .i64 b] w fun e w' => e = .returned (.int .i64 (cmpI a b)) ∧ w' = w := by
  unfold cmpI
  by_cases h1 : a < b
  · rw [if_pos h1]
    go_enter Tryz.func61, Tryz.ntmps61
    go_wp2_with (go_at_call 79; refine (nanI_sum _ _).mono ?_; rintro e w1 ⟨rfl, hw⟩; subst hw)
    all_goals
      go_ret
      exact ⟨rfl, rfl⟩
  · rw [if_neg h1]
    have h1' : ¬ a < b := h1
    by_cases h2 : b < a
    · rw [if_pos h2]
      have d1 : decide (a < b) = false := decide_eq_false h1
      go_enter Tryz.func61, Tryz.ntmps61
      go_wp2_with (go_at_call 79; refine (nanI_sum _ _).mono ?_; rintro e w1 ⟨rfl, hw⟩; subst hw)
      all_goals
        go_ret
        exact ⟨rfl, rfl⟩
    · rw [if_neg h2]
      have d1 : decide (a < b) = false := decide_eq_false h1
      have d2 : decide (b < a) = false := decide_eq_false h2
      go_enter Tryz.func61, Tryz.ntmps61
      go_wp2_with (go_at_call 79; refine (nanI_sum _ _).mono ?_; rintro e w1 ⟨rfl, hw⟩; subst hw)
      all_goals
        go_ret
        exact ⟨rfl, rfl⟩
def orI (a b c : Int) : Int := if a = 0 then (if b = 0 then c else b) else a
theorem or_sum (w : World) (g : Nat) (cap : Nat) (a b c : Int) (h0 : w.cell? ⟨g, 0, none⟩ = some (.int .i64 a)) (h1 : w.cell? ⟨g, 1, none⟩ = some (.int .i64 b)) (h2 : w.cell? ⟨g, 2, none⟩ = some (.int .i64 c)) :
    Calls Tryz.prog 60 #[.slice (some ⟨g, 0, none⟩) 3 cap] w fun e w' => e = .returned (.int .i64 (orI a b c)) ∧ w' = w := by
  unfold orI
  by_cases ha : a = 0
  · subst ha
    by_cases hb : b = 0
    · subst hb
      by_cases hc : c = 0
      · subst hc
        go_enter Tryz.func60, Tryz.ntmps60
        go_wp2
        refine wp_loop_rounds 5 ?_
        repeat any_goals (rw [rounds_succ]; go_wp2)
        all_goals
          go_ret
          exact ⟨rfl, rfl⟩
      · have hc' : (c != 0) = true := by simp [hc]
        go_enter Tryz.func60, Tryz.ntmps60
        go_wp2
        refine wp_loop_rounds 5 ?_
        repeat any_goals (rw [rounds_succ]; go_wp2)
        all_goals
          go_ret
          exact ⟨rfl, rfl⟩
    · have hb' : (b != 0) = true := by simp [hb]
      go_enter Tryz.func60, Tryz.ntmps60
      go_wp2
      refine wp_loop_rounds 5 ?_
      repeat any_goals (rw [rounds_succ]; go_wp2)
      all_goals
        go_ret
        exact ⟨by first | rfl | (rw [if_pos rfl, if_neg hb]; rfl), rfl⟩
  · have ha' : (a != 0) = true := by simp [ha]
    go_enter Tryz.func60, Tryz.ntmps60
    go_wp2
    refine wp_loop_rounds 5 ?_
    repeat any_goals (rw [rounds_succ]; go_wp2)
    all_goals
      go_ret
      exact ⟨by first | rfl | (rw [if_neg ha]; rfl), rfl⟩
theorem compareB (w : World) (a b : Int) : Calls Tryz.prog 61 #[.int .i64 a, .int .i64 b] w fun e w' => e = .returned (.int .i64 (cmpI a b)) ∧ Below w.heap.size w w' :=
  (compareI_sum w a b).mono fun _ _ ⟨h1, h2⟩ => ⟨h1, by rw [h2]; exact Below.refl _ _⟩
theorem orB (w : World) (g : Nat) (cap : Nat) (a b c : Int) (h0 : w.cell? ⟨g, 0, none⟩ = some (.int .i64 a)) (h1 : w.cell? ⟨g, 1, none⟩ = some (.int .i64 b)) (h2 : w.cell? ⟨g, 2, none⟩ = some (.int .i64 c)) :
    Calls Tryz.prog 60 #[.slice (some ⟨g, 0, none⟩) 3 cap] w fun e w' => e = .returned (.int .i64 (orI a b c)) ∧ Below w.heap.size w w' :=
  (or_sum w g cap a b c h0 h1 h2).mono fun _ _ ⟨h1, h2⟩ => ⟨h1, by rw [h2]; exact Below.refl _ _⟩
end Go.Proofs.YtdcjocldggmdbaaGreat

/- Program independent: a region that draws its order: what only reckons is taken first; a load is taken first where its cell stands until the operations of T, which wait for it. -/
namespace Go.Proofs.YtdcjocldggmdbaaGreat
open Go.RowKit Go

section
variable {P : Program} {ops : Array Oper} {Q : Exit → Act → World → Prop} {md : Region.Mode} {S : World → Prop} {T : Nat → Bool}

/-- Whatever order is picked from here on; S is kept by every operation but those of T. -/
def wpAnyT (P : Program) (md : Region.Mode) (ops : Array Oper) (Q : Exit → Act → World → Prop) (S : World → Prop) (T : Nat → Bool) : Nat → Array Bool → Act → World → Prop
  | 0, listed, a, w => Region.ready md ops listed = [] ∧ Q .normal a w
  | fuel + 1, listed, a, w =>
    (Region.ready md ops listed = [] → Q .normal a w) ∧
    ∀ i ∈ Region.ready md ops listed, wpOp P ops Q i (fun a' w' => (T i = false → S w → S w') ∧ wpAnyT P md ops Q S T fuel (listed.setIfInBounds i true) a' w') a w

theorem wpAny_of_T : ∀ (fuel : Nat) (listed : Array Bool) (a : Act) (w : World), wpAnyT P md ops Q S T fuel listed a w → wpAny P md ops Q fuel listed a w
  | 0, _, _, _, h => h
  | fuel + 1, _, _, _, h => ⟨h.1, fun i hi => wpOp_mono (fun a' w' h' => wpAny_of_T fuel _ a' w' h'.2) (h.2 i hi)⟩

def waitsB (md : Region.Mode) (ops : Array Oper) : Nat → Nat → Nat → Bool
  | 0, _, _ => false
  | n + 1, j, i => match ops[j]? with
    | none => false
    | some o => o.after.any fun e => Region.binds md e && (e.on == i || waitsB md ops n e.on i)
def closedL (md : Region.Mode) (ops : Array Oper) (listed : Array Bool) : Prop :=
  ∀ j oj, ops[j]? = some oj → listed.getD j false = true → ∀ e ∈ oj.after, Region.binds md e = true → listed.getD e.on false = true
def closedB (md : Region.Mode) (ops : Array Oper) (listed : Array Bool) : Bool :=
  (List.range ops.size).all fun j => match ops[j]? with
    | none => true
    | some o => !listed.getD j false || o.after.all fun e => !Region.binds md e || listed.getD e.on false
theorem closedB_spec {md : Region.Mode} {ops : Array Oper} {listed : Array Bool} (h : closedB md ops listed = true) : closedL md ops listed := by
  intro j oj hj hl e he hb
  have h1 := List.all_eq_true.1 h j (by simpa using (Array.getElem?_eq_some_iff.1 hj).1)
  simp only [hj, hl, Bool.not_true, Bool.false_or] at h1
  obtain ⟨k, hk, rfl⟩ := Array.mem_iff_getElem.1 he
  have h2 := Array.all_eq_true.1 h1 k hk
  simpa [hb] using h2
theorem closedL_set {md : Region.Mode} {ops : Array Oper} {listed : Array Bool} {j : Nat} {oj : Oper} (h : closedL md ops listed) (hj : ops[j]? = some oj) (hall : ∀ e ∈ oj.after, Region.binds md e = true → listed.getD e.on false = true) :
    closedL md ops (listed.setIfInBounds j true) := by
  intro k ok hk hl e he hb
  by_cases hjk : j = k
  · subst hjk
    rw [hj] at hk
    cases hk
    exact getD_set_true (hall e he hb)
  · rw [getD_set_ne false hjk] at hl
    exact getD_set_true (h k ok hk hl e he hb)
theorem waitsB_listed {md : Region.Mode} {ops : Array Oper} {listed : Array Bool} (hcl : closedL md ops listed) : ∀ (n j i : Nat) {oj : Oper}, waitsB md ops n j i = true → ops[j]? = some oj →
    (∀ e ∈ oj.after, Region.binds md e = true → listed.getD e.on false = true) → listed.getD i false = true
  | 0, _, _, _, h, _, _ => by cases h
  | n + 1, j, i, oj, h, hj, hall => by
    rw [waitsB, hj] at h
    simp only [Array.any_eq_true, Bool.and_eq_true, Bool.or_eq_true, beq_iff_eq] at h
    obtain ⟨k, hk, hb, h⟩ := h
    have hl := hall _ (Array.getElem_mem hk) hb
    rcases h with h | h
    · rw [← h]; exact hl
    · cases ho : ops[oj.after[k].on]? with
      | none =>
        cases n with
        | zero => cases h
        | succ n => rw [waitsB, ho] at h; cases h
      | some o2 => exact waitsB_listed hcl n _ i h ho (hcl _ _ ho hl)

/-- The same, where T's operations wait for number i through others. -/
theorem wpAnyT_firstW {i : Nat} {oi : Oper} {v : Value} (hi : ops[i]? = some oi) (hsel : ∀ (j : Nat) (o : Oper) cs b, ops[j]? = some o → o.op ≠ .select cs b)
    (hQ : ∀ c a w, Q (.panic c) (a.put oi.dst v) w → Q (.panic c) a w)
    (hT : ∀ j oj, ops[j]? = some oj → T j = true → waitsB md ops ops.size j i = true) :
    ∀ (fuel : Nat) (listed : Array Bool) (a : Act) (w : World),
      (∀ j oj, ops[j]? = some oj → j ≠ i → listed.getD j true = false → (∀ e ∈ oj.after, Region.binds md e = true → e.on ≠ i) → oi.apart ops oj = true) →
      closedL md ops listed → i ∈ Region.ready md ops listed → YieldsIf P ops S oi v a → S w →
      wpAnyT P md ops Q S T fuel (listed.setIfInBounds i true) (a.put oi.dst v) w → wpAnyT P md ops Q S T (fuel + 1) listed a w := by
  intro fuel
  induction fuel with
  | zero =>
    intro listed a w _ _ hr hy hS H
    refine ⟨fun h => (by rw [h] at hr; cases hr), fun j hj => ?_⟩
    by_cases hji : j = i
    · subst hji; exact hy.wpOp hi hS ⟨fun _ h => h, H⟩
    · have := ready_mono hj hji
      rw [H.1] at this
      cases this
  | succ fuel ih =>
    intro listed a w hfree hcl hr hy hS H
    refine ⟨fun h => (by rw [h] at hr; cases hr), fun j hj => ?_⟩
    by_cases hji : j = i
    · subst hji; exact hy.wpOp hi hS ⟨fun _ h => h, H⟩
    · have h1 := H.2 j (ready_mono hj hji)
      obtain ⟨hjun, oj, hoj, hall⟩ := mem_ready.1 hj
      have hnot : ∀ e ∈ oj.after, Region.binds md e = true → e.on ≠ i := fun e he hb heq => by
        have h1 := hall e he hb
        have h0 := (mem_ready.1 hr).1
        rw [heq] at h1
        rcases Nat.lt_or_ge i listed.size with h' | h'
        · simp [h'] at h0 h1; rw [h0] at h1; cases h1
        · simp [Array.getElem?_eq_none h'] at h1
      have hTj : T j = false := by
        cases h : T j with
        | false => rfl
        | true =>
          have h1 := waitsB_listed hcl _ j i (hT j oj hoj h) hoj hall
          have h0 := (mem_ready.1 hr).1
          rcases Nat.lt_or_ge i listed.size with h' | h'
          · simp [h'] at h0 h1; rw [h0] at h1; cases h1
          · simp [Array.getElem?_eq_none h'] at h1
      have h2 := wpOp_putIf hoj (hfree j oj hoj hji hjun hnot) (fun cs b => hsel i oi cs b hi) (fun cs b => hsel j oj cs b hoj) hQ hy h1
      have hfree' : ∀ k ok, ops[k]? = some ok → k ≠ i → (listed.setIfInBounds j true).getD k true = false →
          (∀ e ∈ ok.after, Region.binds md e = true → e.on ≠ i) → oi.apart ops ok = true := fun k ok hk hki hun hno => by
        refine hfree k ok hk hki ?_ hno
        by_cases hjk : j = k
        · subst hjk; exact hjun
        · rw [getD_set_ne true hjk] at hun; exact hun
      refine wpOp_mono (fun a' w' h3 => ⟨fun h h' => h3.2.1 h h', ih (listed.setIfInBounds j true) a' w' hfree' (closedL_set hcl hoj hall) (ready_mono hr (Ne.symm hji)) h3.1 (h3.2.1 hTj hS) ?_⟩) h2
      rw [Array.setIfInBounds_comm _ _ hji]
      exact h3.2.2

theorem wpAnyT_first' {i : Nat} {oi : Oper} {v : Value} (hi : ops[i]? = some oi) (hsel : ∀ (j : Nat) (o : Oper) cs b, ops[j]? = some o → o.op ≠ .select cs b)
    (hQ : ∀ c a w, Q (.panic c) (a.put oi.dst v) w → Q (.panic c) a w) :
    ∀ (fuel : Nat) (listed : Array Bool) (a : Act) (w : World),
      (∀ j oj, ops[j]? = some oj → j ≠ i → listed.getD j true = false → (∀ e ∈ oj.after, Region.binds md e = true → e.on ≠ i) → oi.apart ops oj = true) →
      i ∈ Region.ready md ops listed → YieldsIf P ops (fun _ => True) oi v a →
      wpAnyT P md ops Q S T fuel (listed.setIfInBounds i true) (a.put oi.dst v) w → wpAnyT P md ops Q S T (fuel + 1) listed a w := by
  intro fuel
  induction fuel with
  | zero =>
    intro listed a w _ hr hy H
    refine ⟨fun h => (by rw [h] at hr; cases hr), fun j hj => ?_⟩
    by_cases hji : j = i
    · subst hji; exact hy.wpOp hi trivial ⟨fun _ h => h, H⟩
    · have := ready_mono hj hji
      rw [H.1] at this
      cases this
  | succ fuel ih =>
    intro listed a w hfree hr hy H
    refine ⟨fun h => (by rw [h] at hr; cases hr), fun j hj => ?_⟩
    by_cases hji : j = i
    · subst hji; exact hy.wpOp hi trivial ⟨fun _ h => h, H⟩
    · have h1 := H.2 j (ready_mono hj hji)
      obtain ⟨hjun, oj, hoj, hall⟩ := mem_ready.1 hj
      have hnot : ∀ e ∈ oj.after, Region.binds md e = true → e.on ≠ i := fun e he hb heq => by
        have h1 := hall e he hb
        have h0 := (mem_ready.1 hr).1
        rw [heq] at h1
        rcases Nat.lt_or_ge i listed.size with h' | h'
        · simp [h'] at h0 h1; rw [h0] at h1; cases h1
        · simp [Array.getElem?_eq_none h'] at h1
      have h2 := wpOp_putIf (S := fun _ => True) hoj (hfree j oj hoj hji hjun hnot) (fun cs b => hsel i oi cs b hi) (fun cs b => hsel j oj cs b hoj) hQ hy h1
      have hfree' : ∀ k ok, ops[k]? = some ok → k ≠ i → (listed.setIfInBounds j true).getD k true = false →
          (∀ e ∈ ok.after, Region.binds md e = true → e.on ≠ i) → oi.apart ops ok = true := fun k ok hk hki hun hno => by
        refine hfree k ok hk hki ?_ hno
        by_cases hjk : j = k
        · subst hjk; exact hjun
        · rw [getD_set_ne true hjk] at hun; exact hun
      refine wpOp_mono (fun a' w' h3 => ⟨h3.2.1, ih (listed.setIfInBounds j true) a' w' hfree' (ready_mono hr (Ne.symm hji)) h3.1 ?_⟩) h2
      rw [Array.setIfInBounds_comm _ _ hji]
      exact h3.2.2

/-- A load whose cell stands until the operations of T, which wait for it through others. -/
theorem wpAnyT_loadW {i : Nat} {oi : Oper} {v : Value} {fuel : Nat} {listed : Array Bool} {a : Act} {w : World} (hi : ops[i]? = some oi)
    (hs : Region.noSelect ops = true) (hf : Region.free md ops listed i = true) (hr : (Region.ready md ops listed).contains i = true) (hc : closedB md ops listed = true) (ht : ((List.range ops.size).all fun j => !T j || waitsB md ops ops.size j i) = true)
    (hQ : ∀ c a w, Q (.panic c) (a.put oi.dst v) w → Q (.panic c) a w) (hy : YieldsIf P ops S oi v a) (hS : S w)
    (h : wpAnyT P md ops Q S T fuel (listed.setIfInBounds i true) (a.put oi.dst v) w) : wpAnyT P md ops Q S T (fuel + 1) listed a w :=
  wpAnyT_firstW hi (Region.noSelect_spec hs) hQ (fun j oj hoj hj => by
    have := List.all_eq_true.1 ht j (by simpa using (Array.getElem?_eq_some_iff.1 hoj).1)
    simpa [hj] using this) fuel listed a w (Region.free_spec hi hf) (closedB_spec hc) (by simpa using hr) hy hS h
/-- What only reckons: taken first. -/
theorem wpAnyT_pure {i : Nat} {oi : Oper} {v : Value} {fuel : Nat} {listed : Array Bool} {a : Act} {w : World} (hi : ops[i]? = some oi)
    (hs : Region.noSelect ops = true) (hf : Region.free md ops listed i = true) (hr : (Region.ready md ops listed).contains i = true)
    (hQ : ∀ c a w, Q (.panic c) (a.put oi.dst v) w → Q (.panic c) a w) (hw : Region.wanted oi (yielded ops a.tmps) = true) (hy : ∀ w, (execOp a.eval oi).run P w = .ok (.value v) w)
    (h : wpAnyT P md ops Q S T fuel (listed.setIfInBounds i true) (a.put oi.dst v) w) : wpAnyT P md ops Q S T (fuel + 1) listed a w :=
  wpAnyT_first' hi (Region.noSelect_spec hs) hQ fuel listed a w (Region.free_spec hi hf) (by simpa using hr) (.inl ⟨hw, fun w _ => hy w⟩) h
/-- What is not wanted: passed over. -/
theorem wpAnyT_skip {i : Nat} {oi : Oper} {fuel : Nat} {listed : Array Bool} {a : Act} {w : World} (hi : ops[i]? = some oi)
    (hs : Region.noSelect ops = true) (hf : Region.free md ops listed i = true) (hr : (Region.ready md ops listed).contains i = true)
    (hQ : ∀ c a w, Q (.panic c) (a.put oi.dst undef) w → Q (.panic c) a w) (hw : Region.wanted oi (yielded ops a.tmps) = false)
    (h : wpAnyT P md ops Q S T fuel (listed.setIfInBounds i true) (a.put oi.dst undef) w) : wpAnyT P md ops Q S T (fuel + 1) listed a w :=
  wpAnyT_first' hi (Region.noSelect_spec hs) hQ fuel listed a w (Region.free_spec hi hf) (by simpa using hr) (.inr ⟨hw, rfl⟩) h
theorem wpAnyT_all {rs : List Nat} {fuel : Nat} {listed : Array Bool} {a : Act} {w : World} (hr : Region.ready md ops listed = rs) (hne : rs ≠ [])
    (h : ∀ i ∈ rs, wpOp P ops Q i (fun a' w' => (T i = false → S w → S w') ∧ wpAnyT P md ops Q S T fuel (listed.setIfInBounds i true) a' w') a w) : wpAnyT P md ops Q S T (fuel + 1) listed a w :=
  ⟨fun h0 => absurd (hr ▸ h0) hne, hr ▸ h⟩
theorem wpAnyT_one {i : Nat} {fuel : Nat} {listed : Array Bool} {a : Act} {w : World} {oi : Oper} (hr : Region.ready md ops listed = [i]) (hi : ops[i]? = some oi) (hw : Region.wanted oi (yielded ops a.tmps) = true)
    (h : oi.wp P a w (fun a' w' => (T i = false → S w → S w') ∧ wpAnyT P md ops Q S T fuel (listed.setIfInBounds i true) a' w') Q) : wpAnyT P md ops Q S T (fuel + 1) listed a w := by
  refine wpAnyT_all hr (by simp) (fun j hj => ?_)
  obtain rfl : j = i := by simpa using hj
  unfold wpOp
  simp only [hi, hw, if_true]
  exact .inl h
theorem wpAnyT_two {i k : Nat} {fuel : Nat} {listed : Array Bool} {a : Act} {w : World} {oi ok : Oper} (hr : Region.ready md ops listed = [i, k]) (hi : ops[i]? = some oi) (hk : ops[k]? = some ok)
    (hw : Region.wanted oi (yielded ops a.tmps) = true) (hwk : Region.wanted ok (yielded ops a.tmps) = true)
    (h : oi.wp P a w (fun a' w' => (T i = false → S w → S w') ∧ wpAnyT P md ops Q S T fuel (listed.setIfInBounds i true) a' w') Q)
    (h2 : ok.wp P a w (fun a' w' => (T k = false → S w → S w') ∧ wpAnyT P md ops Q S T fuel (listed.setIfInBounds k true) a' w') Q) : wpAnyT P md ops Q S T (fuel + 1) listed a w := by
  refine wpAnyT_all hr (by simp) (fun j hj => ?_)
  have hj' : j = i ∨ j = k := by simpa using hj
  rcases hj' with rfl | rfl
  · unfold wpOp; simp only [hi, hw, if_true]; exact .inl h
  · unfold wpOp; simp only [hk, hwk, if_true]; exact .inl h2
theorem wpAnyT_done {listed : Array Bool} {a : Act} {w : World} (hr : Region.ready md ops listed = []) (h : Q .normal a w) :
    ∀ fuel, wpAnyT P md ops Q S T fuel listed a w
  | 0 => ⟨hr, h⟩
  | _ + 1 => ⟨fun _ => h, by rw [hr]; simp⟩
theorem wp_region_T (S : World → Prop) (T : Nat → Bool) {id : Nat} {a : Act} {w : World} (hm : P.follows .mixedOrders = true)
    (h : wpAnyT P .any ops Q S T ops.size (Array.replicate ops.size false) a w.drew) : (Code.region id ops true).wp P Q a w :=
  wp_region_any hm (wpAny_of_T _ _ _ _ h)
end

section
variable {P : Program} {o : Oper} {a : Act} {w : World} {K : Act → World → Prop} {Q : Exit → Act → World → Prop}
theorem wp_value {v : Value} {w' : World} (he : (execOp a.eval o).run P w = .ok (.value v) w') (h : K (a.put o.dst v) w') : o.wp P a w K Q := by
  unfold Oper.wp; rw [he]; exact h
theorem wp_enter {f : FuncId} {args : Array Value} {R : Ending → World → Prop} (he : (execOp a.eval o).run P w = .ok (.enter f args) w) (hc : Calls P f args w R)
    (h : ∀ e w', R e w' → ∃ v, e = .returned v ∧ K (a.put o.dst v) w') : o.wp P a w K Q := by
  unfold Oper.wp; rw [he]
  refine hc.mono fun e w' hr => ?_
  obtain ⟨v, rfl, hk⟩ := h e w' hr
  exact hk
theorem wp_app (s x : Operand) (t : TypeId)
    (ho : o.op = .call { callee := .builtin .append, args := #[s, x], argTypes := #[t, t] })
    {e : Ty} {base : Nat} {te : TypeId} {z : Value} {bytes : Nat} (hi : (P.info? te).map (fun i => (i.zero, i.size, i.bytes)) = some (some z, e.sz, bytes)) (ht : P.underlying t = some (.slice te)) (hz : z.cells.size = e.sz) (h0 : 0 < e.sz)
    {S : Nat → Prop} {v : Value} {xs : List e.den} (hv : a.eval s = v) (hown : Owns e te base S w v xs) (hbase : base ≤ w.heap.size)
    {sv : Value} (hsv : a.eval x = sv) {ys : List e.den} {news : List Value} (hs : Src w sv ys.length news) (hr : RdL e S w news ys) (hb : (xs.length + ys.length) * bytes ≤ 140737488355328) (hmx : xs.length + ys.length ≤ 9223372036854775807)
    (h : ∀ (ca : Option Addr) (cl cc : Nat) w', Owns e te base S w' (.slice ca cl cc) (xs ++ ys) → w.grownBy w' v.ownBlock → ((Value.slice ca cl cc).ownBlock = v.ownBlock ∨ (Value.slice ca cl cc).ownBlock = some w.heap.size) → K (a.put o.dst (.slice ca cl cc)) w') :
    o.wp P a w K Q := by
  obtain ⟨v', w', hrun, h1, h2, h3, h4⟩ := run_app (P := P) w (ty := o.type) hi ht hz h0 hown hbase hs hr hb hmx
  obtain ⟨ca, cl, cc, rfl, -⟩ := h1.slice
  unfold Oper.wp
  simp [execOp, ho, resolve, invoke, builtin, hv, hsv, hrun, Result.andThen]
  exact h ca cl cc w' h1 h2 h4
end
theorem RdL.mono {e : Ty} {S S' : Nat → Prop} {w : World} {vs : List Value} {xs : List e.den} (h : RdL e S w vs xs) (hs : ∀ b, S b → S' b) : RdL e S' w vs xs := h.keep (fun _ _ => rfl) hs

/-! ### append onto a full slice that is read: a new row -/
section
variable {P : Program} (w : World)
end
end Go.Proofs.YtdcjocldggmdbaaGreat

/- Program independent: cells that stand; a literal that is built, and appended to, in a region that draws its order. -/
namespace Go.Proofs.YtdcjocldggmdbaaGreat
open Go.RowKit Go

/-- Cells that stand. -/
def Cells : List (Addr × Value) → World → Prop
  | [], _ => True
  | (a, v) :: r, w => w.cell? a = some v ∧ Cells r w
theorem Cells.below {w w' : World} (hB : Below w.heap.size w w') : ∀ {l : List (Addr × Value)}, Cells l w → Cells l w'
  | [], _ => trivial
  | (_, _) :: _, h => ⟨cell_below h.1 hB, Cells.below hB h.2⟩
theorem Cells.drew {w : World} {l : List (Addr × Value)} (h : Cells l w) : Cells l w.drew := by
  induction l with
  | nil => trivial
  | cons x l ih => exact ⟨h.1, ih h.2⟩

section
variable {P : Program} {o : Oper} {a : Act} {w : World} {K : Act → World → Prop} {Q : Exit → Act → World → Prop}
/-- A new block: what follows knows the block, not how it was made. -/
theorem wp_newrow {v : Value} {cs : Array Value} {te : TypeId} (he : (execOp a.eval o).run P w = .ok (.value v) (w.alloc (.cells cs te))) (h : ∀ w2, Below w.heap.size w w2 → w2.heap[w.heap.size]? = some (.cells cs te (0, 0)) → K (a.put o.dst v) w2) : o.wp P a w K Q :=
  wp_value he (h _ ((Below.refl _ w).alloc (Nat.le_refl _) _) (heap_alloc_new w _))

theorem run_appLit {e : Ty} {t ty te : TypeId} {z : Value} {bytes : Nat} (hi : (P.info? te).map (fun i => (i.zero, i.size, i.bytes)) = some (some z, e.sz, bytes)) (ht : P.underlying t = some (.slice te)) (hz : z.cells.size = e.sz) (h0 : 0 < e.sz)
    {S : Nat → Prop} {b base : Nat} (hb : w.heap[b]? = some (.cells #[] te (0, 0))) (hbase : base ≤ b) {sv : Value} {ys : List e.den} {news : List Value} (hs : Src w sv ys.length news) (hr : RdL e S w news ys) (hS : ∀ x, S x → x ≠ b ∧ x < w.heap.size)
    (hbt : ys.length * bytes ≤ 140737488355328) (hmx : ys.length ≤ 9223372036854775807) :
    ∃ va vl vc w', (Builtin.append_ #[t, t] ty #[.slice (some ⟨b, 0, none⟩) 0 0, sv]).run P w = .ok (.slice va vl vc) w' ∧ Owns e te base S w' (.slice va vl vc) ys ∧ Below w.heap.size w w' := by
  obtain ⟨i, hi', hz0, hz1, hz2⟩ := info_parts hi
  clear hi
  subst hz2
  have hbl : b < w.heap.size := (Array.getElem?_eq_some_iff.1 hb).1
  by_cases hm : ys.length = 0
  · obtain rfl : ys = [] := List.eq_nil_of_length_eq_zero hm
    have hsv : ∃ a c, sv = .slice a 0 c := by
      rcases hs with ⟨c, rfl, _⟩ | ⟨a, c, rfl, _⟩
      · exact ⟨_, _, rfl⟩
      · exact ⟨_, _, rfl⟩
    obtain ⟨a', c, rfl⟩ := hsv
    have hf : ∀ (a : Option Addr) w', (Builtin.firstCells i.size 0 (.slice a 0 c)).run P w' = .ok #[] w' := by
      intro a w'
      cases a with
      | none => simp [Builtin.firstCells]
      | some a => simp [Builtin.firstCells, loadCells, loadCellsFrom]
    refine ⟨some ⟨b, 0, none⟩, 0, 0, w, ?_, ⟨[], ⟨by simp, .inr ⟨b, 0, #[], rfl, hbase, hb, Nat.le_refl _, by simp, by simp, by simp⟩⟩, rfl, fun x hx => ⟨fun e' => (hS x hx).1 (by simpa [Value.ownBlock] using e'.symm), (hS x hx).2⟩⟩, Below.refl _ _⟩
    simp [Builtin.append_, run_underlying ht, sizeOf, typeInfo, hi', Builtin.lenOf, hf, storeCells]
  · obtain ⟨ad, c, rfl, hnews⟩ : ∃ ad c, sv = .slice (some ad) ys.length c ∧ ∀ j u, news[j]? = some u → w.cell? (ad.add j) = some u := by
      rcases hs with ⟨c, _, h0', _⟩ | ⟨a', c, rfl, ⟨h0', _⟩ | ⟨ad, rfl, h⟩⟩
      · exact absurd h0' hm
      · exact absurd h0' hm
      · exact ⟨ad, c, rfl, h⟩
    have hnl : news.length = ys.length * i.size := by rw [hr.len, hz1]
    have hrun := run_append_grow (P := P) w t ty te i z ht hi' hz0 ⟨b, 0, none⟩ 0 0 [] (by simp) (fun j u hu => by simp at hu) ad ys.length c news hnl hnews (by omega) (by omega) (growslice_fits (by omega) (by simpa using hbt))
    have hge := grownCap_ge w (0 + ys.length) 0 te
    have hcm : grownCap w (0 + ys.length) 0 te ≤ maxLen := grownCap_le_maxLen w _ 0 te (by simp [maxLen]; omega)
    generalize grownCap w (0 + ys.length) 0 te = gc at hge hcm hrun
    have hk : ∀ (o : Obj) (b : Nat), S b → (w.drew.alloc o).heap[b]? = w.heap[b]? := fun o b hb => heap_alloc_old w.drew _ (hS b hb).2
    refine ⟨_, _, _, _, hrun, ⟨news, ⟨by rw [hnl, hz1], .inr ⟨w.heap.size, gc, _, by rw [Nat.zero_add], by omega, heap_alloc_new w.drew _, by omega, by simpa [maxLen] using hcm, ?_, ?_⟩⟩, hr.keep (hk _) (fun _ h => h), fun x hx => ⟨?_, Nat.lt_of_lt_of_le (hS x hx).2 (by simp)⟩⟩, ((Below.refl _ w).drew).alloc (Nat.le_refl _) _⟩
    · simp only [Array.size_append, List.size_toArray, size_zeroCells, hz, hnl, hz1, ← Nat.add_mul, List.length_nil]
      rw [Nat.zero_add, ← Nat.add_mul]
      congr 1
      omega
    · simp only [Array.toList_append, List.append_assoc]
      rw [List.nil_append, List.take_left' (by rw [hnl, hz1])]
    · have := hS x hx
      simp [Value.ownBlock]; omega
theorem wp_appLit (s x : Operand) (t : TypeId)
    (ho : o.op = .call { callee := .builtin .append, args := #[s, x], argTypes := #[t, t] })
    {e : Ty} {te : TypeId} {z : Value} {bytes : Nat} (hi : (P.info? te).map (fun i => (i.zero, i.size, i.bytes)) = some (some z, e.sz, bytes)) (ht : P.underlying t = some (.slice te)) (hz : z.cells.size = e.sz) (h0 : 0 < e.sz)
    {S : Nat → Prop} {b base : Nat} (hv : a.eval s = .slice (some ⟨b, 0, none⟩) 0 0) (hb : w.heap[b]? = some (.cells #[] te (0, 0))) (hbase : base ≤ b)
    {sv : Value} (hsv : a.eval x = sv) {ys : List e.den} (hr : Rd (.sl e) S w [sv] ys) (hS : ∀ x, S x → x ≠ b ∧ x < w.heap.size) (hbt : ys.length * bytes ≤ 140737488355328) (hmx : ys.length ≤ 9223372036854775807)
    (h : ∀ (ca : Option Addr) (cl cc : Nat) w', Owns e te base S w' (.slice ca cl cc) ys → Below w.heap.size w w' → K (a.put o.dst (.slice ca cl cc)) w') :
    o.wp P a w K Q := by
  obtain ⟨news, hs, hrl⟩ := hr.src
  obtain ⟨ca, cl, cc, w', hrun, h1, h2⟩ := run_appLit (P := P) (w := w) (ty := o.type) hi ht hz h0 hb hbase hs hrl hS hbt hmx
  unfold Oper.wp
  simp [execOp, ho, resolve, invoke, builtin, hv, hsv, hrun, Result.andThen]
  exact h ca cl cc w' h1 h2
end
end Go.Proofs.YtdcjocldggmdbaaGreat

/- Program independent: a walk that is cut: what stands behind a part of the code is told by the slots that it has filled. -/
namespace Go.Proofs.YtdcjocldggmdbaaGreat
open Go.RowKit Go

def puts (a : Act) : List Tmp → List Value → Act
  | d :: ds, v :: vs => puts (a.put (some d) v) ds vs
  | _, _ => a
def CutTo (a : Act) (ds : List Tmp) (I : List Value → World → Prop) (a' : Act) (w' : World) : Prop := ∃ vs, a' = puts a ds vs ∧ I vs w'
theorem wp_cut {P : Program} {c : Code} {Q : Exit → Act → World → Prop} {a : Act} {w : World} (ds : List Tmp) (I : List Value → World → Prop)
    (h1 : c.wp P (Exit.then (CutTo a ds I) (fun _ _ _ => False)) a w) (h2 : ∀ vs w', I vs w' → Q .normal (puts a ds vs) w') : c.wp P Q a w := by
  refine Code.wp_mono (fun e a' w' q => ?_) h1
  cases e <;> first | exact q.elim | skip
  obtain ⟨vs, rfl, hI⟩ := q
  exact h2 vs w' hI
theorem cut_leaf {a a' : Act} {ds : List Tmp} {I : List Value → World → Prop} {w' : World} (h : a' = puts a ds (ds.map fun d => a'.tmps.getD d undef)) (hI : I (ds.map fun d => a'.tmps.getD d undef) w') : Exit.then (CutTo a ds I) (fun _ _ _ => False) .normal a' w' := (⟨_, h, hI⟩ : CutTo a ds I a' w')
end Go.Proofs.YtdcjocldggmdbaaGreat
