/- Layer 53: Default. -/
import Derived.Test.YtdcjocldggmdbaaW53r
set_option linter.unusedSimpArgs false
namespace Go.Proofs.Ytdcjocldggmdbaa
open Go.RowKit Go

def bEntries : ByteArray := ⟨#[101, 110, 116, 114, 105, 101, 115]⟩
def bRates : ByteArray := ⟨#[114, 97, 116, 101, 115]⟩
def bInterco : ByteArray := ⟨#[105, 110, 116, 101, 114, 99, 111]⟩
def bLocal : ByteArray := ⟨#[108, 111, 99, 97, 108]⟩
def bCons : ByteArray := ⟨#[99, 111, 110, 115, 111, 108, 105, 100, 97, 116, 101]⟩
def bReport : ByteArray := ⟨#[114, 101, 112, 111, 114, 116]⟩
/-- The default tasks. -/
def dfl : List Tk := [⟨bEntries, [], false, false⟩, ⟨bRates, [], true, false⟩, ⟨bInterco, [bEntries], false, false⟩, ⟨bLocal, [bEntries, bInterco], false, true⟩, ⟨bCons, [bRates, bLocal], true, false⟩, ⟨bReport, [bCons], true, true⟩]
theorem rd_strs {S : Nat → Prop} {w : World} (l : List ByteArray) (h : ∀ s ∈ l, s.size ≤ maxLen) : RdL .str S w (l.map Value.string) l := by
  induction l with
  | nil => rfl
  | cons s l ih => exact ⟨[.string s], l.map Value.string, rfl, ⟨rfl, h s List.mem_cons_self⟩, ih fun x hx => h x (List.mem_cons_of_mem _ hx)⟩
theorem dfl_rd {w' : World} {n b0 b1 b2 b3 b4 : Nat} {t9 t38 : TypeId} {fr : Nat × Nat} (hn : n ≤ b0 ∧ n ≤ b1 ∧ n ≤ b2 ∧ n ≤ b3 ∧ n ≤ b4)
    (h0 : w'.heap[b0]? = some (.cells #[.string bEntries] t9 fr)) (h1 : w'.heap[b1]? = some (.cells #[.string bEntries, .string bInterco] t9 fr))
    (h2 : w'.heap[b2]? = some (.cells #[.string bRates, .string bLocal] t9 fr)) (h3 : w'.heap[b3]? = some (.cells #[.string bCons] t9 fr))
    (h4 : w'.heap[b4]? = some (.cells #[.string bEntries, .slice none 0 0, .bool false, .bool false, .string bRates, .slice none 0 0, .bool true, .bool false, .string bInterco, .slice (some ⟨b0, 0, none⟩) 1 1, .bool false, .bool false,
      .string bLocal, .slice (some ⟨b1, 0, none⟩) 2 2, .bool false, .bool true, .string bCons, .slice (some ⟨b2, 0, none⟩) 2 2, .bool true, .bool false, .string bReport, .slice (some ⟨b3, 0, none⟩) 1 1, .bool true, .bool true] t38 fr)) :
    Rd (.sl taskT) (fun b => n ≤ b ∧ b < w'.heap.size) w' [.slice (some ⟨b4, 0, none⟩) 6 6] (dfl.map Tk.d) := by
  have s0 : bEntries.size ≤ maxLen := by decide
  have s1 : bRates.size ≤ maxLen := by decide
  have s2 : bInterco.size ≤ maxLen := by decide
  have s3 : bLocal.size ≤ maxLen := by decide
  have s4 : bCons.size ≤ maxLen := by decide
  have s5 : bReport.size ≤ maxLen := by decide
  have r0 : Rd (.sl .str) (fun b => n ≤ b ∧ b < w'.heap.size) w' [.slice (some ⟨b0, 0, none⟩) 1 1] [bEntries] := Rd.sl_blk h0 ⟨hn.1, blk_lt h0⟩ rfl (by decide) (rd_strs [bEntries] (by simp [s0]))
  have r1 : Rd (.sl .str) (fun b => n ≤ b ∧ b < w'.heap.size) w' [.slice (some ⟨b1, 0, none⟩) 2 2] [bEntries, bInterco] := Rd.sl_blk h1 ⟨hn.2.1, blk_lt h1⟩ rfl (by decide) (rd_strs [bEntries, bInterco] (by simp [s0, s2]))
  have r2 : Rd (.sl .str) (fun b => n ≤ b ∧ b < w'.heap.size) w' [.slice (some ⟨b2, 0, none⟩) 2 2] [bRates, bLocal] := Rd.sl_blk h2 ⟨hn.2.2.1, blk_lt h2⟩ rfl (by decide) (rd_strs [bRates, bLocal] (by simp [s1, s3]))
  have r3 : Rd (.sl .str) (fun b => n ≤ b ∧ b < w'.heap.size) w' [.slice (some ⟨b3, 0, none⟩) 1 1] [bCons] := Rd.sl_blk h3 ⟨hn.2.2.2.1, blk_lt h3⟩ rfl (by decide) (rd_strs [bCons] (by simp [s4]))
  have rn : Rd (.sl .str) (fun b => n ≤ b ∧ b < w'.heap.size) w' [.slice none 0 0] [] := ⟨none, 0, 0, rfl, rfl, Nat.le_refl _, by decide, .inl rfl⟩
  refine Rd.sl_blk h4 ⟨hn.2.2.2.2, blk_lt h4⟩ rfl (by decide) ?_
  exact (RdL.one (e := taskT) (task_rd (t := ⟨bEntries, [], false, false⟩) s0 rn)).append ((RdL.one (e := taskT) (task_rd (t := ⟨bRates, [], true, false⟩) s1 rn)).append ((RdL.one (e := taskT) (task_rd (t := ⟨bInterco, [bEntries], false, false⟩) s2 r0)).append
    ((RdL.one (e := taskT) (task_rd (t := ⟨bLocal, [bEntries, bInterco], false, true⟩) s3 r1)).append ((RdL.one (e := taskT) (task_rd (t := ⟨bCons, [bRates, bLocal], true, false⟩) s4 r2)).append (RdL.one (e := taskT) (task_rd (t := ⟨bReport, [bCons], true, true⟩) s5 r3))))))
theorem alloc_new' {w : World} {o : Obj} {n : Nat} (h : w.heap.size = n) : (w.alloc o).heap[n]? = some o := by subst h; exact heap_alloc_new w o
theorem alloc_old' {w : World} {o x : Obj} {n : Nat} (h : w.heap[n]? = some x) : (w.alloc o).heap[n]? = some x := (((Below.refl w.heap.size w).alloc (Nat.le_refl _) o).block _ (blk_lt h)).trans h
set_option maxRecDepth 20000 in
set_option maxHeartbeats 1000000 in
theorem default53 (w : World) :
    Calls Try.prog 11 #[] w fun e w' => ∃ b, e = .returned (.slice (some ⟨b, 0, none⟩) 6 6) ∧ Rd (.sl taskT) (fun b => w.heap.size ≤ b ∧ b < w'.heap.size) w' [.slice (some ⟨b, 0, none⟩) 6 6] (dfl.map Tk.d) ∧ Below w.heap.size w w' := by
  go_enter Try.func11, Try.ntmps11
  go_wp2_with fail
  go_ret
  refine ⟨_, rfl, dfl_rd (n := w.heap.size) (b0 := w.heap.size) (b1 := w.heap.size + 1) (b2 := w.heap.size + 1 + 1) (b3 := w.heap.size + 1 + 1 + 1) (b4 := w.heap.size + 1 + 1 + 1 + 1) (t9 := 9) (t38 := 38) (fr := (0, 0)) (by omega) ?_ ?_ ?_ ?_ ?_, (((((Below.refl w.heap.size w).alloc (Nat.le_refl _) _).alloc (by simp) _).alloc (by simp <;> omega) _).alloc (by simp <;> omega) _).alloc (by simp <;> omega) _⟩
  · exact alloc_old' (alloc_old' (alloc_old' (alloc_old' (alloc_new' rfl))))
  · exact alloc_old' (alloc_old' (alloc_old' (alloc_new' (by simp))))
  · exact alloc_old' (alloc_old' (alloc_new' (by simp)))
  · exact alloc_old' (alloc_new' (by simp))
  · exact alloc_new' (by simp)
end Go.Proofs.Ytdcjocldggmdbaa
