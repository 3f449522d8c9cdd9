/- Layer 53: the reference's Valid. -/
import Derived.Test.YtdcjocldggmdbaaW53y
set_option linter.unusedSimpArgs false
namespace Go.Proofs.Ytdcjocldggmdbaa
open Go.RowKit Go

def NeedAt (ts : List Tk) (i : Nat) (nds : List ByteArray) (k : Nat) : Prop := ∀ (hk : k < nds.length), plc ts nds[k] < i ∧ ∀ j (hj : j < k), nds[j] ≠ nds[k]
def RTask (ts : List Tk) (i : Nat) : Prop := ∀ (hi : i < ts.length), nameB ts[i].name = true ∧ plc ts ts[i].name = i ∧ ∀ k, k < ts[i].needs.length → NeedAt ts i ts[i].needs k
def RVal (ts : List Tk) : Prop := 1 ≤ ts.length ∧ ts.length ≤ 20 ∧ ∀ i, i < ts.length → RTask ts i
theorem plcI_lt {ts : List Tk} {n : ByteArray} {i : Nat} (hi : i ≤ ts.length) : (0 ≤ plcI ts n ∧ plcI ts n < (i : Int)) ↔ plc ts n < i := by
  unfold plcI
  split <;> omega
theorem plcI_eq {ts : List Tk} {n : ByteArray} {i : Nat} (hi : i < ts.length) : plcI ts n = (i : Int) ↔ plc ts n = i := by
  unfold plcI
  split <;> omega
theorem plc_mem {ts : List Tk} {n : ByteArray} {i : Nat} (hi : i ≤ ts.length) : hasN ((ts.take i).map Tk.name) n = true ↔ plc ts n < i := by
  rw [hasN_iff]
  constructor
  · intro h
    obtain ⟨t, ht, rfl⟩ := List.mem_map.1 h
    obtain ⟨j, hj, rfl⟩ := List.getElem_of_mem ht
    rw [List.length_take] at hj
    rw [List.getElem_take]
    have : plc ts ts[j].name ≤ j := by
      unfold plc
      exact Nat.le_of_not_lt fun hlt => by
        have := List.not_of_lt_findIdx (xs := ts) (p := fun t => decide (t.name = ts[j].name)) (i := j) hlt
        simp at this
    omega
  · intro h
    have hp := plc_name (ts := ts) (n := n) (by omega)
    refine List.mem_map.2 ⟨ts[plc ts n], ?_, hp⟩
    exact List.mem_iff_getElem.2 ⟨plc ts n, by rw [List.length_take]; omega, by rw [List.getElem_take]⟩
theorem rval_iff (ts : List Tk) : RVal ts ↔ ValidT ts := by
  unfold RVal ValidT
  refine and_congr Iff.rfl (and_congr Iff.rfl (forall_congr' fun i => forall_congr' fun hi => ?_))
  unfold RTask TaskOk NeedsOk NeedAt
  have hle : i ≤ ts.length := by omega
  constructor
  · intro h
    obtain ⟨h1, h2, h3⟩ := h hi
    refine ⟨fun j hj => ⟨(plc_mem hle).2 (h3 j hj hj).1, ?_⟩, ?_, h1⟩
    · cases hh : hasN (ts[i].needs.take j) ts[i].needs[j] with
      | false => rfl
      | true =>
        obtain ⟨m, hm, he⟩ := List.getElem_of_mem (hasN_iff.1 hh)
        rw [List.length_take] at hm
        rw [List.getElem_take] at he
        exact absurd he ((h3 j hj hj).2 m (by omega))
    · cases hh : hasN ((ts.take i).map Tk.name) ts[i].name with
      | false => rfl
      | true => have := (plc_mem hle).1 hh; omega
  · intro h _
    obtain ⟨h1, h2, h3⟩ := h
    refine ⟨h3, ?_, fun k hk _ => ⟨(plc_mem hle).1 (h1 k hk).1, fun j hj he => ?_⟩⟩
    · have h4 : ¬ plc ts ts[i].name < i := fun hlt => by rw [(plc_mem hle).2 hlt] at h2; cases h2
      have h5 : plc ts ts[i].name ≤ i := by
        unfold plc
        exact Nat.le_of_not_lt fun hlt => by
          have := List.not_of_lt_findIdx (xs := ts) (p := fun t => decide (t.name = ts[i].name)) (i := i) hlt
          simp at this
      omega
    · have := (h1 k hk).2
      have hm : hasN (ts[i].needs.take k) ts[i].needs[k] = true := hasN_iff.2 (List.mem_iff_getElem.2 ⟨j, by rw [List.length_take]; omega, by rw [List.getElem_take]; exact he⟩)
      rw [hm] at this
      cases this
end Go.Proofs.Ytdcjocldggmdbaa
