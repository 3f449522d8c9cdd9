/- Layer 53, plain: the default tasks, and what is signed in their workflow. -/
import Derived.Test.YtdcjocldggmdbaaW53s
set_option linter.unusedSimpArgs false
namespace Go.Proofs.Ytdcjocldggmdbaa
open Go.RowKit Go

theorem dfl_valid : ValidT dfl := by
  unfold ValidT TaskOk NeedsOk
  decide +kernel
theorem dfl_len : dfl.length = 6 := rfl
theorem at0 : tkAt dfl bEntries = ⟨bEntries, [], false, false⟩ := by rfl
theorem at1 : tkAt dfl bRates = ⟨bRates, [], true, false⟩ := by rfl
theorem at2 : tkAt dfl bInterco = ⟨bInterco, [bEntries], false, false⟩ := by rfl
theorem at3 : tkAt dfl bLocal = ⟨bLocal, [bEntries, bInterco], false, true⟩ := by rfl
theorem at4 : tkAt dfl bCons = ⟨bCons, [bRates, bLocal], true, false⟩ := by rfl
theorem at5 : tkAt dfl bReport = ⟨bReport, [bCons], true, true⟩ := by rfl
theorem raw0 (ne : Nat) (e p : Int) : rawNeeds dfl ne ⟨bEntries, e, p⟩ = [] := by simp [rawNeeds, at0]
theorem raw1 (ne : Nat) (e p : Int) : rawNeeds dfl ne ⟨bRates, e, p⟩ = [] := by simp [rawNeeds, at1]
theorem raw2 (ne : Nat) (e p : Int) : rawNeeds dfl ne ⟨bInterco, e, p⟩ = [⟨bEntries, e, p⟩] := by simp [rawNeeds, needOf, at2, at0]
theorem raw3 (ne : Nat) (e p : Int) : rawNeeds dfl ne ⟨bLocal, e, p⟩ = [⟨bEntries, e, p⟩, ⟨bInterco, e, p⟩] ++ (if 0 < p then [⟨bLocal, e, p - 1⟩] else []) := by simp [rawNeeds, needOf, at3, at0, at2]
theorem raw4 (ne : Nat) (e p : Int) : rawNeeds dfl ne ⟨bCons, e, p⟩ = ⟨bRates, -1, p⟩ :: (List.range ne).map fun i => ⟨bLocal, (i : Nat), p⟩ := by simp [rawNeeds, needOf, keysL, at4, at1, at3]
theorem raw5 (ne : Nat) (e p : Int) : rawNeeds dfl ne ⟨bReport, e, p⟩ = [⟨bCons, -1, p⟩] ++ (if 0 < p then [⟨bReport, e, p - 1⟩] else []) := by simp [rawNeeds, needOf, keysL, at5, at4]
theorem n01 : bEntries ≠ bInterco := by decide
theorem n02 : bEntries ≠ bLocal := by decide
theorem n12 : bInterco ≠ bLocal := by decide
theorem n03 : bRates ≠ bLocal := by decide
theorem n04 : bCons ≠ bReport := by decide
theorem dfl_name {n : ByteArray} (h : plc dfl n < dfl.length) : n = bEntries ∨ n = bRates ∨ n = bInterco ∨ n = bLocal ∨ n = bCons ∨ n = bReport := by
  have h1 := plc_name h
  generalize plc dfl n = i at h h1
  match i, h, h1 with
  | 0, _, h1 => exact .inl h1.symm
  | 1, _, h1 => exact .inr (.inl h1.symm)
  | 2, _, h1 => exact .inr (.inr (.inl h1.symm))
  | 3, _, h1 => exact .inr (.inr (.inr (.inl h1.symm)))
  | 4, _, h1 => exact .inr (.inr (.inr (.inr (.inl h1.symm))))
  | 5, _, h1 => exact .inr (.inr (.inr (.inr (.inr h1.symm))))
  | i + 6, h, _ => exact absurd h (by rw [dfl_len]; omega)
theorem check_plc {ts : List Tk} {ne np : Int} {k : Ky} (h : checkI ts ne np k = 0) : plc ts k.task < ts.length := by
  unfold checkI at h
  split at h
  · assumption
  · cases h
theorem dfl_raw {ne : Nat} (hne : ne ≤ 11) (k : Ky) (h : plc dfl k.task < dfl.length) : (rawNeeds dfl ne k).length ≤ 12 ∧ (rawNeeds dfl ne k).Nodup ∧ ∀ n ∈ (tkAt dfl k.task).needs, plc dfl n < dfl.length := by
  obtain ⟨t, e, p⟩ := k
  rcases dfl_name h with rfl | rfl | rfl | rfl | rfl | rfl
  · rw [raw0, at0]; exact ⟨by simp, List.nodup_nil, by simp⟩
  · rw [raw1, at1]; exact ⟨by simp, List.nodup_nil, by simp⟩
  · rw [raw2, at2]; exact ⟨by simp, by simp, by decide +kernel⟩
  · rw [raw3, at3]
    refine ⟨by split <;> simp, ?_, by decide +kernel⟩
    split <;> simp [n01, n02, n12]
  · rw [raw4, at4]
    refine ⟨by simp; omega, ?_, by decide +kernel⟩
    rw [List.nodup_cons]
    refine ⟨by simp [n03.symm], ?_⟩
    rw [List.Nodup, List.pairwise_map]
    refine List.Pairwise.imp ?_ (List.nodup_range (n := ne))
    intro a b hab he
    rw [Ky.mk.injEq] at he
    omega
  · rw [raw5, at5]
    refine ⟨by split <;> simp, ?_, by decide +kernel⟩
    split <;> simp [n04]
theorem dfl_needOk {ne np : Nat} (hne : ne ≤ 11) {k : Ky} (hok : k.ok) (h : checkI dfl ne np k = 0) : NeedOk dfl ne k :=
  have hp := check_plc h
  have hr := dfl_raw hne k hp
  ⟨hp, hok, hr.2.2, by have := hr.1; omega, hr.2.1⟩

/-- What is signed is a key of the workflow, and its prerequisites are signed. -/
def InvS (ts : List Tk) (ne np : Nat) (f : Ky → Option ByteArray) : Prop := ∀ k, (f k).isSome = true → checkI ts ne np k = 0 ∧ readyB ts ne f k = true
theorem InvS.none (ts : List Tk) (ne np : Nat) : InvS ts ne np (fun _ => Option.none) := fun k h => by cases h
theorem signF_some {f : Ky → Option ByteArray} {k : Ky} {who : ByteArray} {x : Ky} (h : (f x).isSome = true) : (signF f k who x).isSome = true := by
  unfold signF
  split
  · rfl
  · exact h
theorem ready_mono {ts : List Tk} {ne : Nat} {f : Ky → Option ByteArray} {k : Ky} {who : ByteArray} {x : Ky} (h : readyB ts ne f x = true) : readyB ts ne (signF f k who) x = true := by
  unfold readyB at *
  rw [List.all_eq_true] at *
  exact fun n hn => signF_some (h n hn)
theorem InvS.sign {ts : List Tk} {ne np : Nat} {f : Ky → Option ByteArray} (h : InvS ts ne np f) {k : Ky} {who : ByteArray} : InvS ts ne np (if signI ts ne np f k who = 0 then signF f k who else f) := by
  split
  · rename_i hs
    intro x hx
    by_cases e : x = k
    · subst e
      unfold signI at hs
      by_cases hc : checkI ts ne np x = 0
      · rw [if_pos hc] at hs
        refine ⟨hc, ready_mono ?_⟩
        split at hs
        · split at hs
          · cases hs
          · split at hs
            · assumption
            · cases hs
        · cases hs
      · rw [if_neg hc] at hs
        exact absurd hs hc
    · have hx' : (f x).isSome = true := by simpa [signF, e] using hx
      exact ⟨(h x hx').1, ready_mono (h x hx').2⟩
  · exact h
theorem InvS.need {ts : List Tk} {ne np : Nat} {f : Ky → Option ByteArray} (h : InvS ts ne np f) {k x : Ky} (hk : (f k).isSome = true) (hx : x ∈ rawNeeds ts ne k) : (f x).isSome = true := by
  have := (h k hk).2
  unfold readyB at this
  rw [List.all_eq_true] at this
  exact this x hx
theorem closing {ne np : Nat} {f : Ky → Option ByteArray} (h : InvS dfl ne np f) {p : Int} (hr : (f ⟨bReport, -1, p⟩).isSome = true) :
    (∀ e : Nat, e < ne → (f ⟨bEntries, e, p⟩).isSome = true ∧ (f ⟨bLocal, e, p⟩).isSome = true) ∧ doneB dfl ne f p = true := by
  have hc : (f ⟨bCons, -1, p⟩).isSome = true := h.need hr (by rw [raw5]; simp)
  have hra : (f ⟨bRates, -1, p⟩).isSome = true := h.need hc (by rw [raw4]; simp)
  have hl : ∀ e : Nat, e < ne → (f ⟨bLocal, e, p⟩).isSome = true := fun e he => h.need hc (by
    rw [raw4]
    exact List.mem_cons_of_mem _ (List.mem_map.2 ⟨e, List.mem_range.2 he, rfl⟩))
  have he : ∀ e : Nat, e < ne → (f ⟨bEntries, e, p⟩).isSome = true := fun e hlt => h.need (hl e hlt) (by rw [raw3]; simp)
  have hi : ∀ e : Nat, e < ne → (f ⟨bInterco, e, p⟩).isSome = true := fun e hlt => h.need (hl e hlt) (by rw [raw3]; simp)
  refine ⟨fun e hlt => ⟨he e hlt, hl e hlt⟩, ?_⟩
  unfold doneB
  rw [Bool.and_eq_true, List.all_eq_true]
  constructor
  · intro k hk
    unfold allK dfl at hk
    simp only [List.flatMap_cons, List.flatMap_nil, List.append_nil, List.mem_append, keysL, Bool.false_eq_true, if_false, if_true, List.mem_map, List.mem_range, List.mem_singleton] at hk
    rcases hk with ⟨e, hlt, rfl⟩ | rfl | ⟨e, hlt, rfl⟩ | ⟨e, hlt, rfl⟩ | rfl | rfl
    · exact he e hlt
    · exact hra
    · exact hi e hlt
    · exact hl e hlt
    · exact hc
    · exact hr
  · unfold allK dfl
    simp [keysL]
    omega
theorem notDone {ne : Nat} {f : Ky → Option ByteArray} {p : Int} (hr : (f ⟨bReport, -1, p⟩).isSome = false) : doneB dfl ne f p = false := by
  unfold doneB
  rw [Bool.and_eq_false_iff, List.all_eq_false]
  refine .inl ⟨⟨bReport, -1, p⟩, ?_, by rw [hr]; simp⟩
  unfold allK dfl
  simp [keysL]
end Go.Proofs.Ytdcjocldggmdbaa
