/- The statement KindWithin: which sets of names lie within which, and which share none (beyond 300 bytes: the live question alone).
   No condition: every name. -/
import Derived.Test.YtpgbkmmfniihbaaPAllx0
import Derived.Test.YtpgbkmmfniihbaaPAllx6
import Derived.Test.YtpgbkmmfniihbaaTexts
namespace Go.Proofs.Ytpgbkmmfniihbaa.Pure
open Go.RowKit Go.Proofs.Ytpgbkmmfniihbaa.PAll Go.Proofs.YtpgbkmmfniihbaaW.PrintWords Go.Proofs.YtpgbkmmfniihbaaW.PrintLast
theorem within {a b : Int} (h : ∀ y ∈ setK a, y ∈ setK b) {n : ByteArray} (hn : inK a n = true) : inK b n = true :=
  List.contains_iff_mem.2 (h _ (List.contains_iff_mem.1 hn))
theorem apart {a b : Int} (h : ∀ y ∈ setK a, ¬ y ∈ setK b) {n : ByteArray} (hn : inK a n = true) : inK b n = false := by
  rw [Bool.eq_false_iff]
  exact fun hb => h _ (List.contains_iff_mem.1 hn) (List.contains_iff_mem.1 hb)
theorem Ev.way {α : Type} {g : Nat → Option Bool} {b : Bool} {X Y : Nat → Option α} {r : α} (h : Ev g b) (hx : b = true → Ev X r) (hy : b = false → Ev Y r) :
    Ev (fun n => (g n).bind fun t => if t = true then X n else Y n) r := by
  refine Ev.bind h ?_
  cases b with
  | true => exact Ev.congr (fun _ => if_pos rfl) (hx rfl)
  | false => exact Ev.congr (fun _ => if_neg (by simp)) (hy rfl)
theorem j3_ev (n : ByteArray) : Ev (fun k => marginalialaw02_KindWithin.j3 k n false) true := by
  refine Ev.step (fun k => by simp only [marginalialaw02_KindWithin.j3]; exact if_neg (by simp)) ?_
  refine Ev.way alive_ev (fun _ => ?_) (fun e => by cases e)
  refine Ev.way (is_ev 9 n) (fun e => ?_) (fun _ => ⟨0, fun _ _ => rfl⟩)
  have := Ev.pass (is_ev 12 n)
  rwa [within (a := 9) (by decide +kernel) e] at this
theorem j2_ev (n : ByteArray) : Ev (fun k => marginalialaw02_KindWithin.j2 k n false) true := by
  refine Ev.step (fun k => by simp only [marginalialaw02_KindWithin.j2]; exact if_neg (by simp)) ?_
  refine Ev.way (is_ev 1 n) (fun e => ?_) (fun _ => j3_ev n)
  refine Ev.way (is_ev 2 n) (fun e' => ?_) (fun _ => ?_)
  · rw [apart (a := 1) (by decide +kernel) e] at e'; cases e'
  · refine Ev.bind (is_ev 3 n) ?_
    rw [apart (a := 1) (by decide +kernel) e]
    exact j3_ev n
theorem j1_ev (n : ByteArray) : Ev (fun k => marginalialaw02_KindWithin.j1 k n false) true := by
  refine Ev.step (fun k => by simp only [marginalialaw02_KindWithin.j1]; exact if_neg (by simp)) ?_
  refine Ev.way (is_ev 5 n) (fun e => ?_) (fun _ => j2_ev n)
  refine Ev.way (is_ev 6 n) (fun e' => ?_) (fun _ => ?_)
  · rw [apart (a := 5) (by decide +kernel) e] at e'; cases e'
  · refine Ev.bind (is_ev 4 n) ?_
    rw [apart (a := 5) (by decide +kernel) e]
    exact j2_ev n
theorem j0_ev (n : ByteArray) (b : Bool) (h : b = true → inK 4 n = true) : Ev (fun k => marginalialaw02_KindWithin.j0 k n b) true := by
  cases b with
  | false => exact Ev.step (fun k => by simp only [marginalialaw02_KindWithin.j0]; exact if_neg (by simp)) (j1_ev n)
  | true =>
    refine Ev.step (fun k => by simp only [marginalialaw02_KindWithin.j0]; exact if_pos trivial) ?_
    refine Ev.bind (is_ev 4 n) ?_
    rw [h rfl]
    exact j1_ev n
theorem KindWithin : marginalialaw02_KindWithin.Pure := by
  intro a0 _
  have H : Ev (fun k => marginalialaw02_KindWithin.f k a0) true := by
    unfold marginalialaw02_KindWithin.f
    by_cases hs : (a0.size : Int) > 300
    · exact Ev.congr (fun _ => if_pos hs) (Ev.pass alive_ev)
    · refine Ev.congr (fun _ => if_neg hs) ?_
      refine Ev.way (is_ev 1 a0) (fun e => j0_ev a0 true fun _ => within (a := 1) (by decide +kernel) e) fun _ => ?_
      refine Ev.way (is_ev 2 a0) (fun e => j0_ev a0 true fun _ => within (a := 2) (by decide +kernel) e) fun _ => ?_
      refine Ev.way (is_ev 3 a0) (fun e => j0_ev a0 true fun _ => within (a := 3) (by decide +kernel) e) fun _ => ?_
      refine Ev.way (is_ev 7 a0) (fun e => j0_ev a0 true fun _ => within (a := 7) (by decide +kernel) e) fun _ => ?_
      refine Ev.way (is_ev 6 a0) (fun e => j0_ev a0 true fun _ => within (a := 6) (by decide +kernel) e) fun _ => ?_
      refine Ev.way (is_ev 9 a0) (fun e => j0_ev a0 true fun _ => within (a := 9) (by decide +kernel) e) fun _ => ?_
      exact Ev.bind (is_ev 11 a0) (j0_ev a0 _ fun e => within (a := 11) (by decide +kernel) e)
  exact H.rounds
end Go.Proofs.Ytpgbkmmfniihbaa.Pure
