import Derived.Test.YthomonglhieifaaPAllx0
import Derived.Test.YthomonglhieifaaPAllx3
import Derived.Test.YthomonglhieifaaPAllx5
import Derived.Test.YthomonglhieifaaPAllx7
import Derived.Test.YthomonglhieifaaSchSpec
namespace Go.Proofs.Ythomonglhieifaa.Pure
open Go.RowKit Go.Proofs.Ythomonglhieifaa.PAll Go.Proofs.YthomonglhieifaaW.PrintWords Go.Proofs.YthomonglhieifaaW.PrintLast

/-! What changes no scheme. -/
theorem alive_ev' : Ev (fun k => marginalialaw10_alive.f k) true := by
  refine Ev.of marginalialaw10_alive.mono (k := 30) ?_
  decide +kernel
theorem append_data' (a b : ByteArray) : (a ++ b).data.toList = a.data.toList ++ b.data.toList := by simp
theorem tidy_put (a b : List UInt8) (t : UInt8) (ht : lowC t = true) (hk : keepC t = false) : tidyL (a ++ t :: b) = tidyL (a ++ b) := by
  unfold tidyL
  induction a with
  | nil => rw [List.nil_append, List.nil_append, List.dropWhile_cons_of_pos ht]
  | cons c r ih =>
    rw [List.cons_append, List.cons_append]
    by_cases h : lowC c = true
    · rw [List.dropWhile_cons_of_pos h, List.dropWhile_cons_of_pos h, ih]
    · rw [List.dropWhile_cons_of_neg h, List.dropWhile_cons_of_neg h]
      simp [List.filter_append, List.filter_cons, hk]
theorem tidy_ahead (b : List UInt8) (t : UInt8) (ht : lowC t = true) : tidyL (t :: b) = tidyL b := by
  unfold tidyL
  rw [List.dropWhile_cons_of_pos ht]
theorem split_at (s : ByteArray) (i : Nat) : (s.extract 0 i).data.toList ++ (s.extract i s.size).data.toList = s.data.toList := by
  rw [Lib.extract_to_end, ext_take, List.drop_zero, Nat.sub_zero, List.take_append_drop]
/-! ### letters -/
def sSmall (c : UInt8) : Bool := decide (97 ≤ c.toNat ∧ c.toNat ≤ 122)
def sOk (c : UInt8) : Bool := sSmall c || (sFig c || (c == 43 || (c == 45 || c == 46)))
theorem let_small (c : UInt8) : sLet c = true → sSmall (lowB c) = true := by
  revert c; apply u8_all; decide +kernel
theorem part_ok (c : UInt8) : sPart c = true → sOk (lowB c) = true := by
  revert c; apply u8_all; decide +kernel
theorem ok_facts (c : UInt8) : sOk c = true → lowB c = c ∧ sPart c = true ∧ c ≠ 58 ∧ keepC c = true := by
  revert c; apply u8_all; decide +kernel
theorem small_facts (c : UInt8) : sSmall c = true → sLet c = true ∧ lowC c = false := by
  revert c; apply u8_all; decide +kernel
/-- What a scheme that is told looks like. -/
theorem schL_told {t x : List UInt8} (h : schL t = some x) : ∃ c r, x = c :: r ∧ sSmall c = true ∧ (c :: r).all sOk = true ∧ x.length ≤ t.length := by
  unfold schL at h
  split at h
  · next hm =>
    have hl := (List.takeWhile_prefix (p := fun c : UInt8 => c != 58) (l := t)).length_le
    revert h hl
    generalize List.takeWhile (· != 58) t = nm
    intro h hl
    cases nm with
    | nil => simp [schN] at h
    | cons c r =>
      rw [schN] at h
      split at h
      · next hc =>
        obtain rfl := Option.some.inj h
        refine ⟨lowB c, r.map lowB, rfl, let_small c hc.1, ?_, by simpa using hl⟩
        rw [← List.map_cons, List.all_map, List.all_eq_true]
        intro d hd
        exact part_ok d (List.all_eq_true.1 hc.2 d hd)
      · simp at h
  · simp at h
theorem schL_again (c : UInt8) (r rest : List UInt8) (h1 : sSmall c = true) (h2 : (c :: r).all sOk = true) : schL (tidyL ((c :: r) ++ 58 :: rest)) = some (c :: r) := by
  have hf : ∀ d ∈ c :: r, _ := fun d hd => ok_facts d (List.all_eq_true.1 h2 d hd)
  have hs := small_facts c h1
  have e : tidyL ((c :: r) ++ 58 :: rest) = (c :: r) ++ 58 :: rest.filter keepC := by
    unfold tidyL
    rw [List.cons_append, List.dropWhile_cons_of_neg (by rw [hs.2]; simp), ← List.cons_append, List.filter_append, List.filter_eq_self.2 (fun d hd => (hf d hd).2.2.2), List.filter_cons, if_pos (by decide)]
  rw [e]
  have e2 : ((c :: r) ++ 58 :: rest.filter keepC).takeWhile (· != 58) = c :: r := by
    rw [List.takeWhile_append_of_pos (fun d hd => by simpa using (hf d hd).2.2.1)]
    simp
  unfold schL
  rw [if_pos (by simp), e2, schN, if_pos ⟨hs.1, List.all_eq_true.2 (fun d hd => (hf d hd).2.1)⟩]
  congr 1
  conv => rhs; rw [← List.map_id (c :: r)]
  exact List.map_congr_left (fun d hd => (hf d hd).1)
end Go.Proofs.Ythomonglhieifaa.Pure
