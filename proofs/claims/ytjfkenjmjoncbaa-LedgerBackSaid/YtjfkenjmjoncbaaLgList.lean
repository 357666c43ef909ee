import Derived.Test.YtjfkenjmjoncbaaPAllx0
import Derived.Test.YtjfkenjmjoncbaaPAllx1
import Derived.Test.YtjfkenjmjoncbaaPAllx8
import Derived.Test.YtjfkenjmjoncbaaLgIds
namespace Go.Proofs.Ytjfkenjmjoncbaa.Lg
open Go Go.Maps Go.WideShapes Go.RowKit Go.Proofs.Ytjfkenjmjoncbaa.PAll Go.Proofs.YtjfkenjmjoncbaaW.PrintWords Go.Proofs.YtjfkenjmjoncbaaW.PrintLast Go.Proofs.YtjfkenjmjoncbaaW.PrintMore
attribute [local go_sem] min2_int min_two
set_option linter.unusedVariables false
set_option linter.unusedSimpArgs false

/-! ### List: a number's place among the posts' -/
theorem drawn0_below {w w' : World} (h : Drawn0 w w') : Below w.heap.size w w' := by
  obtain ⟨n, rfl⟩ := h.out
  exact pw_below_drewN (Below.refl _ _) n
def below (l : List Int) (t : Int) : Nat := (l.filter (fun x => decide (x < t))).length
theorem below_le (l : List Int) (t : Int) : below l t ≤ l.length := List.length_filter_le _ _
theorem below_at {l : List Int} (h : l.Pairwise (· < ·)) (t : Int) : ∀ (i : Nat) (hi : i < l.length), l[i] < t ↔ i < below l t := by
  induction l with
  | nil => intro i hi; simp at hi
  | cons a l ih =>
    obtain ⟨h1, h2⟩ := List.pairwise_cons.1 h
    intro i hi
    by_cases c : a < t
    · have e : below (a :: l) t = below l t + 1 := by unfold below; rw [List.filter_cons_of_pos (by simpa using c)]; rfl
      rw [e]
      cases i with
      | zero => simp [c]
      | succ i =>
        have := ih h2 i (by simpa using hi)
        simp only [List.getElem_cons_succ]
        omega
    · have e : below (a :: l) t = 0 := by
        unfold below
        rw [List.length_eq_zero_iff, List.filter_eq_nil_iff]
        intro x hx
        rcases List.mem_cons.1 hx with rfl | hx
        · simpa using c
        · have := h1 x hx
          simp
          omega
      rw [e]
      have hle : ¬ (a :: l)[i] < t := by
        cases i with
        | zero => simpa using c
        | succ i =>
          have := h1 _ (List.getElem_mem (by simpa using hi : i < l.length))
          simp only [List.getElem_cons_succ]
          omega
      omega
theorem less_is (a b : Int) : cmp_Less_uint64.f a b = some (decide (a < b)) := by
  unfold cmp_Less_uint64.f cmp_isNaN_uint64.f
  simp
theorem search_is {l : List Int} (h : l.Pairwise (· < ·)) (t : Int) (hl : l.length ≤ 1000000) : ∀ (d i j k : Nat), j - i ≤ d → d < k → i ≤ below l t → below l t ≤ j → j ≤ l.length → ∃ b, slices_BinarySearch_uint64_uint64.l0 k l t (l.length : Int) (i : Int) (j : Int) = some ((below l t : Int), b) := by
  intro d
  induction d with
  | zero =>
    intro i j k hd hk h1 h2 h3
    obtain ⟨k', rfl⟩ : ∃ k', k = k' + 1 := ⟨k - 1, by omega⟩
    have hi : i = below l t := by omega
    rw [slices_BinarySearch_uint64_uint64.l0, if_neg (by omega), hi]
    by_cases c1 : (below l t : Int) < (l.length : Int)
    · rw [if_pos c1, if_pos (by omega), if_pos c1]
      by_cases c2 : rd l (below l t : Int) = t
      · rw [if_pos c2]; exact ⟨_, rfl⟩
      · rw [if_neg c2]
        unfold slices_isNaN_uint64.f
        simp
    · rw [if_neg c1]; exact ⟨_, rfl⟩
  | succ d ih =>
    intro i j k hd hk h1 h2 h3
    obtain ⟨k', rfl⟩ : ∃ k', k = k' + 1 := ⟨k - 1, by omega⟩
    by_cases c : i < j
    · have em : wrap64 ((IntKind.u64.wrap (wrap64 ((i : Int) + (j : Int)))) / 2) = (((i + j) / 2 : Nat) : Int) := by
        rw [show wrap64 ((i : Int) + (j : Int)) = (i : Int) + (j : Int) by unfold wrap64; omega, show IntKind.u64.wrap ((i : Int) + (j : Int)) = (i : Int) + (j : Int) by simp [IntKind.wrap, IntKind.bits, IntKind.signed]; omega]
        unfold wrap64
        omega
      have hm : (i + j) / 2 < l.length := by omega
      have erd : rd l (((i + j) / 2 : Nat) : Int) = l[(i + j) / 2] := by
        unfold rd
        rw [Int.toNat_natCast, List.getD_eq_getElem?_getD, List.getElem?_eq_getElem hm]
        rfl
      rw [slices_BinarySearch_uint64_uint64.l0, if_pos (by omega), em, if_pos (by omega), if_pos (by omega), erd, less_is, Option.bind_some]
      have hb := below_at h t _ hm
      by_cases c2 : l[(i + j) / 2] < t
      · rw [if_pos (by simpa using c2), show wrap64 ((((i + j) / 2 : Nat) : Int) + 1) = (((i + j) / 2 + 1 : Nat) : Int) by unfold wrap64; omega]
        have := hb.1 c2
        exact ih _ _ _ (by omega) (by omega) (by omega) h2 h3
      · rw [if_neg (by simpa using c2)]
        have := fun q => c2 (hb.2 q)
        exact ih _ _ _ (by omega) (by omega) h1 (by omega) (by omega)
    · exact ih i j (k' + 1) (by omega) (by omega) h1 h2 h3
theorem list_cut (ids : List Int) (at_ : Nat) (hbl : at_ ≤ ids.length) (q : Int) (h0 : 0 ≤ q) (h1 : q ≤ (ids.drop at_).length) (A : Option Addr) (c : Nat) (hc : ids.length ≤ c) :
    ∃ (A1 : Option Addr) (c1 : Nat), (∀ W : World, (Instr.slice 39 (.slice A ids.length c) (some (.int .i64 (at_ : Int))) none none).run Try.prog W = .ok (.slice A1 (ids.drop at_).length c1) W) ∧
      (∀ W : World, (Instr.slice 39 (.slice A1 (ids.drop at_).length c1) none (some (.int .i64 q)) none).run Try.prog W = .ok (.slice A1 ((ids.drop at_).take q.toNat).length c1) W) ∧
      ((ids.drop at_).take q.toNat).length ≤ c1 ∧ ∀ W, (Kd.int .u64).C W A ids.length ids → (Kd.int .u64).C W A1 ((ids.drop at_).take q.toNat).length ((ids.drop at_).take q.toNat) := by
  obtain ⟨i0, hi, _, hsz, _⟩ := info_parts info24
  have hyl : (ids.drop at_).length = ids.length - at_ := List.length_drop
  obtain ⟨A1, hcut, hA1⟩ := print_cut_of (P := Try.prog) (Value.int .u64) (0 : Int) 39 24 .i64 Try.underlying39 hi hsz A ids.length c at_ hbl
  obtain ⟨htk, hT, hTl⟩ := print_take_of (P := Try.prog) (Value.int .u64) (0 : Int) 39 24 .i64 Try.underlying39 hi hsz A1 (c - at_) (ids.drop at_) q h0 h1 (by omega)
  refine ⟨A1, c - at_, fun W => by rw [hyl]; exact hcut W, htk, hTl, fun W hC => Kd.C_of_reads (h1 := fun _ => rfl) (hT W ?_)⟩
  have := hA1 W ids hc (Kd.reads_of_C hC)
  rw [← hyl] at this
  exact this
def LG.listS (L : LG) (from_ n : Int) : List Int := ((L.posts.map LP.id).drop (below (L.posts.map LP.id) from_)).take n.toNat
set_option maxHeartbeats 4000000 in
set_option maxRecDepth 100000 in
/-- List (14) -/
theorem List_calls {w : World} {B g b m : Nat} {v : Value} {L : LG} (h : Led w B g b m v L) (hm : m ≤ 1000000) (f n : Int) (hn : (Lit.int .i64 n).wf = true) :
    Calls Try.prog 14 #[.pointer (some ⟨g, 0, none⟩), .int .u64 f, .int .i64 n] w fun e w' => ∃ u, e = .returned u ∧ Kd.V (Kd.int .u64) 24 w' 0 (fun k => w.heap.size ≤ k ∧ k < w'.heap.size) u (L.listS f n) ∧ Below w.heap.size w w' := by
  have HI := Aside0.mk (ids_calls h hm)
  have HR := h.ok.rise.ids
  have hpl : L.posts.length ≤ 1000000 := Nat.le_trans h.len hm
  have hlen : (L.posts.map LP.id).length = L.posts.length := by simp
  obtain ⟨bb, hs⟩ := search_is HR f (by rw [hlen]; exact hpl) (L.posts.map LP.id).length 0 (L.posts.map LP.id).length ((L.posts.map LP.id).length + 1) (by omega) (by omega) (Nat.zero_le _) (below_le _ _) (Nat.le_refl _)
  have HS : Aside0 (slices_BinarySearch_uint64_uint64.f ((L.posts.map LP.id).length + 1) (L.posts.map LP.id) f = some ((below (L.posts.map LP.id) f : Int), bb)) := ⟨hs⟩
  have hbl := below_le (L.posts.map LP.id) f
  clear h hs HR
  by_cases c1 : n < 1
  · have c1b : decide (n < 1) = true := decide_eq_true c1
    have e0 : L.listS f n = [] := by unfold LG.listS; rw [show n.toNat = 0 by omega]; simp
    rw [e0]
    clear c1 hpl hlen hbl
    go_enter Try.func14, Try.ntmps14
    go_wp2
    go_ret
    exact ⟨_, rfl, Kd.V_nil _ _ _ _ _, Below.refl _ _⟩
  · have c1b : decide (n < 1) = false := decide_eq_false c1
    obtain ⟨ids, hids⟩ : ∃ ids, L.posts.map LP.id = ids := ⟨_, rfl⟩
    have hls : L.listS f n = (ids.drop (below ids f)).take n.toNat := by unfold LG.listS; rw [hids]
    rw [hls]
    rw [hids] at HI HS hbl hlen
    obtain ⟨at_, hat⟩ : ∃ at_, below ids f = at_ := ⟨_, rfl⟩
    rw [hat] at HS hbl ⊢
    clear hls hids hat
    obtain ⟨q, hq⟩ : ∃ q : Int, (if ((ids.drop at_).length : Int) < n then ((ids.drop at_).length : Int) else n) = q := ⟨_, rfl⟩
    have hq0 : 0 ≤ q ∧ q ≤ (ids.drop at_).length ∧ (ids.drop at_).take q.toNat = (ids.drop at_).take n.toNat := by
      split at hq
      · subst hq
        refine ⟨by omega, Int.le_refl _, ?_⟩
        rw [List.take_of_length_le (by omega), List.take_of_length_le (by omega)]
      · subst hq
        exact ⟨by omega, by omega, rfl⟩
    have HLC := Aside0.mk (list_cut ids at_ hbl q hq0.1 hq0.2.1)
    have e3 := hq0.2.2
    rw [← e3]
    obtain ⟨ys, hys⟩ : ∃ ys, ids.drop at_ = ys := ⟨_, rfl⟩
    rw [hys] at HLC hq ⊢
    obtain ⟨zs, hzs⟩ : ∃ zs, ys.take q.toNat = zs := ⟨_, rfl⟩
    rw [hzs] at HLC ⊢
    clear hq0 e3 hys hzs hbl c1 hpl hlen
    go_enter Try.func14, Try.ntmps14
    go_wp2_with (first
      | (go_at_call 24; refine HI.out.mono ?_; rintro e wI ⟨uI, rfl, hR, hbI⟩; obtain ⟨AI, cI, eI⟩ := Kd.R_slice hR; subst eI; have HRI := Aside0.mk hR; have HBI := Aside0.mk hbI; have HCI := Aside0.mk (Kd.R_reads' hR).2; clear hR hbI)
      | (go_at_call 28; (with_reducible refine (slices_BinarySearch_uint64_uint64.calls _ AI cI ids f _ _ _ ?s1 ?s2 HS.out).mono ?_); (case s1 => exact HCI.out.2); (case s2 => exact HCI.out.1); rintro e w2 ⟨rfl, hd⟩; have HD := Aside0.mk (drawn0_below hd); (obtain ⟨A1, c1, hcut, htk, hlz, hCz⟩ := HLC.out AI cI HCI.out.1); have HZ := Aside0.mk hlz; have HCZ := Aside0.mk hCz; clear hd hlz hCz))
    go_ret
    refine ⟨_, rfl, ⟨A1, c1, rfl, HZ.out, fun W' hW => HCZ.out W' ?_⟩, HBI.out.trans (HD.out.mono HBI.out.size)⟩
    have hR2 := Kd.R_below HRI.out HD.out
    exact (Kd.R_reads' (Kd.R_step (Kd.R_bound hR2) (fun k hk hlt => hW k ⟨hk.2.1, hlt⟩ hlt))).2.2
end Go.Proofs.Ytjfkenjmjoncbaa.Lg
