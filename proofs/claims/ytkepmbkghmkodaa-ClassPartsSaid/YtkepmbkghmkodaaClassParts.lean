/- ClassParts: each byte is of one kind; a name grows by letters and digits. No condition. -/
import Derived.Test.YtkepmbkghmkodaaRows
import Derived.Test.YtkepmbkghmkodaaClassAlive
import Derived.Test.YtkepmbkghmkodaaOpen
import Derived.ProofKit
import Derived.OpenShut
import Derived.ShutString
import Derived.ChangeOld
import Derived.SizedLaws
import Derived.Laws.IdiomStrings
namespace Go.Proofs.Ytkepmbkghmkodaa
open Go.RowKit Go.Proofs.YtkepmbkghmkodaaW.PrintWords Go.Proofs.YtkepmbkghmkodaaW.PrintLast Go.Proofs.Ytkepmbkghmkodaa.Base Go.Proofs.Ytkepmbkghmkodaa.Class
set_option linter.unusedVariables false
set_option linter.unusedSimpArgs false
def quoteB (c : Int) : Bool := c == 34 || c == 36 || c == 39 || c == 92 || c == 96
def cnt (p : Nat → Bool) : Nat → Nat
  | 0 => 0
  | k + 1 => cnt p k + (p k).toNat
def four (a b c d : Bool) : Nat → Bool := fun k => [a, b, c, d].getD k false
theorem cnt_le (p : Nat → Bool) (k : Nat) : cnt p k ≤ k := by
  induction k with
  | zero => exact Nat.le_refl 0
  | succ k ih => have : (p k).toNat ≤ 1 := Bool.toNat_le _; show cnt p k + (p k).toNat ≤ k + 1; omega
theorem kinds {c : Int} (h0 : 0 ≤ c) (h1 : c ≤ 255) : cnt (four (breakB c) (signB c) (bareB c) (quoteB c)) 4 = 1 :=
  all_bytes (p := fun c => cnt (four (breakB c) (signB c) (bareB c) (quoteB c)) 4 = 1) (by decide +kernel) h0 h1
theorem cells_four (a b c d : Bool) (t : Nat) (w : World) : ∀ k, k < 4 → (w.alloc (.cells #[.bool a, .bool b, .bool c, .bool d] t)).cell? ⟨w.heap.size, 0 + k, none⟩ = some (.bool (four a b c d k)) := by
  have hg := blk_new w (.cells #[.bool a, .bool b, .bool c, .bool d] t)
  intro k hk
  have hk' : k = 0 ∨ k = 1 ∨ k = 2 ∨ k = 3 := by omega
  rcases hk' with rfl | rfl | rfl | rfl <;> (rw [blk_cell hg]; rfl)
theorem blank_break {c : Int} (h : blankB c = true) : breakB c = true := by unfold breakB; rw [h]; rfl
theorem name_param {s : ByteArray} (h : nameB s = true) : paramB s = true := by unfold paramB; rw [h]; simp
theorem byte_of {c : Int} (h0 : 0 ≤ c) (h1 : c ≤ 255) : ∃ b : UInt8, c = (b.toNat : Int) := by
  refine ⟨UInt8.ofNat c.toNat, ?_⟩
  simp [UInt8.toNat_ofNat']
  omega
theorem nameL_app : ∀ (l : List Int) (c : Int), nameL l = true → nameL (l ++ [c]) = (letterB c || digitB c)
  | [], _, h => by cases h
  | x :: r, c, h => by
    unfold nameL at h
    simp only [Bool.and_eq_true] at h
    show (letterB x && (r ++ [c]).all fun c => letterB c || digitB c) = _
    rw [List.all_append, h.1, h.2]
    simp
theorem name_grows {s : ByteArray} (b : UInt8) (h : nameB s = true) : nameB (s ++ ⟨#[b]⟩) = (letterB (b.toNat : Int) || digitB (b.toNat : Int)) := by
  unfold nameB at *
  have : bytesOf (s ++ ⟨#[b]⟩) = bytesOf s ++ [(b.toNat : Int)] := by simp [bytesOf]
  rw [this]
  exact nameL_app _ _ h
theorem conv_one (w : World) (b : UInt8) : (convert 45 9 (.slice (some ⟨w.heap.size, 0, none⟩) 1 1)).run Try.prog (w.alloc (.cells #[.int .u8 (b.toNat : Int)] 5)) = .ok (.string ⟨#[b]⟩) (w.alloc (.cells #[.int .u8 (b.toNat : Int)] 5)) :=
  run_convert_bytes_back (P := Try.prog) _ _ _ 5 ⟨w.heap.size, 0, none⟩ 1 [b] Try.underlying45 Try.underlying5 Try.underlying9 (by
    intro j hj
    have hg := blk_new w (.cells #[.int .u8 (b.toNat : Int)] 5)
    obtain rfl : j = 0 := by simp at hj; omega
    show (w.alloc _).cell? ⟨w.heap.size, 0 + 0, none⟩ = _
    rw [blk_cell hg]
    rfl)
set_option maxHeartbeats 20000000 in
set_option maxRecDepth 100000 in
theorem classParts_any (s : ByteArray) (c : Int) (w : World) (hs : s.size ≤ 140737488355328) (h0 : 0 ≤ c) (h1 : c ≤ 255) :
    Calls Try.prog 12 #[.string s, .int .u8 c] w fun e w' => e = .returned (.bool true) ∧ Below w.heap.size w w' := by
  go_enter Try.func12, Try.ntmps12
  go_wp2_with fail
  refine (Class.alive_any _).mono ?_
  rintro e w1 ⟨rfl, hB⟩
  have HB := Aside0.mk hB
  clear hB
  by_cases hlen : 2000 < s.size
  · have hd : decide ((2000 : Int) < (s.size : Int)) = true := by simp; omega
    go_wp2
    go_ret
    exact ⟨rfl, HB.out⟩
  have hd : decide ((2000 : Int) < (s.size : Int)) = false := by simp; omega
  obtain ⟨X, HX, HQ⟩ : ∃ X : Bool, Aside0 (X = quoteB c) ∧ (((c == 34) = true ∧ X = true) ∨ ((c == 34) = false ∧ (c == 36) = true ∧ X = true) ∨ ((c == 34) = false ∧ (c == 36) = false ∧ (c == 39) = true ∧ X = true) ∨ ((c == 34) = false ∧ (c == 36) = false ∧ (c == 39) = false ∧ (c == 92) = true ∧ X = true) ∨ ((c == 34) = false ∧ (c == 36) = false ∧ (c == 39) = false ∧ (c == 92) = false ∧ (c == 96) = X)) := by
    refine ⟨quoteB c, ⟨rfl⟩, ?_⟩
    unfold quoteB
    cases c == 34 <;> cases c == 36 <;> cases c == 39 <;> cases c == 92 <;> cases c == 96 <;> simp
  have HK := Aside0.mk (kinds h0 h1)
  rw [← HX.out] at HK
  have hcells := cells_four (breakB c) (signB c) (bareB c) X 4 w1
  have HA := Aside0.mk (below_alloc (Below.refl w1.heap.size w1) (.cells #[.bool (breakB c), .bool (signB c), .bool (bareB c), .bool X] 4))
  generalize hp : four (breakB c) (signB c) (bareB c) X = p at *
  have HC := Aside0.mk hcells
  clear hcells hp HX
  rcases HQ with ⟨q1, rfl⟩ | ⟨q1, q2, rfl⟩ | ⟨q1, q2, q3, rfl⟩ | ⟨q1, q2, q3, q4, rfl⟩ | ⟨q1, q2, q3, q4, rfl⟩
  all_goals
    go_wp2_with (first
    | (go_at_call 18; refine (break_any _ _).mono ?_; rintro e w' ⟨rfl, rfl⟩)
    | (go_at_call 55; refine (sign_any _ _ h0 h1).mono ?_; rintro e w' ⟨rfl, rfl⟩)
    | (go_at_call 57; refine (bare_any _ _ h0 h1).mono ?_; rintro e w' ⟨rfl, rfl⟩))

    go_loop [39, 5] (fun v39 v5 => ∃ k : Nat, k ≤ 4 ∧ v39 = .int .i64 k ∧ v5 = .int .i64 (cnt p k)) (fun v39 _ => 4 - (intOf v39).toNat)
    case atStart => exact ⟨0, by omega, rfl, rfl⟩
    case round =>
      obtain ⟨k, hk, rfl, rfl⟩ := hrel
      by_cases hlt : k < 4
      · have h0' := HC.out k hlt
        rw [Nat.zero_add] at h0'
        have hcl := cnt_le p k
        have hi0 : (0 : Int) ≤ (k : Int) := by omega
        have hi1 : (k : Int) < 4 := by omega
        have hn : cnt p (k + 1) = cnt p k + (p k).toNat := rfl
        have HN := Aside0.mk hn
        clear hn
        generalize cnt p k = m at *
        generalize p k = b at *
        cases b with
        | true =>
          have hm : m + 1 < 9223372036854775808 := by omega
          go_wp2
          go_round
          case measure => simp [intOf]; omega
          case rel =>
            refine ⟨k + 1, by omega, by go_num, ?_⟩
            have := HN.out
            rw [this]
            go_num
        | false =>
          go_wp2
          go_round
          case measure => simp [intOf]; omega
          case rel =>
            refine ⟨k + 1, by omega, by go_num, ?_⟩
            have := HN.out
            rw [this]
            rfl
      · obtain rfl : k = 4 := by omega
        rw [HK.out]
        clear hlt
        by_cases hnm : nameB s = true
        · have hpm := name_param hnm
          obtain ⟨b, hb⟩ := byte_of h0 h1
          have hgr := name_grows b hnm
          rw [← hb] at hgr
          have kc : ∀ x1 x2 x3 x4 : Bool, (convert 45 9 (.slice (some ⟨w1.heap.size + 1, 0, none⟩) 1 1)).run Try.prog ((w1.alloc (.cells #[.bool x1, .bool x2, .bool x3, .bool x4] 4)).alloc (.cells #[.int .u8 c] 5)) = .ok (.string ⟨#[b]⟩) ((w1.alloc (.cells #[.bool x1, .bool x2, .bool x3, .bool x4] 4)).alloc (.cells #[.int .u8 c] 5)) := fun x1 x2 x3 x4 => by
            rw [hb]
            have := conv_one (w1.alloc (.cells #[.bool x1, .bool x2, .bool x3, .bool x4] 4)) b
            rwa [show (w1.alloc (.cells #[.bool x1, .bool x2, .bool x3, .bool x4] 4)).heap.size = w1.heap.size + 1 from Array.size_push _] at this
          have hone : (⟨#[b]⟩ : ByteArray).size = 1 := rfl
          have hs2 : (s ++ ⟨#[b]⟩).size ≤ 140737488355328 := by rw [ByteArray.size_append, hone]; omega
          clear hone hb
          have HG := Aside0.mk hgr
          clear hgr
          have HS2 := Aside0.mk hs2
          clear hs2
          have hsz : (s.size : Int) + 1 < 9223372036854775808 := by omega
          cases hL : letterB c <;> cases hD : digitB c <;> cases hbl : blankB c <;> rw [hL, hD] at HG <;> simp only [Bool.or_true, Bool.or_false] at HG
          all_goals
            go_wp2_with (first
              | (go_at_call 63; refine (name_any _ _ (by first | exact hs | exact HS2.out)).mono ?_; rintro e w' ⟨rfl, rfl⟩; try rw [HG.out])
              | (go_at_call 59; refine (letter_any _ _).mono ?_; rintro e w' ⟨rfl, rfl⟩)
              | (go_at_call 61; refine (digit_any _ _).mono ?_; rintro e w' ⟨rfl, rfl⟩)
              | (go_at_call 64; refine (param_any _ _ hs).mono ?_; rintro e w2 ⟨rfl, hB⟩; have HP := Aside0.mk hB; clear hB)
              | (go_at_call 18; refine (break_any _ _).mono ?_; rintro e w' ⟨rfl, rfl⟩)
              | (go_at_call 52; refine (blank_any _ _).mono ?_; rintro e w' ⟨rfl, rfl⟩))
            go_ret
            refine ⟨ret_b ?_, below_trans HB.out (below_sub (below_trans HA.out (below_sub (below_trans (below_alloc (Below.refl _ _) _) (below_sub HP.out ?_)) HA.out.size)) HB.out.size)⟩
            · first | rfl | exact blank_break hbl
            · first | exact (below_alloc (Below.refl _ _) _).size | simp [World.alloc]
        · replace hnm := Bool.eq_false_iff.mpr hnm
          go_wp2_with (first
            | (go_at_call 63; refine (name_any _ _ hs).mono ?_; rintro e w' ⟨rfl, rfl⟩)
            | (go_at_call 18; refine (break_any _ _).mono ?_; rintro e w' ⟨rfl, rfl⟩)
            | (go_at_call 52; refine (blank_any _ _).mono ?_; rintro e w' ⟨rfl, rfl⟩))
          all_goals
            go_ret
            refine ⟨ret_b ?_, below_trans HB.out (below_sub HA.out HB.out.size)⟩
            first | rfl | (apply blank_break; assumption)
namespace RowClassParts
open Go.ChangeShapes Go.WideShapes Go.ChangeAt Go.RowKit
open Go.ChangeMaps (open_string shut_string)
theorem own : ownKnob Try.prog.godebug = none := by kernel_rfl
theorem laidOut : laidOutB Try.prog = true := by kernel_rfl
set_option maxRecDepth 100000 in
theorem lifted (os : Os) (started : os.Started) (H : Type) (enc : TypeId × Value → H) :
    ReturnsInHanded {} Try.checked os 12 .any (Rows.classPartsSpec.pre6 enc Try.prog Try.f12 Rows.classPartsRow.domain false) (Rows.classPartsSpec.post enc Try.prog Try.f12 false true false false) := by
  refine returnsInHanded_of_change_sized (C := Try.checked) own started (by kernel_rfl) Try.func12
    (ChangeSpec.witness6 (enc := enc) (C := Try.checked) false ⟨#[], #[.string ByteArray.empty, .int .u8 0], []⟩ 8 (by kernel_rfl) (by kernel_rfl) (by kernel_rfl) (by kernel_rfl)) ?_
  intro W base args ds gs before hval0 hW hcnd hsz0 _
  have hsz : (DataW.weightsEach Try.prog (Try.f12.params.toList ++ Rows.classPartsSpec.plain.varTypes Try.prog) (ds ++ gs)).all (· ≤ reachBytes) = true := hsz0
  have hval : ∀ (j : Nat) t v, Try.f12.params[j]? = some t → args[j]? = some v → Value.okWide Try.prog W .any base t v := hval0
  have hW' := hW
  obtain ⟨p, q, hA0, hV, rfl, hfz, hnd⟩ := hW
  have hA : DataW.TrodAll enc Try.prog W 0 (fun _ => true) true Try.f12.params.toList args.toList ds p := hA0
  rw [Try.params12] at hA hval hsz
  obtain ⟨v0, vs0, d0, ds0, p0, q0, hargs, rfl, rfl, h0, r0⟩ := trodAll_cons hA
  obtain ⟨v1, vs1, d1, ds1, p1, q1, rfl, rfl, rfl, h1, r1⟩ := trodAll_cons r0
  obtain ⟨rfl, rfl, rfl⟩ := trodAll_nil r1
  obtain rfl : args = #[v0, v1] := by cases args; simp_all
  obtain ⟨rfl, rfl⟩ := trodVars_none hV
  obtain ⟨s0, rfl, rfl, rfl, y0⟩ := open_string Try.underlying9 (hval 0 9 v0 rfl rfl) h0
  have V0 : s0.size ≤ reachBytes := by
    have z := sized_string hsz (j := 0) (t := 9) rfl rfl
    rw [Array.length_toList] at z
    exact z
  obtain ⟨x1, rfl, rfl, rfl, V1⟩ := open_int Try.underlying5 (hval 1 5 v1 rfl rfl) h1
  clear hA0 hval0 hsz0 hsz
  refine (classParts_any s0 x1 W (Nat.le_trans V0 (by decide)) (Class.u8_range V1).1 (Class.u8_range V1).2).mono fun e W' ⟨he, bel⟩ => ?_
  subst he
  exact ⟨_, rfl, _, _, _, [], _, [], hW', trodAll_mk1 (shut_bool Try.underlying4 _), (trodAll_cons_mk (shut_string Try.underlying9 y0) (trodAll_cons_mk (shut_int Try.underlying5 V1) trodAll_mk0)), rfl, bel.frame _, fun h => by cases h⟩
theorem proved : Rows.ClassPartsSaid :=
  OpenClaim.holds_of_wide 12 Try.f12 rfl rfl rfl rfl rfl rfl rfl ⟨rfl, rfl, rfl, rfl, rfl⟩ rfl rfl rfl rfl rfl (by kernel_rfl) Try.func12 (by kernel_rfl)
    (of_decide_eq_true (by kernel_rfl)) (by unfold Func.isWrapper; first | (rw [if_pos (by decide +kernel)]; kernel_rfl) | (rw [if_neg (by decide +kernel)]; exact ⟨rfl, rfl⟩))
    (fun os started H enc _ => lifted os started H enc)
end RowClassParts
theorem classParts_holds : Rows.ClassPartsSaid := RowClassParts.proved
#print axioms classParts_holds
end Go.Proofs.Ytkepmbkghmkodaa
