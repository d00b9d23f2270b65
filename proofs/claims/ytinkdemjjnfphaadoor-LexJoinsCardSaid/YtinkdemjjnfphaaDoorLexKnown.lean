/- known of the laws; the same tokens. (fast) -/
import Derived.Test.YtinkdemjjnfphaaDoorLexRead
import Derived.Test.YtinkdemjjnfphaaDoorSepSl
namespace Go.Proofs.YtinkdemjjnfphaaDoor
open Go.RowKit
set_option linter.unusedVariables false
set_option linter.unusedSimpArgs false
set_option maxRecDepth 100000

set_option maxHeartbeats 4000000 in
theorem sameTok_any (p q : Option Addr) (c d : Nat) (l : List TokD) (w : World) (h1 : Sl w p (l.flatMap TokD.cs)) (h2 : Sl w q (l.flatMap TokD.cs)) (hl : l.length ≤ 4611686018427387904) :
    Calls Tryd.prog 6 #[.slice p l.length c, .slice q l.length d] w fun e w' => e = .returned (.bool true) ∧ Below w.heap.size w w' := by
  have HM := Lib.hid (Mem.start w)
  have H1 := Lib.hid h1
  have H2 := Lib.hid h2
  clear h1 h2
  have b0 : ((l.length : Int) != l.length) = false := by simp
  go_enter Tryd.func6, Tryd.ntmps6
  go_wp2_with fail
  go_loopw [5] (fun iv wr => ∃ i : Nat, iv = .int .i64 i ∧ i ≤ l.length ∧ Hid (Mem w wr [])) (fun iv _ => l.length - (intOf iv).toNat)
  case atStart => exact ⟨0, rfl, by omega, HM⟩
  case round =>
    clear HM
    obtain ⟨i, rfl, hi, HM⟩ := hrel
    by_cases hlt : i < l.length
    · obtain ⟨b, rfl, hb⟩ := H1.out.some_at TokD.cs_len (by decide) hlt
      obtain ⟨b', rfl, hb'⟩ := H2.out.some_at TokD.cs_len (by decide) hlt
      obtain ⟨t, ht⟩ : ∃ t, l[i]? = some t := ⟨_, List.getElem?_eq_getElem hlt⟩
      obtain ⟨x0, x1, x2, x3, x4, x5, hx⟩ : ∃ (x0 : Int) (x1 : ByteArray) (x2 x3 : Nat) (x4 : Int) (x5 : Int), t.cs = [.int .i64 x0, .string x1, .bool false, .int .u64 x2, .int .u64 x3, .int .i64 t.sc, .int .i64 x4, .int .i64 x5] := ⟨_, _, _, _, _, _, rfl⟩
      obtain ⟨x6, hx6⟩ : ∃ x : Nat, t.sc = x := ⟨_, rfl⟩
      rw [hx6] at hx
      have E1 := Lib.hid (show Cells w (b.add (i * 8)) [.int .i64 x0, .string x1, .bool false, .int .u64 x2, .int .u64 x3, .int .i64 x6, .int .i64 x4, .int .i64 x5] from hx ▸ hb.elem TokD.cs 8 TokD.cs_len ht)
      have E2 := Lib.hid (show Cells w (b'.add (i * 8)) [.int .i64 x0, .string x1, .bool false, .int .u64 x2, .int .u64 x3, .int .i64 x6, .int .i64 x4, .int .i64 x5] from hx ▸ hb'.elem TokD.cs 8 TokD.cs_len ht)
      have hlt3 := Lib.hid (show i + 1 ≤ l.length from hlt)
      have d1 : decide ((i : Int) < l.length) = true := decide_eq_true (by omega)
      clear hb hb' ht hx hx6
      go_wp2_with fail
      refine wp_region_mem (by kernel_rfl) (by kernel_rfl) HM.out ?_; intro hNE; (repeat (any_goals (first | ((with_reducible refine qgd ?_); (with_reducible refine skip_q ?_ ?_ ?_); (exact rfl); (rotate_left; (exact (hNE.elim fun p => ⟨p.W, p, rfl⟩)))) | ((with_reducible refine qnilCheck ?_); (refine qnil rfl ?_)) | ((with_reducible refine qat 19 ?_); (refine qixa rfl rfl rfl hlt ?_)) | ((with_reducible refine qat 23 ?_); (refine qixa rfl rfl rfl hlt ?_)) | ((with_reducible refine qat 20 ?_); (refine qdA (vs := [.int .i64 x0, .string x1, .bool false, .int .u64 x2, .int .u64 x3, .int .i64 x6, .int .i64 x4, .int .i64 x5]) rfl rfl (fun W ⟨q, hq⟩ => hq ▸ q.mem.olds E1.out) ?_)) | ((with_reducible refine qat 24 ?_); (refine qdA (vs := [.int .i64 x0, .string x1, .bool false, .int .u64 x2, .int .u64 x3, .int .i64 x6, .int .i64 x4, .int .i64 x5]) rfl rfl (fun W ⟨q, hq⟩ => hq ▸ q.mem.olds E2.out) ?_)) | go_big_quiet_step (fail) | quiet_step (fail)))); clear hNE; refine wpQuiet_nil ?_; intro W1 HM1; replace HM := Lib.hid HM1; clear HM1
      go_wp2
      go_roundw
      case rel => exact ⟨i + 1, by go_num, hlt3.out, HM⟩
      case measure => have := hlt3.out; simp [intOf]; omega
    · obtain rfl : i = l.length := by omega
      have d1 : decide ((l.length : Int) < l.length) = false := by simp
      go_wp2
      go_ret
      exact ⟨rfl, HM.out.below⟩

def kA : TokD := ⟨4, ⟨#[97]⟩, 0, 0, 0, 0⟩
def kLe : TokD := ⟨6, ⟨#[60, 61]⟩, 0, 0, 0, 2⟩
def kOneT : TokD := ⟨1, ⟨#[]⟩, 1, 0, 0, 4⟩
theorem known_lex : lexF ⟨#[97, 32, 60, 61, 49]⟩ = ([kA, kLe, kOneT], 0) := by kernel_rfl

set_option maxHeartbeats 4000000 in
theorem known_any (w : World) (hT : U8 w) :
    Calls Tryd.prog 4 #[] w fun e w' => e = .returned (.bool true) ∧ Below w.heap.size w w' := by
  have HM := Lib.hid (Mem.start w)
  have H1 := Lib.hid (lexRead_any ⟨#[97, 32, 60, 61, 49]⟩ w hT)
  rw [known_lex] at H1
  have HX := Lib.hid (show ([kA, kLe, kOneT].flatMap TokD.cs) = [.int .i64 4, .string ⟨#[97]⟩, .bool false, .int .u64 0, .int .u64 0, .int .i64 0, .int .i64 0, .int .i64 0, .int .i64 6, .string ⟨#[60, 61]⟩, .bool false, .int .u64 0, .int .u64 0, .int .i64 0, .int .i64 0, .int .i64 2, .int .i64 1, .string ⟨#[]⟩, .bool false, .int .u64 0, .int .u64 1, .int .i64 0, .int .i64 0, .int .i64 4] by kernel_rfl)
  have HS := Lib.hid (fun (p q : Option Addr) (c d : Nat) W h1 h2 => sameTok_any p q c d [kA, kLe, kOneT] W h1 h2 (by decide))
  simp only [HX.out, show [kA, kLe, kOneT].length = 3 from rfl] at HS
  unfold LexPost at H1
  simp only [HX.out, show [kA, kLe, kOneT].length = 3 from rfl] at H1
  clear hT
  go_enter Tryd.func4, Tryd.ntmps4
  go_wp2_with (first | (go_at_call 5; (with_reducible refine H1.out.mono ?_); rintro e W2 ⟨p, oc, rfl, hM2⟩; have HM1 := Lib.hid hM2; clear HM hM2; (try clear W1); rename World => W1; have HM := HM1; clear HM1) | (refine bs3 rfl HM.out rfl rfl rfl rfl rfl rfl rfl ?_; intro g1 W1 HM1; replace HM := Lib.hid HM1; clear HM1) | (go_at_call 6; (with_reducible refine (HS.out _ _ _ _ _ (row_sl (HM.out.get (k := 1) rfl)) (row_sl (box_row (n := 3) (k := 8) (HM.out.get (k := 0) rfl) rfl (by decide)))).mono ?_); rintro e W1 ⟨rfl, hb⟩; replace HM := Lib.hid (HM.out.next hb); clear hb))
  go_ret
  exact ⟨rfl, HM.out.below⟩
end Go.Proofs.YtinkdemjjnfphaaDoor
