/- Function of check, at each of its names. Printed by wip/tools/gen_fn2.py. Function of check, at every name. Printed by wip/tools/gen_fn.py -two. call of check. items of check. -/
import Derived.Test.YtheimopjglkgjaaGreatDoorChkA
import Derived.Test.YtheimopjglkgjaaGreatDoorSepA
namespace Go.Proofs.YtheimopjglkgjaaGreatDoor
open Go.RowKit
set_option linter.unusedVariables false
set_option linter.unusedSimpArgs false
set_option maxRecDepth 100000

set_option maxHeartbeats 40000000 in
theorem fn_A (w:World):Calls Tryz.prog 148 #[.string ⟨#[97,98,115]⟩] w (FnPost (some ([⟨2,0⟩],⟨2,0⟩)) w)∧
  Calls Tryz.prog 148 #[.string ⟨#[102,108,111,111,114]⟩] w (FnPost (some ([⟨2,0⟩],⟨2,0⟩)) w)∧
  Calls Tryz.prog 148 #[.string ⟨#[99,101,105,108,105,110,103]⟩] w (FnPost (some ([⟨2,0⟩],⟨2,0⟩)) w)∧
  Calls Tryz.prog 148 #[.string ⟨#[108,101,110,103,116,104]⟩] w (FnPost (some ([⟨3,0⟩],⟨2,0⟩)) w)∧
  Calls Tryz.prog 148 #[.string ⟨#[117,112,112,101,114]⟩] w (FnPost (some ([⟨3,0⟩],⟨3,0⟩)) w)∧
  Calls Tryz.prog 148 #[.string ⟨#[108,111,119,101,114]⟩] w (FnPost (some ([⟨3,0⟩],⟨3,0⟩)) w)∧
  Calls Tryz.prog 148 #[.string ⟨#[100,97,116,101]⟩] w (FnPost (some ([⟨3,0⟩],⟨4,0⟩)) w)∧
  Calls Tryz.prog 148 #[.string ⟨#[121,101,97,114]⟩] w (FnPost (some ([⟨4,0⟩],⟨2,0⟩)) w)∧
  Calls Tryz.prog 148 #[.string ⟨#[109,111,110,116,104]⟩] w (FnPost (some ([⟨4,0⟩],⟨2,0⟩)) w)∧
  Calls Tryz.prog 148 #[.string ⟨#[100,97,121]⟩] w (FnPost (some ([⟨4,0⟩],⟨2,0⟩)) w)∧
  Calls Tryz.prog 148 #[.string ⟨#[119,101,101,107,100,97,121]⟩] w (FnPost (some ([⟨4,0⟩],⟨2,0⟩)) w)∧
  Calls Tryz.prog 148 #[.string ⟨#[110,101,103,97,116,101]⟩] w (FnPost (some ([⟨1,0⟩],⟨1,0⟩)) w):=by
 refine ⟨?_,?_,?_,?_,?_,?_,?_,?_,?_,?_,?_,?_⟩
 all_goals
  have HM:=Lib.hid (Mem.start w)
  go_enter Tryz.func148,Tryz.ntmps148
  go_wp2_with (first|(go_at_call 87;(with_reducible refine cB HM (cof_any _ _) ?_);clear HM;intro W1 HM)|(go_at_call 149;(with_reducible refine cB HM (clist_any _ _) ?_);clear HM;intro W1 HM)|(refine bs3T rfl HM.out rfl rfl rfl ?_;intro g1 W1 HM1;replace HM:=Lib.hid HM1;clear HM1)|(refine bs2T rfl HM.out rfl rfl ?_;intro g1 W1 HM1;replace HM:=Lib.hid HM1;clear HM1)|refine mP ?_|(refine mS ?_;clear HM;intro W1 HM)|(refine hbs1A HM rfl rfl rfl rfl ?_;clear HM;intro g1 W1 HM)|(refine hal HM rfl ?_;clear HM;intro g1 W1 HM))
  refine wp_region_steps2 [(true,0),(true,2),(false,1),(true,3),(false,4)] (by kernel_rfl) (by kernel_rfl) rfl (by kernel_rfl) (fun _ _ _ _ _ h=>h) HM.out _ (.cons _ (.cons_cons _ (.cons_cons _ (.cons_cons _ (.cons_cons _ (.cons_cons _ .slnil)))))) ?_
  intro hNE W1 HM1;replace HM:=Lib.hid HM1;clear HM1
  have HS0:=Lib.hid (HM.out.sub (.cons _ (.cons_cons _ (.cons_cons _ (.cons_cons _ (.cons_cons _ (.cons_cons _ .slnil)))))))
  simp only [wpSteps,List.getElem?_cons_succ,List.getElem?_cons_zero]
  (repeat (first|((with_reducible refine wpQuiet_nil ?_);(try dsimp only))|refine mQ ?_|go_big_quiet_step (fail)|quiet_step (fail)))
  go_wp2_with (first|(refine bs3T rfl HM.out rfl rfl rfl ?_;intro g1 W1 HM1;replace HM:=Lib.hid HM1;clear HM1)|(refine bs2T rfl HM.out rfl rfl ?_;intro g1 W1 HM1;replace HM:=Lib.hid HM1;clear HM1)|(refine hbs1A HM rfl rfl rfl rfl ?_;clear HM;intro g1 W1 HM))
  refine ⟨⟨⟨_,HM.out.sub msub⟩,rfl⟩,?_⟩
  (try dsimp only)
  (repeat (first|((with_reducible refine wpQuiet_nil ?_);(try dsimp only))|go_big_quiet_step (fail)|quiet_step (fail)))
  go_wp2_with (first|(refine mS ?_;clear HM;intro W1 HM))
  refine ⟨⟨⟨_,HM.out.sub msub⟩,rfl⟩,?_⟩
  (try dsimp only)
  clear HS0 hNE
  go_wp2_with fail
  refine wp_region_steps2 [(true,0),(true,1),(true,2),(false,3),(true,4)] (by kernel_rfl) (by kernel_rfl) rfl (by kernel_rfl) (fun _ _ _ _ _ h=>h) HM.out _ (.cons_cons _ (.cons_cons _ (List.nil_sublist _))) ?_
  intro hNE W1 HM1;replace HM:=Lib.hid HM1;clear HM1
  have HS0:=Lib.hid (HM.out.sub (.cons_cons _ (.cons_cons _ (List.nil_sublist _))))
  simp only [wpSteps,List.getElem?_cons_succ,List.getElem?_cons_zero]
  (repeat (first|((with_reducible refine wpQuiet_nil ?_);(try dsimp only))|refine mQ ?_|go_big_quiet_step (fail)|quiet_step (fail)))
  go_wp2_with (first|(refine mS ?_;clear HM;intro W1 HM))
  refine ⟨⟨⟨_,HM.out.sub msub⟩,rfl⟩,?_⟩
  (try dsimp only)
  (repeat (first|((with_reducible refine wpQuiet_nil ?_);(try dsimp only))|go_big_quiet_step (fail)|quiet_step (fail)))
  clear HS0 hNE
  go_wp2_with fail
  exact bodyPost_ret (res_tmp_box_tmp rfl HM.out 6 rfl rfl rfl rfl rfl) rfl ⟨_,rfl,(HM.out.turn0 (k:=0) rfl (box_row (HM.out.get (k:=0) rfl) rfl (by decide)) (fun g e=>e)).sub (.cons_cons _ (List.nil_sublist _))⟩

theorem fn_abs (w:World):Calls Tryz.prog 148 #[.string ⟨#[97,98,115]⟩] w (FnPost (some ([⟨2,0⟩],⟨2,0⟩)) w):=(fn_A w).1
theorem fn_floor (w:World):Calls Tryz.prog 148 #[.string ⟨#[102,108,111,111,114]⟩] w (FnPost (some ([⟨2,0⟩],⟨2,0⟩)) w):=(fn_A w).2.1
theorem fn_ceiling (w:World):Calls Tryz.prog 148 #[.string ⟨#[99,101,105,108,105,110,103]⟩] w (FnPost (some ([⟨2,0⟩],⟨2,0⟩)) w):=(fn_A w).2.2.1
theorem fn_length (w:World):Calls Tryz.prog 148 #[.string ⟨#[108,101,110,103,116,104]⟩] w (FnPost (some ([⟨3,0⟩],⟨2,0⟩)) w):=(fn_A w).2.2.2.1
theorem fn_upper (w:World):Calls Tryz.prog 148 #[.string ⟨#[117,112,112,101,114]⟩] w (FnPost (some ([⟨3,0⟩],⟨3,0⟩)) w):=(fn_A w).2.2.2.2.1
theorem fn_lower (w:World):Calls Tryz.prog 148 #[.string ⟨#[108,111,119,101,114]⟩] w (FnPost (some ([⟨3,0⟩],⟨3,0⟩)) w):=(fn_A w).2.2.2.2.2.1
theorem fn_date (w:World):Calls Tryz.prog 148 #[.string ⟨#[100,97,116,101]⟩] w (FnPost (some ([⟨3,0⟩],⟨4,0⟩)) w):=(fn_A w).2.2.2.2.2.2.1
theorem fn_year (w:World):Calls Tryz.prog 148 #[.string ⟨#[121,101,97,114]⟩] w (FnPost (some ([⟨4,0⟩],⟨2,0⟩)) w):=(fn_A w).2.2.2.2.2.2.2.1
theorem fn_month (w:World):Calls Tryz.prog 148 #[.string ⟨#[109,111,110,116,104]⟩] w (FnPost (some ([⟨4,0⟩],⟨2,0⟩)) w):=(fn_A w).2.2.2.2.2.2.2.2.1
theorem fn_day (w:World):Calls Tryz.prog 148 #[.string ⟨#[100,97,121]⟩] w (FnPost (some ([⟨4,0⟩],⟨2,0⟩)) w):=(fn_A w).2.2.2.2.2.2.2.2.2.1
theorem fn_weekday (w:World):Calls Tryz.prog 148 #[.string ⟨#[119,101,101,107,100,97,121]⟩] w (FnPost (some ([⟨4,0⟩],⟨2,0⟩)) w):=(fn_A w).2.2.2.2.2.2.2.2.2.2.1
theorem fn_negate (w:World):Calls Tryz.prog 148 #[.string ⟨#[110,101,103,97,116,101]⟩] w (FnPost (some ([⟨1,0⟩],⟨1,0⟩)) w):=(fn_A w).2.2.2.2.2.2.2.2.2.2.2

set_option maxHeartbeats 40000000 in
theorem fn_B (w:World):Calls Tryz.prog 148 #[.string ⟨#[114,111,117,110,100]⟩] w (FnPost (some ([⟨2,0⟩,⟨2,0⟩],⟨2,0⟩)) w)∧
  Calls Tryz.prog 148 #[.string ⟨#[109,111,100,117,108,111]⟩] w (FnPost (some ([⟨2,0⟩,⟨2,0⟩],⟨2,0⟩)) w)∧
  Calls Tryz.prog 148 #[.string ⟨#[99,111,110,116,97,105,110,115]⟩] w (FnPost (some ([⟨3,0⟩,⟨3,0⟩],⟨1,0⟩)) w)∧
  Calls Tryz.prog 148 #[.string ⟨#[115,116,97,114,116,115]⟩] w (FnPost (some ([⟨3,0⟩,⟨3,0⟩],⟨1,0⟩)) w)∧
  Calls Tryz.prog 148 #[.string ⟨#[100,97,121,115]⟩] w (FnPost (some ([⟨4,0⟩,⟨2,0⟩],⟨4,0⟩)) w)∧
  Calls Tryz.prog 148 #[.string ⟨#[109,111,110,116,104,115]⟩] w (FnPost (some ([⟨4,0⟩,⟨2,0⟩],⟨4,0⟩)) w):=by
 refine ⟨?_,?_,?_,?_,?_,?_⟩
 all_goals
  have HM:=Lib.hid (Mem.start w)
  go_enter Tryz.func148,Tryz.ntmps148
  go_wp2_with (first|(go_at_call 87;(with_reducible refine cB HM (cof_any _ _) ?_);clear HM;intro W1 HM)|(go_at_call 149;(with_reducible refine cB HM (clist_any _ _) ?_);clear HM;intro W1 HM)|(refine bs3T rfl HM.out rfl rfl rfl ?_;intro g1 W1 HM1;replace HM:=Lib.hid HM1;clear HM1)|(refine bs2T rfl HM.out rfl rfl ?_;intro g1 W1 HM1;replace HM:=Lib.hid HM1;clear HM1)|refine mP ?_|(refine mS ?_;clear HM;intro W1 HM)|(refine hbs1A HM rfl rfl rfl rfl ?_;clear HM;intro g1 W1 HM)|(refine hal HM rfl ?_;clear HM;intro g1 W1 HM))
  refine wp_region_steps2 [(true,0),(true,1),(true,3),(false,2),(true,4),(false,5)] (by kernel_rfl) (by kernel_rfl) rfl (by kernel_rfl) (fun _ _ _ _ _ h=>h) HM.out _ (.cons _ (.cons_cons _ (.cons_cons _ (.cons_cons _ (.cons_cons _ (.cons_cons _ .slnil)))))) ?_
  intro hNE W1 HM1;replace HM:=Lib.hid HM1;clear HM1
  have HS0:=Lib.hid (HM.out.sub (.cons _ (.cons_cons _ (.cons_cons _ (.cons_cons _ (.cons_cons _ (.cons_cons _ .slnil)))))))
  simp only [wpSteps,List.getElem?_cons_succ,List.getElem?_cons_zero]
  (repeat (first|((with_reducible refine wpQuiet_nil ?_);(try dsimp only))|refine mQ ?_|go_big_quiet_step (fail)|quiet_step (fail)))
  go_wp2_with (first|(refine bs3T rfl HM.out rfl rfl rfl ?_;intro g1 W1 HM1;replace HM:=Lib.hid HM1;clear HM1)|(refine bs2T rfl HM.out rfl rfl ?_;intro g1 W1 HM1;replace HM:=Lib.hid HM1;clear HM1))
  refine ⟨⟨⟨_,HM.out.sub msub⟩,rfl⟩,?_⟩
  (try dsimp only)
  (repeat (first|((with_reducible refine wpQuiet_nil ?_);(try dsimp only))|go_big_quiet_step (fail)|quiet_step (fail)))
  go_wp2_with (first|(refine mS ?_;clear HM;intro W1 HM))
  refine ⟨⟨⟨_,HM.out.sub msub⟩,rfl⟩,?_⟩
  (try dsimp only)
  clear HS0 hNE
  go_wp2_with fail
  refine wp_region_steps2 [(true,0),(true,1),(true,2),(false,3),(true,4)] (by kernel_rfl) (by kernel_rfl) rfl (by kernel_rfl) (fun _ _ _ _ _ h=>h) HM.out _ (.cons_cons _ (.cons_cons _ (List.nil_sublist _))) ?_
  intro hNE W1 HM1;replace HM:=Lib.hid HM1;clear HM1
  have HS0:=Lib.hid (HM.out.sub (.cons_cons _ (.cons_cons _ (List.nil_sublist _))))
  simp only [wpSteps,List.getElem?_cons_succ,List.getElem?_cons_zero]
  (repeat (first|((with_reducible refine wpQuiet_nil ?_);(try dsimp only))|refine mQ ?_|go_big_quiet_step (fail)|quiet_step (fail)))
  go_wp2_with (first|(refine mS ?_;clear HM;intro W1 HM))
  refine ⟨⟨⟨_,HM.out.sub msub⟩,rfl⟩,?_⟩
  (try dsimp only)
  (repeat (first|((with_reducible refine wpQuiet_nil ?_);(try dsimp only))|go_big_quiet_step (fail)|quiet_step (fail)))
  clear HS0 hNE
  go_wp2_with fail
  exact bodyPost_ret (res_tmp_box_tmp rfl HM.out 6 rfl rfl rfl rfl rfl) rfl ⟨_,rfl,(HM.out.turn0 (k:=0) rfl (box_row (HM.out.get (k:=0) rfl) rfl (by decide)) (fun g e=>e)).sub (.cons_cons _ (List.nil_sublist _))⟩

theorem fn_round (w:World):Calls Tryz.prog 148 #[.string ⟨#[114,111,117,110,100]⟩] w (FnPost (some ([⟨2,0⟩,⟨2,0⟩],⟨2,0⟩)) w):=(fn_B w).1
theorem fn_modulo (w:World):Calls Tryz.prog 148 #[.string ⟨#[109,111,100,117,108,111]⟩] w (FnPost (some ([⟨2,0⟩,⟨2,0⟩],⟨2,0⟩)) w):=(fn_B w).2.1
theorem fn_contains (w:World):Calls Tryz.prog 148 #[.string ⟨#[99,111,110,116,97,105,110,115]⟩] w (FnPost (some ([⟨3,0⟩,⟨3,0⟩],⟨1,0⟩)) w):=(fn_B w).2.2.1
theorem fn_starts (w:World):Calls Tryz.prog 148 #[.string ⟨#[115,116,97,114,116,115]⟩] w (FnPost (some ([⟨3,0⟩,⟨3,0⟩],⟨1,0⟩)) w):=(fn_B w).2.2.2.1
theorem fn_days (w:World):Calls Tryz.prog 148 #[.string ⟨#[100,97,121,115]⟩] w (FnPost (some ([⟨4,0⟩,⟨2,0⟩],⟨4,0⟩)) w):=(fn_B w).2.2.2.2.1
theorem fn_months (w:World):Calls Tryz.prog 148 #[.string ⟨#[109,111,110,116,104,115]⟩] w (FnPost (some ([⟨4,0⟩,⟨2,0⟩],⟨4,0⟩)) w):=(fn_B w).2.2.2.2.2

set_option maxHeartbeats 40000000 in
theorem fn_L (w:World):Calls Tryz.prog 148 #[.string ⟨#[109,105,110]⟩] w (FnPost (some ([⟨5,2⟩],⟨2,0⟩)) w)∧
  Calls Tryz.prog 148 #[.string ⟨#[109,97,120]⟩] w (FnPost (some ([⟨5,2⟩],⟨2,0⟩)) w)∧
  Calls Tryz.prog 148 #[.string ⟨#[115,117,109]⟩] w (FnPost (some ([⟨5,2⟩],⟨2,0⟩)) w)∧
  Calls Tryz.prog 148 #[.string ⟨#[99,111,117,110,116]⟩] w (FnPost (some ([⟨5,0⟩],⟨2,0⟩)) w)∧
  Calls Tryz.prog 148 #[.string ⟨#[115,116,114,105,110,103]⟩] w (FnPost (some ([⟨0,0⟩],⟨3,0⟩)) w):=by
 refine ⟨?_,?_,?_,?_,?_⟩
 all_goals
  have HM:=Lib.hid (Mem.start w)
  go_enter Tryz.func148,Tryz.ntmps148
  go_wp2_with (first|(go_at_call 87;(with_reducible refine cB HM (cof_any _ _) ?_);clear HM;intro W1 HM)|(go_at_call 149;(with_reducible refine cB HM (clist_any _ _) ?_);clear HM;intro W1 HM)|(refine bs3T rfl HM.out rfl rfl rfl ?_;intro g1 W1 HM1;replace HM:=Lib.hid HM1;clear HM1)|(refine bs2T rfl HM.out rfl rfl ?_;intro g1 W1 HM1;replace HM:=Lib.hid HM1;clear HM1)|refine mP ?_|(refine mS ?_;clear HM;intro W1 HM)|(refine hbs1A HM rfl rfl rfl rfl ?_;clear HM;intro g1 W1 HM)|(refine hal HM rfl ?_;clear HM;intro g1 W1 HM))
  refine wp_region_steps2 [(true,2),(false,0),(false,1),(true,3),(false,4)] (by kernel_rfl) (by kernel_rfl) rfl (by kernel_rfl) (fun _ _ _ _ _ h=>h) HM.out _ (.cons _ (.cons_cons _ (.cons_cons _ (.cons_cons _ (.cons_cons _ (.cons_cons _ .slnil)))))) ?_
  intro hNE W1 HM1;replace HM:=Lib.hid HM1;clear HM1
  have HS0:=Lib.hid (HM.out.sub (.cons _ (.cons_cons _ (.cons_cons _ (.cons_cons _ (.cons_cons _ (.cons_cons _ .slnil)))))))
  simp only [wpSteps,List.getElem?_cons_succ,List.getElem?_cons_zero]
  (repeat (first|((with_reducible refine skip_q ?_ ?_ ?_);(exact rfl);(rotate_left;(exact (hNE.elim fun p=>⟨p.W,p,rfl⟩))))|refine mQ ?_|((with_reducible refine wpQuiet_nil ?_);(try dsimp only))|go_big_quiet_step (fail)|quiet_step (fail)))
  go_wp2_with (first|((with_reducible refine skip_op ?_ ?_);exact rfl)|(go_at_call 87;(with_reducible refine cB HM (cof_any _ _) ?_);clear HM;intro W1 HM)|(go_at_call 149;(with_reducible refine cB HM (clist_any _ _) ?_);clear HM;intro W1 HM)|(refine bs3T rfl HM.out rfl rfl rfl ?_;intro g1 W1 HM1;replace HM:=Lib.hid HM1;clear HM1)|(refine bs2T rfl HM.out rfl rfl ?_;intro g1 W1 HM1;replace HM:=Lib.hid HM1;clear HM1)|refine mP ?_|(refine mS ?_;clear HM;intro W1 HM)|(refine hbs1A HM rfl rfl rfl rfl ?_;clear HM;intro g1 W1 HM)|(refine hal HM rfl ?_;clear HM;intro g1 W1 HM))
  refine ⟨⟨⟨_,HM.out.sub msub⟩,rfl⟩,?_⟩
  (try dsimp only)
  (repeat (first|((with_reducible refine skip_q ?_ ?_ ?_);(exact rfl);(rotate_left;(exact (hNE.elim fun p=>⟨p.W,p,rfl⟩))))|refine mQ ?_|((with_reducible refine wpQuiet_nil ?_);(try dsimp only))|go_big_quiet_step (fail)|quiet_step (fail)))
  go_wp2_with (first|((with_reducible refine skip_op ?_ ?_);exact rfl)|(go_at_call 87;(with_reducible refine cB HM (cof_any _ _) ?_);clear HM;intro W1 HM)|(go_at_call 149;(with_reducible refine cB HM (clist_any _ _) ?_);clear HM;intro W1 HM)|(refine bs3T rfl HM.out rfl rfl rfl ?_;intro g1 W1 HM1;replace HM:=Lib.hid HM1;clear HM1)|(refine bs2T rfl HM.out rfl rfl ?_;intro g1 W1 HM1;replace HM:=Lib.hid HM1;clear HM1)|refine mP ?_|(refine mS ?_;clear HM;intro W1 HM)|(refine hbs1A HM rfl rfl rfl rfl ?_;clear HM;intro g1 W1 HM)|(refine hal HM rfl ?_;clear HM;intro g1 W1 HM))
  refine ⟨⟨⟨_,HM.out.sub msub⟩,rfl⟩,?_⟩
  (try dsimp only)
  (repeat (first|((with_reducible refine skip_q ?_ ?_ ?_);(exact rfl);(rotate_left;(exact (hNE.elim fun p=>⟨p.W,p,rfl⟩))))|refine mQ ?_|((with_reducible refine wpQuiet_nil ?_);(try dsimp only))|go_big_quiet_step (fail)|quiet_step (fail)))
  go_wp2_with (first|((with_reducible refine skip_op ?_ ?_);exact rfl)|(go_at_call 87;(with_reducible refine cB HM (cof_any _ _) ?_);clear HM;intro W1 HM)|(go_at_call 149;(with_reducible refine cB HM (clist_any _ _) ?_);clear HM;intro W1 HM)|(refine bs3T rfl HM.out rfl rfl rfl ?_;intro g1 W1 HM1;replace HM:=Lib.hid HM1;clear HM1)|(refine bs2T rfl HM.out rfl rfl ?_;intro g1 W1 HM1;replace HM:=Lib.hid HM1;clear HM1)|refine mP ?_|(refine mS ?_;clear HM;intro W1 HM)|(refine hbs1A HM rfl rfl rfl rfl ?_;clear HM;intro g1 W1 HM)|(refine hal HM rfl ?_;clear HM;intro g1 W1 HM))
  refine ⟨⟨⟨_,HM.out.sub msub⟩,rfl⟩,?_⟩
  (try dsimp only)
  (repeat (first|((with_reducible refine skip_q ?_ ?_ ?_);(exact rfl);(rotate_left;(exact (hNE.elim fun p=>⟨p.W,p,rfl⟩))))|refine mQ ?_|((with_reducible refine wpQuiet_nil ?_);(try dsimp only))|go_big_quiet_step (fail)|quiet_step (fail)))
  clear HS0 hNE
  go_wp2_with fail
  refine wp_region_steps2 [(true,0),(true,1),(true,2),(false,3),(true,4)] (by kernel_rfl) (by kernel_rfl) rfl (by kernel_rfl) (fun _ _ _ _ _ h=>h) HM.out _ (.cons_cons _ (.cons_cons _ (List.nil_sublist _))) ?_
  intro hNE W1 HM1;replace HM:=Lib.hid HM1;clear HM1
  have HS0:=Lib.hid (HM.out.sub (.cons_cons _ (.cons_cons _ (List.nil_sublist _))))
  simp only [wpSteps,List.getElem?_cons_succ,List.getElem?_cons_zero]
  (repeat (first|((with_reducible refine wpQuiet_nil ?_);(try dsimp only))|refine mQ ?_|go_big_quiet_step (fail)|quiet_step (fail)))
  go_wp2_with (first|(refine mS ?_;clear HM;intro W1 HM))
  refine ⟨⟨⟨_,HM.out.sub msub⟩,rfl⟩,?_⟩
  (try dsimp only)
  (repeat (first|((with_reducible refine wpQuiet_nil ?_);(try dsimp only))|go_big_quiet_step (fail)|quiet_step (fail)))
  clear HS0 hNE
  go_wp2_with fail
  exact bodyPost_ret (res_tmp_box_tmp rfl HM.out 6 rfl rfl rfl rfl rfl) rfl ⟨_,rfl,(HM.out.turn0 (k:=0) rfl (box_row (HM.out.get (k:=0) rfl) rfl (by decide)) (fun g e=>e)).sub (.cons_cons _ (List.nil_sublist _))⟩

theorem fn_min (w:World):Calls Tryz.prog 148 #[.string ⟨#[109,105,110]⟩] w (FnPost (some ([⟨5,2⟩],⟨2,0⟩)) w):=(fn_L w).1
theorem fn_max (w:World):Calls Tryz.prog 148 #[.string ⟨#[109,97,120]⟩] w (FnPost (some ([⟨5,2⟩],⟨2,0⟩)) w):=(fn_L w).2.1
theorem fn_sum (w:World):Calls Tryz.prog 148 #[.string ⟨#[115,117,109]⟩] w (FnPost (some ([⟨5,2⟩],⟨2,0⟩)) w):=(fn_L w).2.2.1
theorem fn_count (w:World):Calls Tryz.prog 148 #[.string ⟨#[99,111,117,110,116]⟩] w (FnPost (some ([⟨5,0⟩],⟨2,0⟩)) w):=(fn_L w).2.2.2.1
theorem fn_string (w:World):Calls Tryz.prog 148 #[.string ⟨#[115,116,114,105,110,103]⟩] w (FnPost (some ([⟨0,0⟩],⟨3,0⟩)) w):=(fn_L w).2.2.2.2

set_option maxHeartbeats 40000000 in
theorem fn_C (w:World):Calls Tryz.prog 148 #[.string ⟨#[115,117,98,115,116,114,105,110,103]⟩] w (FnPost (some ([⟨3,0⟩,⟨2,0⟩,⟨2,0⟩],⟨3,0⟩)) w):=by
 have HM:=Lib.hid (Mem.start w)
 go_enter Tryz.func148,Tryz.ntmps148
 go_wp2_with (first|(go_at_call 87;(with_reducible refine cB HM (cof_any _ _) ?_);clear HM;intro W1 HM)|(go_at_call 149;(with_reducible refine cB HM (clist_any _ _) ?_);clear HM;intro W1 HM)|(refine bs3T rfl HM.out rfl rfl rfl ?_;intro g1 W1 HM1;replace HM:=Lib.hid HM1;clear HM1)|(refine bs2T rfl HM.out rfl rfl ?_;intro g1 W1 HM1;replace HM:=Lib.hid HM1;clear HM1)|refine mP ?_|(refine mS ?_;clear HM;intro W1 HM)|(refine hbs1A HM rfl rfl rfl rfl ?_;clear HM;intro g1 W1 HM)|(refine hal HM rfl ?_;clear HM;intro g1 W1 HM))
 refine wp_region_steps2 [(true,0),(true,1),(true,2),(true,4),(false,3),(true,5),(false,6)] (by kernel_rfl) (by kernel_rfl) rfl (by kernel_rfl) (fun _ _ _ _ _ h=>h) HM.out _ (.cons _ (.cons_cons _ (.cons_cons _ (.cons_cons _ (.cons_cons _ (.cons_cons _ .slnil)))))) ?_
 intro hNE W1 HM1;replace HM:=Lib.hid HM1;clear HM1
 have HS0:=Lib.hid (HM.out.sub (.cons _ (.cons_cons _ (.cons_cons _ (.cons_cons _ (.cons_cons _ (.cons_cons _ .slnil)))))))
 simp only [wpSteps,List.getElem?_cons_succ,List.getElem?_cons_zero]
 (repeat (first|((with_reducible refine wpQuiet_nil ?_);(try dsimp only))|refine mQ ?_|go_big_quiet_step (fail)|quiet_step (fail)))
 go_wp2_with (first|(refine bs3T rfl HM.out rfl rfl rfl ?_;intro g1 W1 HM1;replace HM:=Lib.hid HM1;clear HM1)|(refine bs2T rfl HM.out rfl rfl ?_;intro g1 W1 HM1;replace HM:=Lib.hid HM1;clear HM1))
 refine ⟨⟨⟨_,HM.out.sub msub⟩,rfl⟩,?_⟩
 (try dsimp only)
 (repeat (first|((with_reducible refine wpQuiet_nil ?_);(try dsimp only))|go_big_quiet_step (fail)|quiet_step (fail)))
 go_wp2_with (first|(refine mS ?_;clear HM;intro W1 HM))
 refine ⟨⟨⟨_,HM.out.sub msub⟩,rfl⟩,?_⟩
 (try dsimp only)
 clear HS0 hNE
 go_wp2_with fail
 refine wp_region_steps2 [(true,0),(true,1),(true,2),(false,3),(true,4)] (by kernel_rfl) (by kernel_rfl) rfl (by kernel_rfl) (fun _ _ _ _ _ h=>h) HM.out _ (.cons_cons _ (.cons_cons _ (List.nil_sublist _))) ?_
 intro hNE W1 HM1;replace HM:=Lib.hid HM1;clear HM1
 have HS0:=Lib.hid (HM.out.sub (.cons_cons _ (.cons_cons _ (List.nil_sublist _))))
 simp only [wpSteps,List.getElem?_cons_succ,List.getElem?_cons_zero]
 (repeat (first|((with_reducible refine wpQuiet_nil ?_);(try dsimp only))|refine mQ ?_|go_big_quiet_step (fail)|quiet_step (fail)))
 go_wp2_with (first|(refine mS ?_;clear HM;intro W1 HM))
 refine ⟨⟨⟨_,HM.out.sub msub⟩,rfl⟩,?_⟩
 (try dsimp only)
 (repeat (first|((with_reducible refine wpQuiet_nil ?_);(try dsimp only))|go_big_quiet_step (fail)|quiet_step (fail)))
 clear HS0 hNE
 go_wp2_with fail
 exact bodyPost_ret (res_tmp_box_tmp rfl HM.out 6 rfl rfl rfl rfl rfl) rfl ⟨_,rfl,(HM.out.turn0 (k:=0) rfl (box_row (HM.out.get (k:=0) rfl) rfl (by decide)) (fun g e=>e)).sub (.cons_cons _ (List.nil_sublist _))⟩

theorem fn_substring (w:World):Calls Tryz.prog 148 #[.string ⟨#[115,117,98,115,116,114,105,110,103]⟩] w (FnPost (some ([⟨3,0⟩,⟨2,0⟩,⟨2,0⟩],⟨3,0⟩)) w):=(fn_C w)

set_option maxHeartbeats 40000000 in
theorem fn_P (w:World):Calls Tryz.prog 148 #[.string ⟨#[97,112,112,101,110,100]⟩] w (FnPost (some ([⟨5,0⟩,⟨0,0⟩],⟨5,0⟩)) w):=by
 have HM:=Lib.hid (Mem.start w)
 go_enter Tryz.func148,Tryz.ntmps148
 go_wp2_with (first|(go_at_call 87;(with_reducible refine cB HM (cof_any _ _) ?_);clear HM;intro W1 HM)|(go_at_call 149;(with_reducible refine cB HM (clist_any _ _) ?_);clear HM;intro W1 HM)|(refine bs3T rfl HM.out rfl rfl rfl ?_;intro g1 W1 HM1;replace HM:=Lib.hid HM1;clear HM1)|(refine bs2T rfl HM.out rfl rfl ?_;intro g1 W1 HM1;replace HM:=Lib.hid HM1;clear HM1)|refine mP ?_|(refine mS ?_;clear HM;intro W1 HM)|(refine hbs1A HM rfl rfl rfl rfl ?_;clear HM;intro g1 W1 HM)|(refine hal HM rfl ?_;clear HM;intro g1 W1 HM))
 refine wp_region_steps2 [(true,0),(true,1),(true,2),(false,3),(true,4)] (by kernel_rfl) (by kernel_rfl) rfl (by kernel_rfl) (fun _ _ _ _ _ h=>h) HM.out _ (.cons_cons _ (.cons_cons _ (List.nil_sublist _))) ?_
 intro hNE W1 HM1;replace HM:=Lib.hid HM1;clear HM1
 have HS0:=Lib.hid (HM.out.sub (.cons_cons _ (.cons_cons _ (List.nil_sublist _))))
 simp only [wpSteps,List.getElem?_cons_succ,List.getElem?_cons_zero]
 (repeat (first|((with_reducible refine wpQuiet_nil ?_);(try dsimp only))|refine mQ ?_|go_big_quiet_step (fail)|quiet_step (fail)))
 go_wp2_with (first|(refine mS ?_;clear HM;intro W1 HM))
 refine ⟨⟨⟨_,HM.out.sub msub⟩,rfl⟩,?_⟩
 (try dsimp only)
 (repeat (first|((with_reducible refine wpQuiet_nil ?_);(try dsimp only))|go_big_quiet_step (fail)|quiet_step (fail)))
 clear HS0 hNE
 go_wp2_with fail
 exact bodyPost_ret (res_tmp_box_tmp rfl HM.out 6 rfl rfl rfl rfl rfl) rfl ⟨_,rfl,(HM.out.turn0 (k:=0) rfl (box_row (HM.out.get (k:=0) rfl) rfl (by decide)) (fun g e=>e)).sub (.cons_cons _ (List.nil_sublist _))⟩

theorem fn_append (w:World):Calls Tryz.prog 148 #[.string ⟨#[97,112,112,101,110,100]⟩] w (FnPost (some ([⟨5,0⟩,⟨0,0⟩],⟨5,0⟩)) w):=(fn_P w)

end Go.Proofs.YtheimopjglkgjaaGreatDoor

namespace Go.Proofs.YtheimopjglkgjaaGreatDoor
open Go.RowKit
set_option linter.unusedVariables false
set_option linter.unusedSimpArgs false
set_option maxRecDepth 100000

theorem bytes_of {s:ByteArray} {l:List UInt8} (h:(s.toList == l)=true):s=⟨l.toArray⟩:=by
 have h1:=beq_iff_eq.1 h
 rw [ByteArray.toList_eq] at h1
 apply ByteArray.ext
 apply Array.ext'
 exact h1
/-- What Function answers. -/
def fnF (l:List UInt8):Option (List TyD × TyD):=
 if l == [97,98,115] then some ([⟨2,0⟩],⟨2,0⟩)
 else if l == [102,108,111,111,114] then some ([⟨2,0⟩],⟨2,0⟩)
 else if l == [99,101,105,108,105,110,103] then some ([⟨2,0⟩],⟨2,0⟩)
 else if l == [114,111,117,110,100] then some ([⟨2,0⟩,⟨2,0⟩],⟨2,0⟩)
 else if l == [109,111,100,117,108,111] then some ([⟨2,0⟩,⟨2,0⟩],⟨2,0⟩)
 else if l == [109,105,110] then some ([⟨5,2⟩],⟨2,0⟩)
 else if l == [109,97,120] then some ([⟨5,2⟩],⟨2,0⟩)
 else if l == [115,117,109] then some ([⟨5,2⟩],⟨2,0⟩)
 else if l == [99,111,117,110,116] then some ([⟨5,0⟩],⟨2,0⟩)
 else if l == [99,111,110,116,97,105,110,115] then some ([⟨3,0⟩,⟨3,0⟩],⟨1,0⟩)
 else if l == [115,116,97,114,116,115] then some ([⟨3,0⟩,⟨3,0⟩],⟨1,0⟩)
 else if l == [108,101,110,103,116,104] then some ([⟨3,0⟩],⟨2,0⟩)
 else if l == [115,117,98,115,116,114,105,110,103] then some ([⟨3,0⟩,⟨2,0⟩,⟨2,0⟩],⟨3,0⟩)
 else if l == [117,112,112,101,114] then some ([⟨3,0⟩],⟨3,0⟩)
 else if l == [108,111,119,101,114] then some ([⟨3,0⟩],⟨3,0⟩)
 else if l == [100,97,116,101] then some ([⟨3,0⟩],⟨4,0⟩)
 else if l == [121,101,97,114] then some ([⟨4,0⟩],⟨2,0⟩)
 else if l == [109,111,110,116,104] then some ([⟨4,0⟩],⟨2,0⟩)
 else if l == [100,97,121] then some ([⟨4,0⟩],⟨2,0⟩)
 else if l == [119,101,101,107,100,97,121] then some ([⟨4,0⟩],⟨2,0⟩)
 else if l == [100,97,121,115] then some ([⟨4,0⟩,⟨2,0⟩],⟨4,0⟩)
 else if l == [109,111,110,116,104,115] then some ([⟨4,0⟩,⟨2,0⟩],⟨4,0⟩)
 else if l == [110,101,103,97,116,101] then some ([⟨1,0⟩],⟨1,0⟩)
 else if l == [97,112,112,101,110,100] then some ([⟨5,0⟩,⟨0,0⟩],⟨5,0⟩)
 else if l == [115,116,114,105,110,103] then some ([⟨0,0⟩],⟨3,0⟩)
 else none

set_option maxHeartbeats 4000000 in
theorem function_any (s:ByteArray) (w:World):Calls Tryz.prog 148 #[.string s] w (FnPost (fnF s.toList) w):=by
 by_cases h0:(s.toList == [97,98,115])=true
 ·rw [show fnF s.toList=some ([⟨2,0⟩],⟨2,0⟩) by unfold fnF;simp only [h0,if_true,if_false,Bool.false_eq_true]]
  obtain rfl:=bytes_of h0
  exact fn_abs w
 rw [Bool.not_eq_true] at h0
 by_cases h1:(s.toList == [102,108,111,111,114])=true
 ·rw [show fnF s.toList=some ([⟨2,0⟩],⟨2,0⟩) by unfold fnF;simp only [h0,h1,if_true,if_false,Bool.false_eq_true]]
  obtain rfl:=bytes_of h1
  exact fn_floor w
 rw [Bool.not_eq_true] at h1
 by_cases h2:(s.toList == [99,101,105,108,105,110,103])=true
 ·rw [show fnF s.toList=some ([⟨2,0⟩],⟨2,0⟩) by unfold fnF;simp only [h0,h1,h2,if_true,if_false,Bool.false_eq_true]]
  obtain rfl:=bytes_of h2
  exact fn_ceiling w
 rw [Bool.not_eq_true] at h2
 by_cases h3:(s.toList == [114,111,117,110,100])=true
 ·rw [show fnF s.toList=some ([⟨2,0⟩,⟨2,0⟩],⟨2,0⟩) by unfold fnF;simp only [h0,h1,h2,h3,if_true,if_false,Bool.false_eq_true]]
  obtain rfl:=bytes_of h3
  exact fn_round w
 rw [Bool.not_eq_true] at h3
 by_cases h4:(s.toList == [109,111,100,117,108,111])=true
 ·rw [show fnF s.toList=some ([⟨2,0⟩,⟨2,0⟩],⟨2,0⟩) by unfold fnF;simp only [h0,h1,h2,h3,h4,if_true,if_false,Bool.false_eq_true]]
  obtain rfl:=bytes_of h4
  exact fn_modulo w
 rw [Bool.not_eq_true] at h4
 by_cases h5:(s.toList == [109,105,110])=true
 ·rw [show fnF s.toList=some ([⟨5,2⟩],⟨2,0⟩) by unfold fnF;simp only [h0,h1,h2,h3,h4,h5,if_true,if_false,Bool.false_eq_true]]
  obtain rfl:=bytes_of h5
  exact fn_min w
 rw [Bool.not_eq_true] at h5
 by_cases h6:(s.toList == [109,97,120])=true
 ·rw [show fnF s.toList=some ([⟨5,2⟩],⟨2,0⟩) by unfold fnF;simp only [h0,h1,h2,h3,h4,h5,h6,if_true,if_false,Bool.false_eq_true]]
  obtain rfl:=bytes_of h6
  exact fn_max w
 rw [Bool.not_eq_true] at h6
 by_cases h7:(s.toList == [115,117,109])=true
 ·rw [show fnF s.toList=some ([⟨5,2⟩],⟨2,0⟩) by unfold fnF;simp only [h0,h1,h2,h3,h4,h5,h6,h7,if_true,if_false,Bool.false_eq_true]]
  obtain rfl:=bytes_of h7
  exact fn_sum w
 rw [Bool.not_eq_true] at h7
 by_cases h8:(s.toList == [99,111,117,110,116])=true
 ·rw [show fnF s.toList=some ([⟨5,0⟩],⟨2,0⟩) by unfold fnF;simp only [h0,h1,h2,h3,h4,h5,h6,h7,h8,if_true,if_false,Bool.false_eq_true]]
  obtain rfl:=bytes_of h8
  exact fn_count w
 rw [Bool.not_eq_true] at h8
 by_cases h9:(s.toList == [99,111,110,116,97,105,110,115])=true
 ·rw [show fnF s.toList=some ([⟨3,0⟩,⟨3,0⟩],⟨1,0⟩) by unfold fnF;simp only [h0,h1,h2,h3,h4,h5,h6,h7,h8,h9,if_true,if_false,Bool.false_eq_true]]
  obtain rfl:=bytes_of h9
  exact fn_contains w
 rw [Bool.not_eq_true] at h9
 by_cases h10:(s.toList == [115,116,97,114,116,115])=true
 ·rw [show fnF s.toList=some ([⟨3,0⟩,⟨3,0⟩],⟨1,0⟩) by unfold fnF;simp only [h0,h1,h2,h3,h4,h5,h6,h7,h8,h9,h10,if_true,if_false,Bool.false_eq_true]]
  obtain rfl:=bytes_of h10
  exact fn_starts w
 rw [Bool.not_eq_true] at h10
 by_cases h11:(s.toList == [108,101,110,103,116,104])=true
 ·rw [show fnF s.toList=some ([⟨3,0⟩],⟨2,0⟩) by unfold fnF;simp only [h0,h1,h2,h3,h4,h5,h6,h7,h8,h9,h10,h11,if_true,if_false,Bool.false_eq_true]]
  obtain rfl:=bytes_of h11
  exact fn_length w
 rw [Bool.not_eq_true] at h11
 by_cases h12:(s.toList == [115,117,98,115,116,114,105,110,103])=true
 ·rw [show fnF s.toList=some ([⟨3,0⟩,⟨2,0⟩,⟨2,0⟩],⟨3,0⟩) by unfold fnF;simp only [h0,h1,h2,h3,h4,h5,h6,h7,h8,h9,h10,h11,h12,if_true,if_false,Bool.false_eq_true]]
  obtain rfl:=bytes_of h12
  exact fn_substring w
 rw [Bool.not_eq_true] at h12
 by_cases h13:(s.toList == [117,112,112,101,114])=true
 ·rw [show fnF s.toList=some ([⟨3,0⟩],⟨3,0⟩) by unfold fnF;simp only [h0,h1,h2,h3,h4,h5,h6,h7,h8,h9,h10,h11,h12,h13,if_true,if_false,Bool.false_eq_true]]
  obtain rfl:=bytes_of h13
  exact fn_upper w
 rw [Bool.not_eq_true] at h13
 by_cases h14:(s.toList == [108,111,119,101,114])=true
 ·rw [show fnF s.toList=some ([⟨3,0⟩],⟨3,0⟩) by unfold fnF;simp only [h0,h1,h2,h3,h4,h5,h6,h7,h8,h9,h10,h11,h12,h13,h14,if_true,if_false,Bool.false_eq_true]]
  obtain rfl:=bytes_of h14
  exact fn_lower w
 rw [Bool.not_eq_true] at h14
 by_cases h15:(s.toList == [100,97,116,101])=true
 ·rw [show fnF s.toList=some ([⟨3,0⟩],⟨4,0⟩) by unfold fnF;simp only [h0,h1,h2,h3,h4,h5,h6,h7,h8,h9,h10,h11,h12,h13,h14,h15,if_true,if_false,Bool.false_eq_true]]
  obtain rfl:=bytes_of h15
  exact fn_date w
 rw [Bool.not_eq_true] at h15
 by_cases h16:(s.toList == [121,101,97,114])=true
 ·rw [show fnF s.toList=some ([⟨4,0⟩],⟨2,0⟩) by unfold fnF;simp only [h0,h1,h2,h3,h4,h5,h6,h7,h8,h9,h10,h11,h12,h13,h14,h15,h16,if_true,if_false,Bool.false_eq_true]]
  obtain rfl:=bytes_of h16
  exact fn_year w
 rw [Bool.not_eq_true] at h16
 by_cases h17:(s.toList == [109,111,110,116,104])=true
 ·rw [show fnF s.toList=some ([⟨4,0⟩],⟨2,0⟩) by unfold fnF;simp only [h0,h1,h2,h3,h4,h5,h6,h7,h8,h9,h10,h11,h12,h13,h14,h15,h16,h17,if_true,if_false,Bool.false_eq_true]]
  obtain rfl:=bytes_of h17
  exact fn_month w
 rw [Bool.not_eq_true] at h17
 by_cases h18:(s.toList == [100,97,121])=true
 ·rw [show fnF s.toList=some ([⟨4,0⟩],⟨2,0⟩) by unfold fnF;simp only [h0,h1,h2,h3,h4,h5,h6,h7,h8,h9,h10,h11,h12,h13,h14,h15,h16,h17,h18,if_true,if_false,Bool.false_eq_true]]
  obtain rfl:=bytes_of h18
  exact fn_day w
 rw [Bool.not_eq_true] at h18
 by_cases h19:(s.toList == [119,101,101,107,100,97,121])=true
 ·rw [show fnF s.toList=some ([⟨4,0⟩],⟨2,0⟩) by unfold fnF;simp only [h0,h1,h2,h3,h4,h5,h6,h7,h8,h9,h10,h11,h12,h13,h14,h15,h16,h17,h18,h19,if_true,if_false,Bool.false_eq_true]]
  obtain rfl:=bytes_of h19
  exact fn_weekday w
 rw [Bool.not_eq_true] at h19
 by_cases h20:(s.toList == [100,97,121,115])=true
 ·rw [show fnF s.toList=some ([⟨4,0⟩,⟨2,0⟩],⟨4,0⟩) by unfold fnF;simp only [h0,h1,h2,h3,h4,h5,h6,h7,h8,h9,h10,h11,h12,h13,h14,h15,h16,h17,h18,h19,h20,if_true,if_false,Bool.false_eq_true]]
  obtain rfl:=bytes_of h20
  exact fn_days w
 rw [Bool.not_eq_true] at h20
 by_cases h21:(s.toList == [109,111,110,116,104,115])=true
 ·rw [show fnF s.toList=some ([⟨4,0⟩,⟨2,0⟩],⟨4,0⟩) by unfold fnF;simp only [h0,h1,h2,h3,h4,h5,h6,h7,h8,h9,h10,h11,h12,h13,h14,h15,h16,h17,h18,h19,h20,h21,if_true,if_false,Bool.false_eq_true]]
  obtain rfl:=bytes_of h21
  exact fn_months w
 rw [Bool.not_eq_true] at h21
 by_cases h22:(s.toList == [110,101,103,97,116,101])=true
 ·rw [show fnF s.toList=some ([⟨1,0⟩],⟨1,0⟩) by unfold fnF;simp only [h0,h1,h2,h3,h4,h5,h6,h7,h8,h9,h10,h11,h12,h13,h14,h15,h16,h17,h18,h19,h20,h21,h22,if_true,if_false,Bool.false_eq_true]]
  obtain rfl:=bytes_of h22
  exact fn_negate w
 rw [Bool.not_eq_true] at h22
 by_cases h23:(s.toList == [97,112,112,101,110,100])=true
 ·rw [show fnF s.toList=some ([⟨5,0⟩,⟨0,0⟩],⟨5,0⟩) by unfold fnF;simp only [h0,h1,h2,h3,h4,h5,h6,h7,h8,h9,h10,h11,h12,h13,h14,h15,h16,h17,h18,h19,h20,h21,h22,h23,if_true,if_false,Bool.false_eq_true]]
  obtain rfl:=bytes_of h23
  exact fn_append w
 rw [Bool.not_eq_true] at h23
 by_cases h24:(s.toList == [115,116,114,105,110,103])=true
 ·rw [show fnF s.toList=some ([⟨0,0⟩],⟨3,0⟩) by unfold fnF;simp only [h0,h1,h2,h3,h4,h5,h6,h7,h8,h9,h10,h11,h12,h13,h14,h15,h16,h17,h18,h19,h20,h21,h22,h23,h24,if_true,if_false,Bool.false_eq_true]]
  obtain rfl:=bytes_of h24
  exact fn_string w
 rw [Bool.not_eq_true] at h24
 rw [show fnF s.toList=none by unfold fnF;simp only [h0,h1,h2,h3,h4,h5,h6,h7,h8,h9,h10,h11,h12,h13,h14,h15,h16,h17,h18,h19,h20,h21,h22,h23,h24,if_false,Bool.false_eq_true]]
 have HM:=Lib.hid (Mem.start w)
 go_enter Tryz.func148,Tryz.ntmps148
 go_wp2_with (first|(go_at_call 87;(with_reducible refine cB HM (cof_any _ _) ?_);clear HM;intro W1 HM)|refine mP ?_|(refine mS ?_;clear HM;intro W1 HM)|(refine hbs1A HM rfl rfl rfl rfl ?_;clear HM;intro g1 W1 HM)|(refine hal HM rfl ?_;clear HM;intro g1 W1 HM))
 exact bodyPost_ret (res_tmp_box_tmp rfl HM.out 5 rfl rfl rfl rfl rfl) rfl ⟨rfl,HM.out.below⟩
end Go.Proofs.YtheimopjglkgjaaGreatDoor

namespace Go.Proofs.YtheimopjglkgjaaGreatDoor
open Go.RowKit
set_option linter.unusedVariables false
set_option linter.unusedSimpArgs false
set_option maxRecDepth 100000

def formsB:Option (List TyD × TyD)→Bool
 | none=>true
 | some (l,g)=>l.all (fun t=>formB t.k t.o) && formB g.k g.o
theorem formsB_ite {c:Prop} [Decidable c] {a b:Option (List TyD × TyD)} (ha:formsB a=true) (hb:formsB b=true):formsB (if c then a else b)=true:=by split <;> assumption
theorem fnF_forms (l:List UInt8):formsB (fnF l)=true:=by
 unfold fnF
 repeat (first|(refine formsB_ite (by decide) ?_)|rfl)
theorem fnF_form {l:List UInt8} {tk:List TyD} {g:TyD} (h:fnF l=some (tk,g)):(∀ t,t ∈ tk→t.form)∧g.form:=by
 have:=fnF_forms l
 rw [h] at this
 simp only [formsB,Bool.and_eq_true,List.all_eq_true] at this
 exact ⟨this.1,this.2⟩
def meetsB:List TyD→List TyD→Bool
 | t :: l,u :: m=>meetB t.k t.o u.k u.o && meetsB l m
 | _,_=>true
def callF (r:Option (List TyD × TyD)) (ts:List TyD):TyD × Int:=
 match r with
 | none=>(⟨0,0⟩,8)
 | some (tk,g)=>if tk.length=ts.length then (if meetsB ts tk then (g,0) else (⟨0,0⟩,9)) else (⟨0,0⟩,9)
/-- An element of a row. -/
theorem row_el {α:Type} (f:α→List Value) (k:Nat) (hf:∀ x,(f x).length=k) {B:Nat} {W:World} {b:Addr} {cap:Nat} {e:TypeId} {l:List α} (h:(Res.row (some b) cap e k l.length (l.flatMap f)).holds B W) {i:Nat} {x:α} (hx:l[i]? = some x):Cells W (b.add (i * k)) (f x):=
 ((sl_row f k hf h).2 b rfl).elem f k hf hx
theorem resV_of {r:TyD × Int} {k o e:Int} (h:r=(⟨k,o⟩,e)):resV r = .tuple #[.agg #[.int .i64 k,.int .i64 o],.int .i64 e]:=by rw [h];rfl

set_option maxHeartbeats 4000000 in
theorem call_any (s:ByteArray) (p:Option Addr) (c:Nat) (ts:List ThT) (w:World) (hS:Sl w p (ts.flatMap ThT.cs)) (hf:∀ t,t ∈ ts→t.t.form) (hl:ts.length≤4611686018427387904) :
  Calls Tryz.prog 118 #[.string s,.slice p ts.length c] w fun e w'=>e = .returned (resV (callF (fnF s.toList) (ts.map ThT.t)))∧Below w.heap.size w w':=by
 have HM:=Lib.hid (Mem.start w)
 obtain ⟨r,hr⟩:∃ r,fnF s.toList=r:=⟨_,rfl⟩
 have hform:∀ tk g,r=some (tk,g)→(∀ t,t ∈ tk→t.form)∧g.form:=fun tk g h=>fnF_form (hr.trans h)
 have HFn:=Lib.hid (fun W=>hr▸function_any s W)
 rw [hr]
 have HS:=Lib.hid hS
 have HF:=Lib.hid hf
 clear hr hS hf
 cases r with
 | none=>
  clear hform
  go_enter Tryz.func118,Tryz.ntmps118
  go_wp2_with (first|(go_at_call 148;(with_reducible refine cB HM (HFn.out _) ?_);clear HM;intro W1 HM)|refine mP ?_|(refine mS ?_;clear HM;intro W1 HM)|(refine hal (dst:=some 4) HM rfl ?_;clear HM;intro g4 W1 HM)|(refine hal (dst:=some 7) HM rfl ?_;clear HM;intro g7 W1 HM)|(refine hal HM rfl ?_;clear HM;intro g1 W1 HM))
  exact bodyPost_ret (res_box_tmp rfl HM.out 1 rfl rfl rfl rfl) rfl ⟨rfl,HM.out.below⟩
 | some x=>
  obtain ⟨tk,gk,go_⟩:=x
  have HFt:=Lib.hid (hform tk ⟨gk,go_⟩ rfl).1
  clear hform
  obtain ⟨v,hv⟩:∃ v,callF (some (tk,⟨gk,go_⟩)) (ts.map ThT.t)=v:=⟨_,rfl⟩
  by_cases hlen:tk.length=ts.length
  ·obtain ⟨m,hm⟩:∃ m,meetsB (ts.map ThT.t) tk=m:=⟨_,rfl⟩
   have HR:=Lib.hid (show v=if m then (⟨gk,go_⟩,0) else (⟨0,0⟩,9) by rw [← hv,← hm];unfold callF;rw [List.length_map];exact if_pos hlen)
   have HI:=Lib.hid (show meetsB ((ts.drop 0).map ThT.t) (tk.drop 0)=m from hm)
   have HL:=Lib.hid hlen
   rw [hv]
   have b1:((tk.length:Int) != ts.length)=false:=by rw [hlen];simp
   clear hv hm hlen
   go_enter Tryz.func118,Tryz.ntmps118
   go_wp2_with (first|(go_at_call 148;(with_reducible refine (HFn.out _).mono ?_);rintro e W2 ⟨q,rfl,hM2⟩;have HM1:=Lib.hid (HM.out.comp hM2);clear HM hM2;simp only [List.cons_append,List.nil_append] at HM1;(try clear W1);rename World=>W1;have HM:=HM1;clear HM1;simp only [TyD.cs])|refine mP ?_|(refine mS ?_;clear HM;intro W1 HM)|(refine hal (dst:=some 4) HM rfl ?_;clear HM;intro g4 W1 HM)|(refine hal (dst:=some 7) HM rfl ?_;clear HM;intro g7 W1 HM)|(refine hal HM rfl ?_;clear HM;intro g1 W1 HM))
   go_loopw [29] (fun iv wr=>∃ i:Nat,iv = .int .i64 i∧i≤ts.length∧Hid (meetsB ((ts.drop i).map ThT.t) (tk.drop i)=m)∧Hid (Mem w wr [.box g7 42 [.int .i64 gk,.int .i64 go_],.row (some ⟨q,0,none⟩) tk.length 42 2 tk.length (tk.flatMap TyD.cs),.box g4 42 [.int .i64 0,.int .i64 0]])) (fun iv _=>ts.length - (intOf iv).toNat)
   case atStart=>exact ⟨0,rfl,by omega,HI,HM⟩
   case round=>
    clear HM
    obtain ⟨i,rfl,hi,HI,HM⟩:=hrel
    by_cases hlt:i < ts.length
    ·obtain ⟨b,rfl,hb⟩:=HS.out.some_at ThT.cs_len (by decide) hlt
     obtain ⟨x,hx⟩:∃ x,ts[i]? = some x:=⟨_,List.getElem?_eq_getElem hlt⟩
     have hlt' : i < tk.length:=by rw [HL.out];exact hlt
     obtain ⟨u,hu⟩:∃ u,tk[i]? = some u:=⟨_,List.getElem?_eq_getElem hlt'⟩
     have hxf:=HF.out x (List.mem_of_getElem? hx)
     have huf:=HFt.out u (List.mem_of_getElem? hu)
     obtain ⟨⟨xk,xo⟩,xq,xn,xc⟩:=x
     obtain ⟨uk,uo⟩:=u
     obtain ⟨z,hz⟩:∃ z,meetB xk xo uk uo=z:=⟨_,rfl⟩
     have E1:=Lib.hid (show Cells w (b.add (i * 3)) [.int .i64 xk,.int .i64 xo,.slice xq xn xc] from hb.elem ThT.cs 3 ThT.cs_len hx)
     have HU:=Lib.hid hu
     have HI2:=Lib.hid (show (z && meetsB ((ts.drop (i + 1)).map ThT.t) (tk.drop (i + 1)))=m by rw [← HI.out,drop_atC hx,drop_atC hu,← hz];rfl)
     have HMt:=Lib.hid (fun W=>hz▸meet_any xk xo uk uo W hxf huf)
     have hlt3:=Lib.hid (show i + 1≤ts.length from hlt)
     have d1:decide ((i:Int) < ts.length)=true:=decide_eq_true (by omega)
     clear hb hx hu hz HI hxf huf
     cases z
     ·have HB:=Lib.hid (show v=(⟨0,0⟩,9) by rw [HR.out,← HI2.out];rfl)
      go_wp2_with (first|((with_reducible refine iat 32 ?_);(refine ixa rfl rfl rfl hlt ?_))|((with_reducible refine iat 33 ?_);(refine ldxW (HM.out.olds E1.out) rfl rfl ?_))|refine mP ?_|(refine mS ?_;clear HM;intro W1 HM)|(refine hal (dst:=some 10) HM rfl ?_;clear HM;intro g10 W1 HM)|(refine hal HM rfl ?_;clear HM;intro g1 W1 HM))
      refine wp_region_mem (by kernel_rfl) (by kernel_rfl) HM.out ?_;intro hNE;(repeat (any_goals (first|((with_reducible refine skip_q ?_ ?_ ?_);(exact rfl);(rotate_left;(exact (hNE.elim fun p=>⟨p.W,p,rfl⟩))))|refine mQ ?_|((with_reducible show wpQuiet _ _ _ _ (Oper.mk _ (Op.call { callee:=Callee.value (Operand.func 56),args:=_,argTypes:=_}) _ _ _ _ :: _) _);(refine qcall HM.out (fun W hC=>HMt.out W) Tryz.func56 rfl rfl rfl ?_))|((with_reducible refine qat 38 ?_);(refine qixa rfl rfl rfl hlt' ?_))|((with_reducible refine qat 39 ?_);(refine qdA (vs:=[.int .i64 uk,.int .i64 uo]) rfl rfl (fun W ⟨q,hq⟩=>hq▸row_el TyD.cs 2 TyD.cs_len (q.mem.get (k:=2) rfl) HU.out) ?_))|go_big_quiet_step (fail)|quiet_step (fail))));clear hNE;refine wpQuiet_nil ?_;intro W1 HM1;replace HM:=Lib.hid HM1;clear HM1
      go_wp2_with (first|refine mP ?_|(refine mS ?_;clear HM;intro W1 HM)|(refine hal HM rfl ?_;clear HM;intro g1 W1 HM))
      exact bodyPost_ret (res_box_tmp rfl HM.out 3 rfl rfl rfl rfl) rfl ⟨by rw [resV_of HB.out];rfl,HM.out.below⟩
     ·have HB:=Lib.hid (show meetsB ((ts.drop (i + 1)).map ThT.t) (tk.drop (i + 1))=m by rw [← HI2.out];rfl)
      go_wp2_with (first|((with_reducible refine iat 32 ?_);(refine ixa rfl rfl rfl hlt ?_))|((with_reducible refine iat 33 ?_);(refine ldxW (HM.out.olds E1.out) rfl rfl ?_))|refine mP ?_|(refine mS ?_;clear HM;intro W1 HM)|(refine hal (dst:=some 10) HM rfl ?_;clear HM;intro g10 W1 HM)|(refine hal HM rfl ?_;clear HM;intro g1 W1 HM))
      refine wp_region_mem (by kernel_rfl) (by kernel_rfl) HM.out ?_;intro hNE;(repeat (any_goals (first|((with_reducible refine skip_q ?_ ?_ ?_);(exact rfl);(rotate_left;(exact (hNE.elim fun p=>⟨p.W,p,rfl⟩))))|refine mQ ?_|((with_reducible show wpQuiet _ _ _ _ (Oper.mk _ (Op.call { callee:=Callee.value (Operand.func 56),args:=_,argTypes:=_}) _ _ _ _ :: _) _);(refine qcall HM.out (fun W hC=>HMt.out W) Tryz.func56 rfl rfl rfl ?_))|((with_reducible refine qat 38 ?_);(refine qixa rfl rfl rfl hlt' ?_))|((with_reducible refine qat 39 ?_);(refine qdA (vs:=[.int .i64 uk,.int .i64 uo]) rfl rfl (fun W ⟨q,hq⟩=>hq▸row_el TyD.cs 2 TyD.cs_len (q.mem.get (k:=2) rfl) HU.out) ?_))|go_big_quiet_step (fail)|quiet_step (fail))));clear hNE;refine wpQuiet_nil ?_;intro W1 HM1;replace HM:=Lib.hid HM1;clear HM1
      go_wp2_with (first|refine mP ?_|(refine mS ?_;clear HM;intro W1 HM)|(refine hal HM rfl ?_;clear HM;intro g1 W1 HM))
      go_roundw
      case rel=>exact ⟨i + 1,by go_num,hlt3.out,HB,Lib.hid (HM.out.sub (.cons _ (.refl _)))⟩
      case measure=>have:=hlt3.out;simp [intOf];omega
    ·obtain rfl:i=ts.length:=by omega
     have HB:=Lib.hid (show v=(⟨gk,go_⟩,0) by rw [HR.out,← HI.out,List.drop_of_length_le (Nat.le_refl _)];rfl)
     have d1:decide ((ts.length:Int) < ts.length)=false:=by simp
     go_wp2_with (first|refine mP ?_|(refine mS ?_;clear HM;intro W1 HM)|(refine hal HM rfl ?_;clear HM;intro g1 W1 HM))
     exact bodyPost_ret (res_box_tmp rfl HM.out 2 rfl rfl rfl rfl) rfl ⟨by rw [resV_of HB.out];rfl,HM.out.below⟩
  ·have HR:=Lib.hid (show v=(⟨0,0⟩,9) by rw [← hv];unfold callF;rw [List.length_map];exact if_neg hlen)
   rw [hv]
   have b1:((tk.length:Int) != ts.length)=true:=by simp;omega
   clear hv hlen
   go_enter Tryz.func118,Tryz.ntmps118
   go_wp2_with (first|(go_at_call 148;(with_reducible refine (HFn.out _).mono ?_);rintro e W2 ⟨q,rfl,hM2⟩;have HM1:=Lib.hid (HM.out.comp hM2);clear HM hM2;simp only [List.cons_append,List.nil_append] at HM1;(try clear W1);rename World=>W1;have HM:=HM1;clear HM1;simp only [TyD.cs])|refine mP ?_|(refine mS ?_;clear HM;intro W1 HM)|(refine hal (dst:=some 4) HM rfl ?_;clear HM;intro g4 W1 HM)|(refine hal (dst:=some 7) HM rfl ?_;clear HM;intro g7 W1 HM)|(refine hal HM rfl ?_;clear HM;intro g1 W1 HM))
   exact bodyPost_ret (res_box_tmp rfl HM.out 2 rfl rfl rfl rfl) rfl ⟨by rw [resV_of HR.out];rfl,HM.out.below⟩
end Go.Proofs.YtheimopjglkgjaaGreatDoor

namespace Go.Proofs.YtheimopjglkgjaaGreatDoor
open Go.RowKit
set_option linter.unusedVariables false
set_option linter.unusedSimpArgs false
set_option maxRecDepth 100000

/-- A list's type. -/
def itemsG:Nat→Int→List TyD→TyD
 | _,k,[]=>⟨5,k⟩
 | i,k,t :: l=>if t.k < 1∨4 < t.k∨(0 < i∧t.k≠k) then ⟨5,0⟩ else itemsG (i + 1) t.k l
def itemsF (l:List TyD):TyD:=itemsG 0 0 l
theorem itemsG_cons (i:Nat) (k:Int) (t:TyD) (l:List TyD):itemsG i k (t :: l)=if t.k < 1∨4 < t.k∨(0 < i∧t.k≠k) then ⟨5,0⟩ else itemsG (i + 1) t.k l:=rfl

theorem list_fin {k:Int} {r:TyD} (h:(⟨5,k⟩:TyD)=r):r.val = .agg #[.int .i64 5,.int .i64 k]:=by rw [← h];rfl
set_option maxHeartbeats 2000000 in
theorem items_any (p:Option Addr) (c:Nat) (ts:List ThT) (w:World) (hS:Sl w p (ts.flatMap ThT.cs)) (hl:ts.length≤4611686018427387904) :
  Calls Tryz.prog 119 #[.slice p ts.length c] w fun e w'=>e = .returned (itemsF (ts.map ThT.t)).val∧Below w.heap.size w w':=by
 have HM:=Lib.hid (Mem.start w)
 obtain ⟨r,hr⟩:∃ r,itemsF (ts.map ThT.t)=r:=⟨_,rfl⟩
 rw [hr]
 have HR:=Lib.hid (show itemsG 0 0 ((ts.drop 0).map ThT.t)=r from hr)
 have HS:=Lib.hid hS
 clear hr hS
 go_enter Tryz.func119,Tryz.ntmps119
 go_wp2_with (first|((with_reducible refine skip_op ?_ ?_);exact rfl)|refine mP ?_|(refine mS ?_;clear HM;intro W1 HM)|(refine hal (dst:=some 2) HM rfl ?_;clear HM;intro g2 W1 HM)|(refine hal HM rfl ?_;clear HM;intro g1 W1 HM))
 go_loopw [8,3] (fun iv kv wr=>∃ (i:Nat) (k:Int),iv = .int .i64 i∧kv = .int .i64 k∧i≤ts.length∧Hid (itemsG i k ((ts.drop i).map ThT.t)=r)∧Hid (Mem w wr [.box g2 42 [.int .i64 0,.int .i64 0]])) (fun iv _ _=>ts.length - (intOf iv).toNat)
 case atStart=>exact ⟨0,0,rfl,rfl,by omega,HR,HM⟩
 case round=>
  clear HM
  obtain ⟨i,k,rfl,rfl,hi,HI,HM⟩:=hrel
  by_cases hlt:i < ts.length
  ·obtain ⟨b,rfl,hb⟩:=HS.out.some_at ThT.cs_len (by decide) hlt
   obtain ⟨x,hx⟩:∃ x,ts[i]? = some x:=⟨_,List.getElem?_eq_getElem hlt⟩
   have E1:=Lib.hid (hb.elem ThT.cs 3 ThT.cs_len hx)
   have HI2:=Lib.hid (show (if x.t.k < 1∨4 < x.t.k∨(0 < i∧x.t.k≠k) then ⟨5,0⟩ else itemsG (i + 1) x.t.k ((ts.drop (i + 1)).map ThT.t))=r by rw [← itemsG_cons,← HI.out,drop_atC hx];rfl)
   have hlt3:=Lib.hid (show i + 1≤ts.length from hlt)
   have d1:decide ((i:Int) < ts.length)=true:=decide_eq_true (by omega)
   obtain ⟨⟨tk,tz⟩,tq,tn,tc⟩:=x
   have E2:=Lib.hid (show Cells w (b.add (i * 3)) [.int .i64 tk,.int .i64 tz,.slice tq tn tc] from E1.out)
   clear hb hx HI E1
   have E1:=E2
   clear E2
   have hc:tk < 1∨(1≤tk∧4 < tk)∨(1≤tk∧tk≤4∧i=0)∨(1≤tk∧tk≤4∧0 < i∧tk≠k)∨(1≤tk∧tk≤4∧0 < i∧tk=k):=by omega
   have HC:=Lib.hid hc
   have hbad:(tk < 1∨4 < tk∨(0 < i∧tk≠k))→Hid ((⟨5,0⟩:TyD)=r):=fun h=>Lib.hid (by rw [← HI2.out,if_pos h])
   have hgood:¬ (tk < 1∨4 < tk∨(0 < i∧tk≠k))→Hid (itemsG (i + 1) tk ((ts.drop (i + 1)).map ThT.t)=r):=fun h=>Lib.hid (by rw [← HI2.out,if_neg h])
   clear hc HI2
   rcases HC.out with h1 | ⟨h1,h2⟩ | ⟨h1,h2,h3⟩ | ⟨h1,h2,h3,h4⟩ | ⟨h1,h2,h3,h4⟩
   ·have HB:=hbad (by omega)
    clear hbad hgood
    go_wp2_with (first|((with_reducible refine skip_op ?_ ?_);exact rfl)|refine mP ?_|(refine mS ?_;clear HM;intro W1 HM)|(refine hal (dst:=some 5) HM rfl ?_;clear HM;intro g5 W1 HM)|(refine hal HM rfl ?_;clear HM;intro g1 W1 HM)|((with_reducible refine iat 11 ?_);(refine ixa rfl rfl rfl hlt ?_))|((with_reducible refine iat 12 ?_);(refine ldxW (HM.out.olds E1.out) rfl rfl ?_))|(go_at_call 149;(with_reducible refine cB HM (clist_any _ _) ?_);clear HM;intro W1 HM))
    exact bodyPost_ret (res_box rfl HM.out 1 rfl rfl rfl) rfl ⟨by rw [list_fin HB.out],HM.out.below⟩
   ·have HB:=hbad (by omega)
    clear hbad hgood
    go_wp2_with (first|((with_reducible refine skip_op ?_ ?_);exact rfl)|refine mP ?_|(refine mS ?_;clear HM;intro W1 HM)|(refine hal (dst:=some 5) HM rfl ?_;clear HM;intro g5 W1 HM)|(refine hal HM rfl ?_;clear HM;intro g1 W1 HM)|((with_reducible refine iat 11 ?_);(refine ixa rfl rfl rfl hlt ?_))|((with_reducible refine iat 12 ?_);(refine ldxW (HM.out.olds E1.out) rfl rfl ?_))|(go_at_call 149;(with_reducible refine cB HM (clist_any _ _) ?_);clear HM;intro W1 HM))
    exact bodyPost_ret (res_box rfl HM.out 1 rfl rfl rfl) rfl ⟨by rw [list_fin HB.out],HM.out.below⟩
   ·subst h3
    have HB:=hgood (by omega)
    clear hbad hgood
    go_wp2_with (first|((with_reducible refine skip_op ?_ ?_);exact rfl)|refine mP ?_|(refine mS ?_;clear HM;intro W1 HM)|(refine hal (dst:=some 5) HM rfl ?_;clear HM;intro g5 W1 HM)|(refine hal HM rfl ?_;clear HM;intro g1 W1 HM)|((with_reducible refine iat 11 ?_);(refine ixa rfl rfl rfl hlt ?_))|((with_reducible refine iat 12 ?_);(refine ldxW (HM.out.olds E1.out) rfl rfl ?_))|(go_at_call 149;(with_reducible refine cB HM (clist_any _ _) ?_);clear HM;intro W1 HM))
    go_roundw
    case rel=>exact ⟨1,tk,rfl,rfl,hlt3.out,HB,Lib.hid (HM.out.sub (List.sublist_cons_self _ _))⟩
    case measure=>have:=hlt3.out;simp [intOf];omega
   ·have HB:=hbad (by omega)
    have b1:(tk != k)=true:=by simpa using h4
    have d2:decide ((0:Int) < i)=true:=decide_eq_true (by omega)
    clear hbad hgood h4
    go_wp2_with (first|((with_reducible refine skip_op ?_ ?_);exact rfl)|refine mP ?_|(refine mS ?_;clear HM;intro W1 HM)|(refine hal (dst:=some 5) HM rfl ?_;clear HM;intro g5 W1 HM)|(refine hal HM rfl ?_;clear HM;intro g1 W1 HM)|((with_reducible refine iat 11 ?_);(refine ixa rfl rfl rfl hlt ?_))|((with_reducible refine iat 12 ?_);(refine ldxW (HM.out.olds E1.out) rfl rfl ?_))|(go_at_call 149;(with_reducible refine cB HM (clist_any _ _) ?_);clear HM;intro W1 HM))
    exact bodyPost_ret (res_box rfl HM.out 1 rfl rfl rfl) rfl ⟨by rw [list_fin HB.out],HM.out.below⟩
   ·have HB:=hgood (by omega)
    have b1:(tk != k)=false:=by simpa using h4
    have d2:decide ((0:Int) < i)=true:=decide_eq_true (by omega)
    clear hbad hgood h4
    go_wp2_with (first|((with_reducible refine skip_op ?_ ?_);exact rfl)|refine mP ?_|(refine mS ?_;clear HM;intro W1 HM)|(refine hal (dst:=some 5) HM rfl ?_;clear HM;intro g5 W1 HM)|(refine hal HM rfl ?_;clear HM;intro g1 W1 HM)|((with_reducible refine iat 11 ?_);(refine ixa rfl rfl rfl hlt ?_))|((with_reducible refine iat 12 ?_);(refine ldxW (HM.out.olds E1.out) rfl rfl ?_))|(go_at_call 149;(with_reducible refine cB HM (clist_any _ _) ?_);clear HM;intro W1 HM))
    go_roundw
    case rel=>exact ⟨i + 1,tk,by go_num,rfl,hlt3.out,HB,Lib.hid (HM.out.sub (List.sublist_cons_self _ _))⟩
    case measure=>have:=hlt3.out;simp [intOf];omega
  ·obtain rfl:i=ts.length:=by omega
   have HB:=Lib.hid (show (⟨5,k⟩:TyD)=r by rw [← HI.out,List.drop_of_length_le (Nat.le_refl _)];rfl)
   have d1:decide ((ts.length:Int) < ts.length)=false:=by simp
   go_wp2_with (first|((with_reducible refine skip_op ?_ ?_);exact rfl)|refine mP ?_|(refine mS ?_;clear HM;intro W1 HM)|(refine hal (dst:=some 5) HM rfl ?_;clear HM;intro g5 W1 HM)|(refine hal HM rfl ?_;clear HM;intro g1 W1 HM)|(go_at_call 149;(with_reducible refine cB HM (clist_any _ _) ?_);clear HM;intro W1 HM))
   exact bodyPost_ret (res_box rfl HM.out 0 rfl rfl rfl) rfl ⟨by rw [list_fin HB.out],HM.out.below⟩
end Go.Proofs.YtheimopjglkgjaaGreatDoor
