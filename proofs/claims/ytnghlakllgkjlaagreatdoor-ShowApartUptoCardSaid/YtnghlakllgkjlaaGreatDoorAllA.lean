/- The reader of expressions: all rules, by one induction on the fuel. The deferred function of expr.read: it takes the reader's panic up. expr.read, Parse, Tests: what they answer. -/
import Derived.Test.YtnghlakllgkjlaaGreatDoorRdB
import Derived.Test.YtnghlakllgkjlaaGreatDoorRdC
import Derived.Test.YtnghlakllgkjlaaGreatDoorRdD
import Derived.Test.YtnghlakllgkjlaaGreatDoorExprRd9
import Derived.Defers
import Derived.Recover
import Derived.Test.YtnghlakllgkjlaaGreatDoorExprCheck
import Derived.Test.YtnghlakllgkjlaaGreatDoorLexRead
namespace Go.Proofs.YtnghlakllgkjlaaGreatDoor
open Go.RowKit
set_option linter.unusedVariables false
structure XAll (T:List TokD) (g:Nat):Prop where
 expr:XC T 186 .expr g
 or:XC T 229 .or g
 and:XC T 261 .and g
 cmp:XC T 283 .cmp g
 sum:XC T 280 .sum g
 prod:XC T 299 .prod g
 sgn:XC T 309 .sgn g
 sing:XC T 310 .sing g
 grp:XC T 226 .grp g
 tests:XC T 227 .tests g
 test:XC T 260 .test g
theorem xc_zero (T:List TokD) (f:FuncId) (N:NT):XC T f N 0:=fun _ _ _ _ _ _ _ _ _ _ _ _ _ _ hne=>absurd rfl hne
theorem xAll {T:List TokD} (hT:TksOk T) (hK:KndOk T):∀ f g,g≤f→XAll T g:=by
 intro f
 induction f with
 | zero=>
  intro g hg
  obtain rfl:g=0:=by omega
  exact ⟨xc_zero _ _ _,xc_zero _ _ _,xc_zero _ _ _,xc_zero _ _ _,xc_zero _ _ _,xc_zero _ _ _,xc_zero _ _ _,xc_zero _ _ _,xc_zero _ _ _,xc_zero _ _ _,xc_zero _ _ _⟩
 | succ f ih=>
  intro g hg
  by_cases h:g≤f
  ·exact ih g h
  ·obtain rfl:g=f + 1:=by omega
   exact ⟨xExpr hT f (fun g h=>(ih g h).expr) (fun g h=>(ih g h).or),xOr hT f (fun g h=>(ih g h).and),xAnd hT f (fun g h=>(ih g h).cmp),xCmp hT f (fun g h=>(ih g h).sum) (fun g h=>(ih g h).grp),xSum hT f (fun g h=>(ih g h).prod),xProd hT f (fun g h=>(ih g h).sgn),xSigned hT f (fun g h=>(ih g h).sing),xSingle hT hK f (fun g h=>(ih g h).expr),xGroup hT f (fun g h=>(ih g h).tests),xTests hT f (fun g h=>(ih g h).test),xTest hT f (fun g h=>(ih g h).sum)⟩
theorem xTop {T:List TokD} (hT:TksOk T) (hK:KndOk T) (tests:Bool) (w0 W:World) (R:Nat) (tp:Option Addr) (tc:Nat) (op:Option Addr) (oc:Nat) (rest:List Res) (HTk:Sl w0 tp (T.flatMap TokD.cs)) (HM0:Mem w0 W (.box R 231 [.slice tp T.length tc,.int .i64 0,.slice op 0 oc] :: .row op oc 46 8 0 [] :: rest)) :
  Calls Tryz.prog (if tests then 185 else 186) #[.pointer (some ⟨R,0,none⟩)] W (XPost (topG T tests) unitV w0 R tp T.length tc [] rest):=by
 have hne:=topG_out T tests
 unfold topG topN at hne ⊢
 cases tests with
 | true=>exact xUnary hT _ (fun g h=>(xAll hT hK _ g h).grp) (fun g h=>(xAll hT hK _ g h).tests) w0 W R tp tc op oc [] rest HTk HM0 (Nat.zero_le _) hne
 | false=>exact (xAll hT hK _ _ (Nat.le_refl _)).expr w0 W R tp tc 0 op oc [] rest HTk HM0 (Nat.zero_le _) (Nat.zero_le _) hne
set_option linter.unusedSimpArgs false
set_option maxRecDepth 100000
theorem recIdle (p q:Option Addr) (W:World) :
  CallsD Tryz.prog 184 #[.pointer p,.pointer q] .returning W fun e u' w'=>e = .returned (.tuple #[])∧u' = .returning∧w' = W:=by
 refine callsD_of_wpS Tryz.func184 rfl fun c₀ cs hu=>?_
 apply wpS_seq
 apply wpS_region
 simp [wpOpsS,go_sem,recoverD,hu,Tryz.ntmps184,Exit.thenS]
 apply wpS_seq
 apply wpS_region
 simp [wpOpsS,go_sem,Exit.thenS]
 refine wpS_cond (t:=false) (by simp [Act.eval,Array.replicate]) ?_
 simp only [Bool.false_eq_true,if_false]
 refine wpS_of_wp (wp_skip ?_)
 cases c₀
 simp_all [bodyPostS,results,Tryz.results184]
set_option maxHeartbeats 4000000 in
theorem recPanic (g4 g5:Nat) (a b:Value) (L:List Res) (older:List PanicEntry) (w0 W:World) (HM:Mem w0 W (.box g4 42 [a] :: .box g5 32 [b] :: L)) :
  CallsD Tryz.prog 184 #[.pointer (some ⟨g4,0,none⟩),.pointer (some ⟨g5,0,none⟩)] (.panicking ({ v:=.iface 227 (.agg #[]),recovered:=false} :: older)) W fun e u' w'=>e = .returned (.tuple #[])∧u' = .panicking ({ v:=.iface 227 (.agg #[]),recovered:=true} :: older)∧Mem w0 w' (.box g4 42 [.slice none 0 0] :: .box g5 32 [.int .i64 5] :: L):=by
 have hta:∀ W:World,(Instr.typeAssert (.iface 227 (.agg #[])) 20 227 true).run Tryz.prog W = .ok (.tuple #[.agg #[],.bool true]) W:=fun W=>by kernel_rfl
 refine callsD_of_wpS Tryz.func184 rfl fun c₀ cs hu=>?_
 rw [show (#[Value.pointer (some ⟨g4,0,none⟩),Value.pointer (some ⟨g5,0,none⟩)]++Array.replicate (Tryz.f184.ntmps - (#[Value.pointer (some ⟨g4,0,none⟩),Value.pointer (some ⟨g5,0,none⟩)]:Array Value).size) undef:Array Value)=#[Value.pointer (some ⟨g4,0,none⟩),Value.pointer (some ⟨g5,0,none⟩),undef,undef,undef,undef,undef,undef,undef,undef,undef,undef,undef,undef,undef,undef] by kernel_rfl]
 apply wpS_seq
 apply wpS_region
 simp [wpOpsS,go_sem,recoverD,hu,Exit.thenS]
 refine wpS_of_wp ?_
 have HM1:=Lib.hid HM
 clear HM
 have HM:=HM1
 clear HM1
 go_wp2_with (first|refine mP ?_|(refine mS ?_;clear HM;intro W1 HM)|((with_reducible refine ibuildSlice ?_);(first|refine bs0 rfl HM.out ?_|refine bs1c (v:=.bool _) rfl HM.out rfl rfl ?_|refine bs1c (v:=.int _ _) rfl HM.out rfl rfl ?_|refine bs1c (v:=.map _) rfl HM.out rfl rfl ?_|refine bs1c (v:=.pointer _) rfl HM.out rfl rfl ?_|refine bs1c (v:=.slice _ _ _) rfl HM.out rfl rfl ?_|refine bs1c (v:=.string _) rfl HM.out rfl rfl ?_|refine bs1A rfl HM.out rfl rfl rfl ?_);intro g1 W1 HM1;replace HM:=Lib.hid HM1;clear HM1)|(refine hal (dst:=some 3) HM rfl ?_;clear HM;intro g3 W1 HM)|((with_reducible refine ibox (d:=some 3) ?_);(first|refine bxA rfl HM.out rfl ?_|refine bx1 (v:=.int _ _) rfl HM.out rfl rfl ?_|refine bx1 (v:=.bool _) rfl HM.out rfl rfl ?_|refine bx1 (v:=.string _) rfl HM.out rfl rfl ?_|refine bx1 (v:=.slice _ _ _) rfl HM.out rfl rfl ?_|refine bx1 (v:=.pointer _) rfl HM.out rfl rfl ?_|refine bx1 (v:=.map _) rfl HM.out rfl rfl ?_);intro g3 W1 HM1;replace HM:=Lib.hid HM1;clear HM1)|(refine hal HM rfl ?_;clear HM;intro g1 W1 HM)|((with_reducible refine ibox ?_);(first|refine bxA rfl HM.out rfl ?_|refine bx1 (v:=.int _ _) rfl HM.out rfl rfl ?_|refine bx1 (v:=.bool _) rfl HM.out rfl rfl ?_|refine bx1 (v:=.string _) rfl HM.out rfl rfl ?_|refine bx1 (v:=.slice _ _ _) rfl HM.out rfl rfl ?_|refine bx1 (v:=.pointer _) rfl HM.out rfl rfl ?_|refine bx1 (v:=.map _) rfl HM.out rfl rfl ?_);intro g1 W1 HM1;replace HM:=Lib.hid HM1;clear HM1))
 exact ⟨rfl,_,rfl,_,results_none rfl _ _ _,rfl,rfl,HM.out.sub (.cons _ (.refl _))⟩
theorem Mem.fresh {w0 W:World} {L:List Res} (h:Mem w0 W L):Mem W W []:=Mem.start W
theorem res_c1_c1 {P:Program} {fn:Func} {d u:Tmp} {ty ty2:TypeId} [hC:CellT P ty] [hC2:CellT P ty2] {w0 W:World} {L:List Res} (h:fn.results=#[.cell d ty,.cell u ty2]) {tmps:Array Value} (HM:Mem w0 W L) (k k2:Nat) {g g2:Nat} {t t2:TypeId} {a b:Value} (hk:L[k]? = some (.box g t [a])) (hk2:L[k2]? = some (.box g2 t2 [b])) (hd:tmps.getD d undef = .pointer (some ⟨g,0,none⟩)) (hu:tmps.getD u undef = .pointer (some ⟨g2,0,none⟩)) :
  (results fn tmps).run P W = .ok (.tuple #[a,b]) W:=by
 have hd' : tmps[d]?.getD undef = .pointer (some ⟨g,0,none⟩):=by simpa using hd
 have hu' : tmps[u]?.getD undef = .pointer (some ⟨g2,0,none⟩):=by simpa using hu
 have c1:W.cell? ⟨g,0,none⟩=some a:=by have:=box_cells (HM.get hk) 0 0 a rfl;rwa [add_none] at this
 have c2:W.cell? ⟨g2,0,none⟩=some b:=by have:=box_cells (HM.get hk2) 0 0 b rfl;rwa [add_none] at this
 simp [results,h,hd',hu',asAddr,run_load_cell hC c1,run_load_cell hC2 c2]
def NPost (r:List NodeD × Int) (w:World) (e:Ending) (w' : World):Prop:=∃ (p:Option Addr) (oc:Nat),e = .returned (.tuple #[.slice p r.1.length oc,.int .i64 r.2])∧Mem w w' [.row p oc 46 8 r.1.length (r.1.flatMap NodeD.cs)]
theorem top_use {T:List TokD} (hT:TksOk T) (hK:KndOk T) {tests:Bool} {w0 W:World} {R:Nat} {tp:Option Addr} {tc:Nat} {f:FuncId} {K:Ending→World→Prop} (hf:(if tests then 185 else 186)=f) (HTk:Sl w0 tp (T.flatMap TokD.cs)) (HM:Mem w0 W [.box R 231 [.slice tp T.length tc,.int .i64 0,.slice none 0 0]])
  (hno:topG T tests = .no→∀ W',Below w0.heap.size w0 W'→K faultE W')
  (hok:∀ (l:List NodeD) (m j:Nat),topG T tests = .ok l m j→∀ (op:Option Addr) (oc:Nat) (W' : World),Mem w0 W' [.box R 231 [.slice tp T.length tc,.int .i64 j,.slice op l.length oc],.row op oc 46 8 l.length (l.flatMap NodeD.cs)]→K (.returned (.tuple #[])) W') :
  Calls Tryz.prog f #[.pointer (some ⟨R,0,none⟩)] W K:=by
 subst hf
 refine (xTop hT hK tests w0 W R tp tc none 0 [] HTk ((HM.row0 46 8).perm (List.Perm.swap _ _ _))).mono fun e W' hp=>?_
 cases hg:topG T tests with
 | out=>exact absurd hg (topG_out T tests)
 | no=>
  rw [hg] at hp
  obtain ⟨rfl,hb⟩:=hp
  exact hno hg W' hb
 | ok l m j=>
  rw [hg] at hp
  obtain ⟨op',oc',rfl,hM⟩:=hp
  exact hok l m j hg op' oc' W' hM
def readD (g4 g5:Nat):List Deferred:=[{ target:=.fn (.func 184) #[.pointer (some ⟨g4,0,none⟩),.pointer (some ⟨g5,0,none⟩)],args:=#[]}]
theorem read_panic {s:ByteArray} {tests:Bool} {w W:World} {g4 g5:Nat} {a b:Value} {R:Res} {tmps:Array Value} (HM:Mem w W [R,.box g5 32 [b],.box g4 42 [a]]) (h4:tmps.getD 4 undef = .pointer (some ⟨g4,0,none⟩)) (h5:tmps.getD 5 undef = .pointer (some ⟨g5,0,none⟩)) (hv:parseF s tests=([],5)) :
  Leaves Tryz.prog Tryz.f129 tmps (NPost (parseF s tests) w) (readD g4 g5) (.panicking [{ v:=.iface 227 (.agg #[]),recovered:=false}]) W:=by
 refine leaves_cons (f:=184) (args:=#[.pointer (some ⟨g4,0,none⟩),.pointer (some ⟨g5,0,none⟩)]) (by simp) (by simp [go_sem]) ?_
 refine (recPanic g4 g5 a b [R] [] w W (HM.perm (List.reverse_perm [R,.box g5 32 [b],.box g4 42 [a]]).symm)).mono ?_
 rintro e u W2 ⟨rfl,rfl,hM⟩
 show Leaves _ _ _ _ [] (settle (.panicking [{ v:=.iface 227 (.agg #[]),recovered:=true}])) W2
 refine ⟨_,res_c1_c1 rfl hM 0 1 rfl rfl h4 h5,?_⟩
 rw [hv]
 exact ⟨none,0,rfl,(hM.sub (List.nil_sublist _)).row0 _ _⟩
theorem read_leave {r:List NodeD × Int} {w W:World} {g4 g5:Nat} {p:Option Addr} {oc:Nat} {L:List Res} {tmps:Array Value} (HM:Mem w W L) (k4 k5:Nat) (hk4:L[k4]? = some (.box g4 42 [.slice p r.1.length oc])) (hk5:L[k5]? = some (.box g5 32 [.int .i64 r.2])) (h4:tmps.getD 4 undef = .pointer (some ⟨g4,0,none⟩)) (h5:tmps.getD 5 undef = .pointer (some ⟨g5,0,none⟩)) (hM:Mem w W [.row p oc 46 8 r.1.length (r.1.flatMap NodeD.cs)]) :
  Leaves Tryz.prog Tryz.f129 tmps (NPost r w) [] .returning W:=
 ⟨_,res_c1_c1 rfl HM k4 k5 hk4 hk5 h4 h5,p,oc,rfl,hM⟩
theorem read_idle {r:List NodeD × Int} {w W:World} {g4 g5:Nat} {tmps:Array Value} (h:Leaves Tryz.prog Tryz.f129 tmps (NPost r w) [] .returning W) :
  Leaves Tryz.prog Tryz.f129 tmps (NPost r w) (readD g4 g5) .returning W:=by
 refine leaves_cons (f:=184) (args:=#[.pointer (some ⟨g4,0,none⟩),.pointer (some ⟨g5,0,none⟩)]) (by simp) (by simp [go_sem]) ?_
 refine (recIdle _ _ _).mono ?_
 rintro e u W2 ⟨rfl,rfl,rfl⟩
 exact h
set_option maxHeartbeats 16000000 in
theorem read_any (s:ByteArray) (tests:Bool) (w:World) (hU:U8 w):Calls Tryz.prog 129 #[.string s,.bool tests] w (NPost (parseF s tests) w):=by
 have HM:=Lib.hid (Mem.start w)
 have HU:=Lib.hid hU
 have HA:=Lib.hid (fun W h=>lexRead_any s W h)
 unfold LexPost at HA
 have hTk:=lexF_tks s
 have hKn:=lexF_knd s
 have HP:=Lib.hid (show parseF s tests=if (lexF s).2=0 then topF (lexF s).1 tests else ([],(lexF s).2) from rfl)
 obtain ⟨⟨T,er⟩,hr⟩:∃ x,lexF s=x:=⟨_,rfl⟩
 simp only [hr] at HA hTk hKn HP
 have hmf:∀ (fn:Fn) (first cap:Array Value) (w:World),(Instr.makeFunc fn first cap).run Tryz.prog w = .ok (.func fn first cap) w:=fun _ _ _ _=>rfl
 clear hU hr
 by_cases h0:er=0
 ·subst h0
  rw [if_pos rfl] at HP
  cases tests with
  | true=>
   go_enter_defers Tryz.func129,Tryz.ntmps129
   go_wp2_with (first|(go_at_call 183;(with_reducible refine (HA.out _ (U8.below HU.out HM.out.below)).mono ?_);rintro e W2 ⟨tp,tc,rfl,hM2⟩;have HM1:=Lib.hid (HM.out.comp2 hM2);clear HM hM2;(try clear W1);rename World=>W1;have HM:=HM1;clear HM1;simp only [List.cons_append,List.nil_append] at HM)|((with_reducible refine iat 20 ?_);(have HM0:=HM;clear HM;have HM:=Lib.hid HM0.out.fresh;refine bxA rfl HM.out rfl ?_;intro g20 W1 HM1;replace HM:=Lib.hid HM1;clear HM1))|(go_at_call 185;refine top_use (tests:=true) hTk hKn rfl (row_sl (HM0.out.get (k:=0) rfl)) HM.out (fun hno W2 hb=>(show Leaves _ _ _ _ _ _ _ from read_panic (HM0.out.next hb) rfl rfl (by rw [HP.out];unfold topF;rw [hno]))) ?_;intro l m j hg op1 oc1 W2 hM2;replace HM:=Lib.hid hM2;clear hM2;obtain ⟨hj1,hl1,hnk⟩:=topG_ok hTk hg;have HC:=Lib.hid (fun W (h:Sl W op1 (l.flatMap NodeD.cs)) hu=>eCheck_any op1 oc1 l true W h (fun i n hn=>(hnk n (List.mem_of_getElem? hn)).wf) (by have:=hTk.len;omega) hu);obtain ⟨c,hc⟩:∃ c,checkC l true=c:=⟨_,rfl⟩;simp only [hc] at HC;have hv:topF T true=(if j=T.length then (if c=0 then (l,0) else ([],c)) else ([],5)):=(by unfold topF;rw [hg];simp only [hc]);clear hg hc hnk;(by_cases hj:j=T.length);(by_cases hc0:c=0);all_goals ((first|have HV:=Lib.hid (show parseF s true=(l,0) by rw [HP.out,hv,if_pos hj,if_pos hc0])|have HV:=Lib.hid (show parseF s true=([],c) by rw [HP.out,hv,if_pos hj,if_neg hc0])|have HV:=Lib.hid (show parseF s true=([],5) by rw [HP.out,hv,if_neg hj]));(first|have d1:decide ((j:Int) < T.length)=false:=decide_eq_false (by omega)|have d1:decide ((j:Int) < T.length)=true:=decide_eq_true (by omega));(first|have d2:decide (j < T.length)=false:=decide_eq_false (by omega)|have d2:decide (j < T.length)=true:=decide_eq_true (by omega));(try (have q1:(c != 0)=false:=(by rw [hc0];rfl)));(try (have q1:(c != 0)=true:=(by simpa using hc0)));(try clear hc0);clear hv hj))|(go_at_call 34;(with_reducible refine (HC.out _ (row_sl (HM.out.get (k:=1) rfl)) (U8.below HU.out (HM0.out.comp2 HM.out).below)).mono ?_);rintro e W2 ⟨rfl,hb⟩;have HM1:=Lib.hid (HM0.out.comp2 (HM.out.next hb));clear hb HM HM0;(try clear W1);rename World=>W1;have HM:=HM1;clear HM1;simp only [List.cons_append,List.nil_append] at HM)|(go_at_call 187;(with_reducible refine (xFail _).mono ?_);rintro e W2 ⟨rfl,rfl⟩;unfold faultE)|((with_reducible refine skip_op ?_ ?_);exact rfl)|refine mP ?_|(refine mS ?_;clear HM;intro W1 HM)|((with_reducible refine ibuildSlice ?_);(first|refine bs0 rfl HM.out ?_|refine bs1c (v:=.bool _) rfl HM.out rfl rfl ?_|refine bs1c (v:=.int _ _) rfl HM.out rfl rfl ?_|refine bs1c (v:=.map _) rfl HM.out rfl rfl ?_|refine bs1c (v:=.pointer _) rfl HM.out rfl rfl ?_|refine bs1c (v:=.slice _ _ _) rfl HM.out rfl rfl ?_|refine bs1c (v:=.string _) rfl HM.out rfl rfl ?_|refine bs1A rfl HM.out rfl rfl rfl ?_);intro g1 W1 HM1;replace HM:=Lib.hid HM1;clear HM1)|(refine hal (dst:=some 4) HM rfl ?_;clear HM;intro g4 W1 HM)|((with_reducible refine ibox (d:=some 4) ?_);(first|refine bxA rfl HM.out rfl ?_|refine bx1 (v:=.int _ _) rfl HM.out rfl rfl ?_|refine bx1 (v:=.bool _) rfl HM.out rfl rfl ?_|refine bx1 (v:=.string _) rfl HM.out rfl rfl ?_|refine bx1 (v:=.slice _ _ _) rfl HM.out rfl rfl ?_|refine bx1 (v:=.pointer _) rfl HM.out rfl rfl ?_|refine bx1 (v:=.map _) rfl HM.out rfl rfl ?_);intro g4 W1 HM1;replace HM:=Lib.hid HM1;clear HM1)|(refine hal (dst:=some 5) HM rfl ?_;clear HM;intro g5 W1 HM)|((with_reducible refine ibox (d:=some 5) ?_);(first|refine bxA rfl HM.out rfl ?_|refine bx1 (v:=.int _ _) rfl HM.out rfl rfl ?_|refine bx1 (v:=.bool _) rfl HM.out rfl rfl ?_|refine bx1 (v:=.string _) rfl HM.out rfl rfl ?_|refine bx1 (v:=.slice _ _ _) rfl HM.out rfl rfl ?_|refine bx1 (v:=.pointer _) rfl HM.out rfl rfl ?_|refine bx1 (v:=.map _) rfl HM.out rfl rfl ?_);intro g5 W1 HM1;replace HM:=Lib.hid HM1;clear HM1)|(refine hal HM rfl ?_;clear HM;intro g1 W1 HM)|((with_reducible refine ibox ?_);(first|refine bxA rfl HM.out rfl ?_|refine bx1 (v:=.int _ _) rfl HM.out rfl rfl ?_|refine bx1 (v:=.bool _) rfl HM.out rfl rfl ?_|refine bx1 (v:=.string _) rfl HM.out rfl rfl ?_|refine bx1 (v:=.slice _ _ _) rfl HM.out rfl rfl ?_|refine bx1 (v:=.pointer _) rfl HM.out rfl rfl ?_|refine bx1 (v:=.map _) rfl HM.out rfl rfl ?_);intro g1 W1 HM1;replace HM:=Lib.hid HM1;clear HM1))
   ·rw [HV.out]
    exact read_idle (read_leave (r:=(l,0)) HM.out 4 3 rfl rfl rfl rfl (HM.out.sub (.cons _ (.cons_cons _ (List.nil_sublist _)))))
   ·rw [HV.out]
    exact read_idle (read_leave (r:=([],c)) (p:=none) (oc:=0) HM.out 4 3 rfl rfl rfl rfl ((HM.out.sub (List.nil_sublist _)).row0 _ _))
   ·exact read_panic (HM0.out.next HM.out.below) rfl rfl HV.out
  | false=>
   go_enter_defers Tryz.func129,Tryz.ntmps129
   go_wp2_with (first|(go_at_call 183;(with_reducible refine (HA.out _ (U8.below HU.out HM.out.below)).mono ?_);rintro e W2 ⟨tp,tc,rfl,hM2⟩;have HM1:=Lib.hid (HM.out.comp2 hM2);clear HM hM2;(try clear W1);rename World=>W1;have HM:=HM1;clear HM1;simp only [List.cons_append,List.nil_append] at HM)|((with_reducible refine iat 20 ?_);(have HM0:=HM;clear HM;have HM:=Lib.hid HM0.out.fresh;refine bxA rfl HM.out rfl ?_;intro g20 W1 HM1;replace HM:=Lib.hid HM1;clear HM1))|(go_at_call 186;refine top_use (tests:=false) hTk hKn rfl (row_sl (HM0.out.get (k:=0) rfl)) HM.out (fun hno W2 hb=>(show Leaves _ _ _ _ _ _ _ from read_panic (HM0.out.next hb) rfl rfl (by rw [HP.out];unfold topF;rw [hno]))) ?_;intro l m j hg op1 oc1 W2 hM2;replace HM:=Lib.hid hM2;clear hM2;obtain ⟨hj1,hl1,hnk⟩:=topG_ok hTk hg;have HC:=Lib.hid (fun W (h:Sl W op1 (l.flatMap NodeD.cs)) hu=>eCheck_any op1 oc1 l false W h (fun i n hn=>(hnk n (List.mem_of_getElem? hn)).wf) (by have:=hTk.len;omega) hu);obtain ⟨c,hc⟩:∃ c,checkC l false=c:=⟨_,rfl⟩;simp only [hc] at HC;have hv:topF T false=(if j=T.length then (if c=0 then (l,0) else ([],c)) else ([],5)):=(by unfold topF;rw [hg];simp only [hc]);clear hg hc hnk;(by_cases hj:j=T.length);(by_cases hc0:c=0);all_goals ((first|have HV:=Lib.hid (show parseF s false=(l,0) by rw [HP.out,hv,if_pos hj,if_pos hc0])|have HV:=Lib.hid (show parseF s false=([],c) by rw [HP.out,hv,if_pos hj,if_neg hc0])|have HV:=Lib.hid (show parseF s false=([],5) by rw [HP.out,hv,if_neg hj]));(first|have d1:decide ((j:Int) < T.length)=false:=decide_eq_false (by omega)|have d1:decide ((j:Int) < T.length)=true:=decide_eq_true (by omega));(first|have d2:decide (j < T.length)=false:=decide_eq_false (by omega)|have d2:decide (j < T.length)=true:=decide_eq_true (by omega));(try (have q1:(c != 0)=false:=(by rw [hc0];rfl)));(try (have q1:(c != 0)=true:=(by simpa using hc0)));(try clear hc0);clear hv hj))|(go_at_call 34;(with_reducible refine (HC.out _ (row_sl (HM.out.get (k:=1) rfl)) (U8.below HU.out (HM0.out.comp2 HM.out).below)).mono ?_);rintro e W2 ⟨rfl,hb⟩;have HM1:=Lib.hid (HM0.out.comp2 (HM.out.next hb));clear hb HM HM0;(try clear W1);rename World=>W1;have HM:=HM1;clear HM1;simp only [List.cons_append,List.nil_append] at HM)|(go_at_call 187;(with_reducible refine (xFail _).mono ?_);rintro e W2 ⟨rfl,rfl⟩;unfold faultE)|((with_reducible refine skip_op ?_ ?_);exact rfl)|refine mP ?_|(refine mS ?_;clear HM;intro W1 HM)|((with_reducible refine ibuildSlice ?_);(first|refine bs0 rfl HM.out ?_|refine bs1c (v:=.bool _) rfl HM.out rfl rfl ?_|refine bs1c (v:=.int _ _) rfl HM.out rfl rfl ?_|refine bs1c (v:=.map _) rfl HM.out rfl rfl ?_|refine bs1c (v:=.pointer _) rfl HM.out rfl rfl ?_|refine bs1c (v:=.slice _ _ _) rfl HM.out rfl rfl ?_|refine bs1c (v:=.string _) rfl HM.out rfl rfl ?_|refine bs1A rfl HM.out rfl rfl rfl ?_);intro g1 W1 HM1;replace HM:=Lib.hid HM1;clear HM1)|(refine hal (dst:=some 4) HM rfl ?_;clear HM;intro g4 W1 HM)|((with_reducible refine ibox (d:=some 4) ?_);(first|refine bxA rfl HM.out rfl ?_|refine bx1 (v:=.int _ _) rfl HM.out rfl rfl ?_|refine bx1 (v:=.bool _) rfl HM.out rfl rfl ?_|refine bx1 (v:=.string _) rfl HM.out rfl rfl ?_|refine bx1 (v:=.slice _ _ _) rfl HM.out rfl rfl ?_|refine bx1 (v:=.pointer _) rfl HM.out rfl rfl ?_|refine bx1 (v:=.map _) rfl HM.out rfl rfl ?_);intro g4 W1 HM1;replace HM:=Lib.hid HM1;clear HM1)|(refine hal (dst:=some 5) HM rfl ?_;clear HM;intro g5 W1 HM)|((with_reducible refine ibox (d:=some 5) ?_);(first|refine bxA rfl HM.out rfl ?_|refine bx1 (v:=.int _ _) rfl HM.out rfl rfl ?_|refine bx1 (v:=.bool _) rfl HM.out rfl rfl ?_|refine bx1 (v:=.string _) rfl HM.out rfl rfl ?_|refine bx1 (v:=.slice _ _ _) rfl HM.out rfl rfl ?_|refine bx1 (v:=.pointer _) rfl HM.out rfl rfl ?_|refine bx1 (v:=.map _) rfl HM.out rfl rfl ?_);intro g5 W1 HM1;replace HM:=Lib.hid HM1;clear HM1)|(refine hal HM rfl ?_;clear HM;intro g1 W1 HM)|((with_reducible refine ibox ?_);(first|refine bxA rfl HM.out rfl ?_|refine bx1 (v:=.int _ _) rfl HM.out rfl rfl ?_|refine bx1 (v:=.bool _) rfl HM.out rfl rfl ?_|refine bx1 (v:=.string _) rfl HM.out rfl rfl ?_|refine bx1 (v:=.slice _ _ _) rfl HM.out rfl rfl ?_|refine bx1 (v:=.pointer _) rfl HM.out rfl rfl ?_|refine bx1 (v:=.map _) rfl HM.out rfl rfl ?_);intro g1 W1 HM1;replace HM:=Lib.hid HM1;clear HM1))
   ·rw [HV.out]
    exact read_idle (read_leave (r:=(l,0)) HM.out 4 3 rfl rfl rfl rfl (HM.out.sub (.cons _ (.cons_cons _ (List.nil_sublist _)))))
   ·rw [HV.out]
    exact read_idle (read_leave (r:=([],c)) (p:=none) (oc:=0) HM.out 4 3 rfl rfl rfl rfl ((HM.out.sub (List.nil_sublist _)).row0 _ _))
   ·exact read_panic (HM0.out.next HM.out.below) rfl rfl HV.out
 ·rw [if_neg h0] at HP
  have q1:(er != 0)=true:=by simpa using h0
  go_enter Tryz.func129,Tryz.ntmps129
  go_wp2_with (first|(go_at_call 183;(with_reducible refine (HA.out _ (U8.below HU.out HM.out.below)).mono ?_);rintro e W2 ⟨tp,tc,rfl,hM2⟩;have HM1:=Lib.hid (HM.out.comp2 hM2);clear HM hM2;(try clear W1);rename World=>W1;have HM:=HM1;clear HM1;simp only [List.cons_append,List.nil_append] at HM)|refine mP ?_|(refine mS ?_;clear HM;intro W1 HM)|(refine hal (dst:=some 4) HM rfl ?_;clear HM;intro g4 W1 HM)|(refine hal (dst:=some 5) HM rfl ?_;clear HM;intro g5 W1 HM)|(refine hbxA HM rfl rfl ?_;clear HM;intro g1 W1 HM))
  refine wp_region_mem3 2 [(0,0),(2,1),(3,2)] (by kernel_rfl) (by kernel_rfl) rfl (by kernel_rfl) (fun _ _ _ _ _ h=>h) HM.out _ (.cons_cons _ (.cons_cons _ (.cons _ (List.nil_sublist _)))) ?_
  intro hNE W1 HM1;replace HM:=Lib.hid HM1;clear HM1
  have HS0:=Lib.hid (HM.out.sub (.cons_cons _ (.cons_cons _ (.cons _ (List.nil_sublist _)))))
  simp only [wpSteps3,List.getElem?_cons_succ,List.getElem?_cons_zero]
  (repeat (first|((with_reducible refine wpQuiet_nil ?_);(try dsimp only))|refine mQ ?_|go_big_quiet_step (fail)|quiet_step (fail)))
  go_wp2_with (first|(refine mS ?_;clear HM;intro W1 HM))
  refine ⟨⟨⟨_,HM.out.sub msub⟩,rfl⟩,?_⟩
  (try dsimp only)
  go_wp2_with (first|(refine mS ?_;clear HM;intro W1 HM))
  refine ⟨trivial,?_⟩
  (try dsimp only)
  clear HS0 hNE
  go_wp2_with fail
  rw [HP.out]
  exact bodyPost_ret (res_c1_c1 rfl HM.out 2 1 rfl rfl rfl rfl) rfl ⟨none,0,rfl,(HM.out.sub (List.nil_sublist _)).row0 _ _⟩
theorem xParse_any (s:ByteArray) (w:World) (hU:U8 w):Calls Tryz.prog 65 #[.string s] w (NPost (parseF s false) w):=by
 have HA:=Lib.hid (read_any s false w hU)
 unfold NPost at HA
 go_enter Tryz.func65,Tryz.ntmps65
 go_wp2_with (go_at_call 129;(with_reducible refine HA.out.mono ?_);rintro e W2 ⟨p,oc,rfl,hM⟩;have HM:=Lib.hid hM;clear hM)
 go_ret2
 exact ⟨p,oc,rfl,HM.out⟩
end Go.Proofs.YtnghlakllgkjlaaGreatDoor
