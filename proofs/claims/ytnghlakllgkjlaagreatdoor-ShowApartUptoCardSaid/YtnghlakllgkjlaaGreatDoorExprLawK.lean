/- What the laws of expressions share: the same nodes; what is known first. (fast) -/
import Derived.Test.YtnghlakllgkjlaaGreatDoorAllA
import Derived.Test.YtnghlakllgkjlaaGreatDoorLexLaid
import Derived.Test.YtnghlakllgkjlaaGreatDoorNodeAp
namespace Go.Proofs.YtnghlakllgkjlaaGreatDoor
open Go.RowKit
set_option linter.unusedVariables false
set_option linter.unusedSimpArgs false
set_option maxRecDepth 100000
theorem nodes_wf {l:List NodeD} (h:NodesOk l):∀ (i:Nat) (n:NodeD),l[i]? = some n→n.wf:=fun i n hi=>(h n (List.mem_of_getElem? hi)).wf
theorem NPost.none_ {r:List NodeD × Int} {w w' : World} {e:Int} (h:r=([],e)) (hb:Below w.heap.size w w'):NPost r w (.returned (.tuple #[.slice none 0 0,.int .i64 e])) w':=by
 subst h
 exact ⟨none,0,rfl,((Mem.start w).next hb).row0 _ _⟩
set_option maxHeartbeats 4000000 in
theorem rSame_any (p q:Option Addr) (c d:Nat) (l:List NodeD) (w:World) (h1:Sl w p (l.flatMap NodeD.cs)) (h2:Sl w q (l.flatMap NodeD.cs)) (hl:l.length≤4611686018427387904) :
  Calls Tryz.prog 18 #[.slice p l.length c,.slice q l.length d] w fun e w'=>e = .returned (.bool true)∧Below w.heap.size w w':=by
 have HM:=Lib.hid (Mem.start w)
 have H1:=Lib.hid h1
 have H2:=Lib.hid h2
 clear h1 h2
 have b0:((l.length:Int) != l.length)=false:=by simp
 go_enter Tryz.func18,Tryz.ntmps18
 go_wp2_with fail
 go_loopw [5] (fun iv wr=>∃ i:Nat,iv = .int .i64 i∧i≤l.length∧Hid (Mem w wr [])) (fun iv _=>l.length - (intOf iv).toNat)
 case atStart=>exact ⟨0,rfl,by omega,HM⟩
 case round=>
  clear HM
  obtain ⟨i,rfl,hi,HM⟩:=hrel
  by_cases hlt:i < l.length
  ·obtain ⟨b,rfl,hb⟩:=H1.out.some_at NodeD.cs_len (by decide) hlt
   obtain ⟨b',rfl,hb'⟩:=H2.out.some_at NodeD.cs_len (by decide) hlt
   obtain ⟨t,ht⟩:∃ t,l[i]? = some t:=⟨_,List.getElem?_eq_getElem hlt⟩
   obtain ⟨x0,x1,x2,x3,x4,x5,x6,x7⟩:=t
   have E1:=Lib.hid (show Cells w (b.add (i * 8)) [.int .i64 x0,.int .i64 x1,.string x2,.bool x3,.int .u64 x4,.int .u64 x5,.int .i64 x6,.int .i64 x7] from hb.elem NodeD.cs 8 NodeD.cs_len ht)
   have E2:=Lib.hid (show Cells w (b'.add (i * 8)) [.int .i64 x0,.int .i64 x1,.string x2,.bool x3,.int .u64 x4,.int .u64 x5,.int .i64 x6,.int .i64 x7] from hb'.elem NodeD.cs 8 NodeD.cs_len ht)
   have hlt3:=Lib.hid (show i + 1≤l.length from hlt)
   have d1:decide ((i:Int) < l.length)=true:=decide_eq_true (by omega)
   clear hb hb' ht
   go_wp2_with fail
   refine wp_region_mem (by kernel_rfl) (by kernel_rfl) HM.out ?_;intro hNE;(repeat (any_goals (first|((with_reducible refine skip_q ?_ ?_ ?_);(exact rfl);(rotate_left;(exact (hNE.elim fun p=>⟨p.W,p,rfl⟩))))|refine mQ ?_|((with_reducible refine qat 19 ?_);(refine qixa rfl rfl rfl hlt ?_))|((with_reducible refine qat 23 ?_);(refine qixa rfl rfl rfl hlt ?_))|((with_reducible refine qat 20 ?_);(refine qdA (vs:=[.int .i64 x0,.int .i64 x1,.string x2,.bool x3,.int .u64 x4,.int .u64 x5,.int .i64 x6,.int .i64 x7]) rfl rfl (fun W ⟨q,hq⟩=>hq▸q.mem.olds E1.out) ?_))|((with_reducible refine qat 24 ?_);(refine qdA (vs:=[.int .i64 x0,.int .i64 x1,.string x2,.bool x3,.int .u64 x4,.int .u64 x5,.int .i64 x6,.int .i64 x7]) rfl rfl (fun W ⟨q,hq⟩=>hq▸q.mem.olds E2.out) ?_))|go_big_quiet_step (fail)|quiet_step (fail))));clear hNE;refine wpQuiet_nil ?_;intro W1 HM1;replace HM:=Lib.hid HM1;clear HM1
   go_wp2
   go_roundw
   case rel=>exact ⟨i + 1,by go_num,hlt3.out,HM⟩
   case measure=>have:=hlt3.out;simp [intOf];omega
  ·obtain rfl:i=l.length:=by omega
   have d1:decide ((l.length:Int) < l.length)=false:=by simp
   go_wp2
   go_ret
   exact ⟨rfl,HM.out.below⟩
end Go.Proofs.YtnghlakllgkjlaaGreatDoor
