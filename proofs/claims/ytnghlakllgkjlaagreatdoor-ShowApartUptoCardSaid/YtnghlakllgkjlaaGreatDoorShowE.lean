/- Show's reference, the small functions: asked, word, join. (short) -/
import Derived.Test.YtnghlakllgkjlaaGreatDoorShowLeaf
namespace Go.Proofs.YtnghlakllgkjlaaGreatDoor
open Go.RowKit
set_option linter.unusedVariables false
set_option linter.unusedSimpArgs false
set_option maxRecDepth 100000
theorem askF_none {op:Int} {i:Nat} (h:op < 1∨37 < op):askF op i=0:=by
 unfold askF
 repeat (rw [if_neg (by omega)])
set_option maxHeartbeats 4000000 in
theorem rshAsked_any (op:Int) (i:Nat) (w:World) (hi:i≤1000) :
  Calls Tryz.prog 74 #[.int .i64 op,.int .i64 i] w fun e w'=>e = .returned (.int .i64 (askF op i))∧w=w':=by
 rcases op_cases op with rfl|rfl|rfl|rfl|rfl|rfl|rfl|rfl|rfl|rfl|rfl|rfl|rfl|rfl|rfl|rfl|rfl|rfl|rfl|rfl|rfl|rfl|rfl|rfl|rfl|rfl|rfl|rfl|rfl|rfl|rfl|rfl|rfl|rfl|rfl|rfl|rfl|h
 all_goals first
  |(go_enter Tryz.func74,Tryz.ntmps74
    go_wp2
    go_ret
    exact ⟨rfl,rfl⟩)
  |(have HN:=Lib.hid (askF_none (i:=i) h)
    rcases h with h|h <;>
    (go_enter Tryz.func74,Tryz.ntmps74
     go_wp2
     go_ret
     exact ⟨by rw [HN.out];rfl,rfl⟩))
set_option maxHeartbeats 4000000 in
theorem rshWord_any (op:Int) (w:World) :
  Calls Tryz.prog 132 #[.int .i64 op] w fun e w'=>e = .returned (.string ⟨(signF op).toArray⟩)∧w=w':=by
 rcases op_cases op with rfl|rfl|rfl|rfl|rfl|rfl|rfl|rfl|rfl|rfl|rfl|rfl|rfl|rfl|rfl|rfl|rfl|rfl|rfl|rfl|rfl|rfl|rfl|rfl|rfl|rfl|rfl|rfl|rfl|rfl|rfl|rfl|rfl|rfl|rfl|rfl|rfl|h
 all_goals first
  |(go_enter Tryz.func132,Tryz.ntmps132
    go_wp2
    go_ret
    exact ⟨rfl,rfl⟩)
  |(have HN:=Lib.hid (signF_none h)
    rcases h with h|h <;>
    (go_enter Tryz.func132,Tryz.ntmps132
     go_wp2
     go_ret
     exact ⟨by rw [HN.out];rfl,rfl⟩))
theorem rowF_bd2 {l:List Tx} (hb:∀ x ∈ l,x.length≤1002) (hl:l.length≤300) (k:Nat):(rowF (l.take k)).length≤301200:=by
 have h1:=rowF_bd (m:=1002) (l:=l.take k) (fun x hx=>hb x (List.mem_of_mem_take hx))
 have h2:(1002 + 2) * (l.take k).length≤(1002 + 2) * 300:=Nat.mul_le_mul_left _ (by rw [List.length_take];omega)
 omega
set_option maxHeartbeats 8000000 in
theorem rshJoin_any (p:Option Addr) (c:Nat) (l:List Tx) (w:World) (hS:Sl w p (l.flatMap txC)) (hb:∀ x ∈ l,x.length≤1002) (hl:l.length≤300) :
  Calls Tryz.prog 131 #[.slice p l.length c] w fun e w'=>e = .returned (.string ⟨(rowF l).toArray⟩)∧RowKit.Below w.heap.size w w':=by
 have HM:=Lib.hid (Mem.start w)
 have HS:=Lib.hid hS
 have HB:=Lib.hid hb
 have HL:=Lib.hid (rowF_bd2 hb hl)
 clear hS hb
 go_enter Tryz.func131,Tryz.ntmps131
 go_wp2_with fail
 go_loopw [3,4] (fun sv iv wr=>∃ i:Nat,sv = .string ⟨(rowF (l.take i)).toArray⟩∧iv = .int .i64 i∧i≤l.length∧Hid (Mem w wr [])) (fun _ iv _=>l.length - (intOf iv).toNat)
 case atStart=>exact ⟨0,rfl,rfl,by omega,HM⟩
 case round=>
  clear HM
  obtain ⟨i,rfl,rfl,hi,HM⟩:=hrel
  by_cases hlt:i < l.length
  ·obtain ⟨b,rfl,hb⟩:=HS.out.some_at txC_len (by decide) hlt
   obtain ⟨x,hx⟩:∃ x,l[i]? = some x:=⟨_,List.getElem?_eq_getElem hlt⟩
   have HE:=Lib.hid (show Cells w (b.add (i * 1)) [.string ⟨x.toArray⟩] from hb.elem txC 1 txC_len hx)
   have hxl:=HB.out x (List.mem_of_getElem? hx)
   have d1:decide ((i:Int) < l.length)=true:=decide_eq_true (by omega)
   have hrl:=HL.out i
   by_cases h0:i=0
   ·subst h0
    have HR:=Lib.hid (show rowF (l.take (0 + 1))=x from (rowF_take hx).trans (if_pos rfl))
    have d2:decide ((0:Int) < ((0:Nat):Int))=false:=by simp
    have e0:rowF (l.take 0)=[]:=rfl
    rw [e0]
    clear hx hb
    go_wp2_with (first|((with_reducible refine iat 18 ?_);(refine ixa rfl rfl rfl hlt ?_))|((with_reducible refine iat 19 ?_);(refine ldx0 (HM.out.olds HE.out) rfl rfl ?_))|((with_reducible refine iat 20 ?_);(refine tcat rfl rfl (by simp;omega) ?_)))
    go_roundw
    case rel=>exact ⟨0 + 1,by rw [HR.out];rfl,by go_num,by omega,HM⟩
    case measure=>simp [intOf];omega
   ·have HR:=Lib.hid (show rowF (l.take (i + 1))=rowF (l.take i)++[44,32]++x from (rowF_take hx).trans (if_neg h0))
    have d2:decide ((0:Int) < (i:Int))=true:=decide_eq_true (by omega)
    generalize rowF (l.take i)=s at *
    clear hx hb
    go_wp2_with (first|((with_reducible refine iat 14 ?_);(refine tcat rfl rfl (by simp;omega) ?_))|((with_reducible refine iat 18 ?_);(refine ixa rfl rfl rfl hlt ?_))|((with_reducible refine iat 19 ?_);(refine ldx0 (HM.out.olds HE.out) rfl rfl ?_))|((with_reducible refine iat 20 ?_);(refine tcat rfl rfl (by simp;omega) ?_)))
    go_roundw
    case rel=>exact ⟨i + 1,by rw [HR.out],by go_num,by omega,HM⟩
    case measure=>simp [intOf];omega
  ·obtain rfl:i=l.length:=by omega
   have d1:decide ((l.length:Int) < l.length)=false:=by simp
   have HE:=Lib.hid (show rowF (l.take l.length)=rowF l by rw [List.take_length])
   generalize rowF (l.take l.length)=s at *
   go_wp2_with fail
   go_ret
   exact ⟨by rw [HE.out];rfl,HM.out.below⟩
end Go.Proofs.YtnghlakllgkjlaaGreatDoor
