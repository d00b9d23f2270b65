/- Show, the small functions: levels, a piece at a level, a row of pieces, signs, leaves. (short) -/
import Derived.Test.YtnghlakllgkjlaaGreatDoorDecP
import Derived.Test.YtnghlakllgkjlaaGreatDoorSepMac2
import Derived.Test.YtnghlakllgkjlaaGreatDoorReplA
namespace Go.Proofs.YtnghlakllgkjlaaGreatDoor
open Go.RowKit
set_option linter.unusedVariables false
set_option linter.unusedSimpArgs false
set_option maxRecDepth 100000
section
variable {P:Program} {ops:Array Oper} {a:Act} {w0:World} {rest:List Oper} {L:List Res} {K:Act→Prop}
variable {dst:Option Tmp} {ty0:TypeId} {pos:String} {after:Array Edge} {gd:Option (Nat × Bool)}
theorem shqW {ty:TypeId} {n:Nat} [hA:AggT P ty n] {x:Operand} {p:Addr} {vs:List Value} (hv:Cells w0 p vs) (hx:a.eval x = .pointer (some p)) (hn:vs.length=n)
  (h:wpQuiet P ops (fun W=>∃ p:MemW w0 L,W=p.W) K (⟨dst,.move (.const (.agg vs.toArray)),ty0,pos,after,gd⟩ :: rest) a):wpQuiet P ops (fun W=>∃ p:MemW w0 L,W=p.W) K (⟨dst,.load ty x,ty0,pos,after,gd⟩ :: rest) a:=
 qdA hx hn (fun W ⟨q,hq⟩=>by subst hq;exact q.mem.olds hv) h
end
theorem lvlF_none {op:Int} (h:op < 1∨37 < op):lvlF op=7:=by
 unfold lvlF
 repeat (rw [if_neg (by omega)])
theorem shLevel_any (op:Int) (w:World) :
  Calls Tryz.prog 36 #[.int .i64 op] w fun e w'=>e = .returned (.int .i64 (lvlF op))∧w=w':=by
 rcases op_cases op with rfl|rfl|rfl|rfl|rfl|rfl|rfl|rfl|rfl|rfl|rfl|rfl|rfl|rfl|rfl|rfl|rfl|rfl|rfl|rfl|rfl|rfl|rfl|rfl|rfl|rfl|rfl|rfl|rfl|rfl|rfl|rfl|rfl|rfl|rfl|rfl|rfl|h
 all_goals first
  |(go_enter Tryz.func36,Tryz.ntmps36
    go_wp2
    go_ret
    exact ⟨rfl,rfl⟩)
  |(have HN:=Lib.hid (lvlF_none h)
    rcases h with h|h <;>
    (go_enter Tryz.func36,Tryz.ntmps36
     go_wp2
     go_ret
     exact ⟨by rw [HN.out];rfl,rfl⟩))
theorem rshLevel_any (op:Int) (w:World) :
  Calls Tryz.prog 73 #[.int .i64 op] w fun e w'=>e = .returned (.int .i64 (lvlF op))∧w=w':=by
 rcases op_cases op with rfl|rfl|rfl|rfl|rfl|rfl|rfl|rfl|rfl|rfl|rfl|rfl|rfl|rfl|rfl|rfl|rfl|rfl|rfl|rfl|rfl|rfl|rfl|rfl|rfl|rfl|rfl|rfl|rfl|rfl|rfl|rfl|rfl|rfl|rfl|rfl|rfl|h
 all_goals first
  |(go_enter Tryz.func73,Tryz.ntmps73
    go_wp2
    go_ret
    exact ⟨rfl,rfl⟩)
  |(have HN:=Lib.hid (lvlF_none h)
    rcases h with h|h <;>
    (go_enter Tryz.func73,Tryz.ntmps73
     go_wp2
     go_ret
     exact ⟨by rw [HN.out];rfl,rfl⟩))
set_option maxHeartbeats 2000000 in
theorem shAt_any (t:Tx) (k lv:Int) (w:World) (ht:t.length≤1099511627776) :
  Calls Tryz.prog 81 #[.agg #[.string ⟨t.toArray⟩,.int .i64 k],.int .i64 lv] w fun e w'=>e = .returned (.string ⟨(atF t k lv).toArray⟩)∧RowKit.Below w.heap.size w w':=by
 have HM:=Lib.hid (Mem.start w)
 by_cases h:k < lv
 ·have HA:=Lib.hid (atF_high (t:=t) h)
  have d1:decide (k < lv)=true:=decide_eq_true h
  clear h
  go_enter Tryz.func81,Tryz.ntmps81
  go_wp2_with (first|refine mP ?_|((with_reducible refine iat 2 ?_);refine mB ?_;clear HM;intro g2 W1 HM)|((with_reducible refine iat 11 ?_);(refine tcat rfl rfl (by simp;omega) ?_))|((with_reducible refine iat 12 ?_);(refine tcat rfl rfl (by simp;omega) ?_)))
  go_ret
  exact ⟨by rw [HA.out];rfl,HM.out.below⟩
 ·have HA:=Lib.hid (atF_low (t:=t) h)
  have d1:decide (k < lv)=false:=decide_eq_false h
  clear h
  go_enter Tryz.func81,Tryz.ntmps81
  go_wp2_with (first|refine mP ?_|((with_reducible refine iat 2 ?_);refine mB ?_;clear HM;intro g2 W1 HM))
  go_ret
  exact ⟨by rw [HA.out];rfl,HM.out.below⟩
def pcC (p:Tx × Int):List Value:=[.string ⟨p.1.toArray⟩,.int .i64 (lvlF p.2)]
theorem pcC_len (p:Tx × Int):(pcC p).length=2:=rfl
def txC (t:Tx):List Value:=[.string ⟨t.toArray⟩]
theorem txC_len (t:Tx):(txC t).length=1:=rfl
theorem str_flat (l:List Tx):l.flatMap txC=l.map fun t=>Value.string ⟨t.toArray⟩:=by
 induction l with
 | nil=>rfl
 | cons x l ih=>rw [List.flatMap_cons,ih];rfl
theorem row_heap {B cap k n g:Nat} {e:TypeId} {cs:List Value} {W:World} (h:(Res.row (some ⟨g,0,none⟩) cap e k n cs).holds B W):g < W.heap.size:=by
 obtain ⟨hl,⟨h0,_⟩ | ⟨g',cap',cur,hv,hb,hh,hrest⟩⟩:=(h:W.ownsRow _ _ _ _ _ _)
 ·cases h0
 ·simp only [Value.slice.injEq,Option.some.injEq,Addr.mk.injEq] at hv
  obtain ⟨⟨rfl,-⟩,-⟩:=hv
  exact (Array.getElem?_eq_some_iff.1 hh).1
theorem str_cell {B cap n g:Nat} {e:TypeId} {l:List Tx} {W:World} (h:(Res.row (some ⟨g,0,none⟩) cap e 1 n (l.flatMap txC)).holds B W) {j:Nat} {x:ByteArray} (hx:(l.map fun t:Tx=>(⟨t.toArray⟩:ByteArray))[j]? = some x):W.cell? ⟨g,0 + j,none⟩=some (.string x):=by
 rw [List.getElem?_map] at hx
 obtain ⟨t,ht,rfl⟩:=Option.map_eq_some_iff.1 hx
 have h1:=(row_cells h j).2.2 0 (.string ⟨t.toArray⟩) (by rw [List.getElem?_drop,Nat.add_zero,str_flat,List.getElem?_map,ht];rfl)
 rw [Nat.zero_add]
 simpa [Addr.add] using h1
theorem shJoin (g c:Nat) (l:List Tx) (W:World) {B:Nat} {e:TypeId} (h:(Res.row (some ⟨g,0,none⟩) c e 1 l.length (l.flatMap txC)).holds B W) (hb:∀ x ∈ l,x.length≤1000) (hl:l.length≤300) (hc:l.length≤c) :
  Calls Tryz.prog 136 #[.slice (some ⟨g,0,none⟩) l.length c,.string ⟨#[44,32]⟩] W fun e w'=>e = .returned (.string ⟨(rowF l).toArray⟩)∧RowKit.Below W.heap.size W w':=by
 have e1:((l.map fun t:Tx=>(⟨t.toArray⟩:ByteArray)).map fun s:ByteArray=>s.data.toList)=l:=by
  rw [List.map_map]
  exact (List.map_congr_left fun t _=>rfl).trans (List.map_id _)
 have h1:=Tryz.strings_Join g 0 c (l.map fun t:Tx=>(⟨t.toArray⟩:ByteArray)) ⟨#[44,32]⟩ W (fun j x hx=>str_cell h hx) (row_heap h) (by rw [List.length_map];omega) (by rw [List.length_map];exact hc) (by
  rw [e1]
  have:=rowF_bd (m:=1000) hb
  show (rowF l).length≤_
  have:(1000 + 2) * l.length≤(1000 + 2) * 300:=Nat.mul_le_mul_left _ hl
  omega)
 rw [e1,List.length_map] at h1
 exact h1
theorem set_str {l:List Tx} {i n:Nat} {x:Tx} (h:l[i]? = some x) (hn:i < n):((l.take i).flatMap txC++List.replicate (n - i) (Value.string ⟨#[]⟩)).set i (Value.string ⟨x.toArray⟩)=(l.take (i + 1)).flatMap txC++List.replicate (n - (i + 1)) (Value.string ⟨#[]⟩):=by
 have hi:i < l.length:=(List.getElem?_eq_some_iff.1 h).1
 have hl:((l.take i).flatMap txC).length=i:=by rw [flat_len txC 1 txC_len,List.length_take];omega
 obtain ⟨m,hm⟩:∃ m,n - i=m + 1:=⟨n - i - 1,by omega⟩
 rw [List.set_append_right _ _ (by omega),hl,Nat.sub_self,hm,List.replicate_succ,List.set_cons_zero,List.take_add_one,h,List.flatMap_append,show n - (i + 1)=m by omega,List.append_assoc]
 rfl
set_option maxHeartbeats 8000000 in
theorem shRow_any (p:Option Addr) (c:Nat) (ps:List (Tx × Int)) (w:World) (hS:Sl w p (ps.flatMap pcC)) (hb:∀ x ∈ ps,x.1.length≤1000) (hl:ps.length≤300) :
  Calls Tryz.prog 82 #[.slice p ps.length c] w fun e w'=>e = .returned (.string ⟨(rowF (ps.map (·.1))).toArray⟩)∧RowKit.Below w.heap.size w w':=by
 have HM:=Lib.hid (Mem.start w)
 have HS:=Lib.hid hS
 have HB:=Lib.hid hb
 clear hS hb
 go_enter Tryz.func82,Tryz.ntmps82
 go_wp2_with (first|(refine mks (n:=ps.length) rfl HM.out rfl rfl rfl rfl rfl (by omega) (by omega) ?_;intro gd W1 HM1;replace HM:=Lib.hid HM1;clear HM1))
 go_loopw [11] (fun iv wr=>∃ i:Nat,iv = .int .i64 i∧i≤ps.length∧Hid (Mem w wr [.row (some ⟨gd,0,none⟩) ps.length 9 1 ps.length (((ps.map (·.1)).take i).flatMap txC++List.replicate (ps.length - i) (.string ⟨#[]⟩))])) (fun iv _=>ps.length - (intOf iv).toNat)
 case atStart=>exact ⟨0,rfl,by omega,HM⟩
 case round=>
  clear HM
  obtain ⟨i,rfl,hi,HM⟩:=hrel
  by_cases hlt:i < ps.length
  ·obtain ⟨b,rfl,hb⟩:=HS.out.some_at pcC_len (by decide) hlt
   obtain ⟨x,hx⟩:∃ x,ps[i]? = some x:=⟨_,List.getElem?_eq_getElem hlt⟩
   have HSt:=Lib.hid (set_str (l:=ps.map (·.1)) (n:=ps.length) (x:=x.1) (by rw [List.getElem?_map,hx];rfl) hlt)
   have HE:=Lib.hid (show Cells w (b.add (i * 2)) [.string ⟨x.1.toArray⟩,.int .i64 (lvlF x.2)] from hb.elem pcC 2 pcC_len hx)
   have d1:decide ((i:Int) < ps.length)=true:=decide_eq_true (by omega)
   obtain ⟨t,o⟩:=x
   dsimp only at HSt HE
   have hlen:(((ps.map (·.1)).take i).flatMap txC++List.replicate (ps.length - i) (Value.string ⟨#[]⟩)).length=ps.length:=by
    rw [List.length_append,flat_len txC 1 txC_len,List.length_take,List.length_map,List.length_replicate];omega
   generalize ((ps.map (·.1)).take i).flatMap txC++List.replicate (ps.length - i) (Value.string ⟨#[]⟩)=cur at *
   clear hx hb
   go_wp2_with (first|((with_reducible refine iat 14 ?_);(refine ixa rfl rfl rfl hlt ?_))|((with_reducible refine iat 15 ?_);(refine ldxW (HM.out.olds HE.out) rfl rfl ?_))|((with_reducible refine iat 20 ?_);(refine ixa rfl rfl rfl hlt ?_))|(refine strw (i:=i * 1) (v:=.string _) rfl HM.out 1 rfl rfl rfl rfl (by omega) ?_;intro W1 HM1;replace HM:=Lib.hid HM1;clear HM1;simp only [List.set] at HM)|refine mP ?_|(refine mS ?_;clear HM;intro W1 HM)|(refine hal (dst:=some 5) HM rfl ?_;clear HM;intro g5 W1 HM))
   rw [Nat.mul_one,HSt.out] at HM
   go_roundw
   case rel=>exact ⟨i + 1,by go_num,by omega,Lib.hid (HM.out.sub msub)⟩
   case measure=>simp [intOf];omega
  ·obtain rfl:i=ps.length:=by omega
   have d1:decide ((ps.length:Int) < ps.length)=false:=by simp
   have HJ:=Lib.hid (fun W (h:(Res.row (some ⟨gd,0,none⟩) ps.length 9 1 ps.length ((ps.map (·.1)).flatMap txC)).holds w.heap.size W)=>(show Calls Tryz.prog 136 #[.slice (some ⟨gd,0,none⟩) ps.length ps.length,.string ⟨#[44,32]⟩] W fun e w'=>e = .returned (.string ⟨(rowF (ps.map (·.1))).toArray⟩)∧RowKit.Below W.heap.size W w' from by
    have h1:=shJoin gd ps.length (ps.map (·.1)) W (by rw [List.length_map];exact h) (fun x hx=>by obtain ⟨y,hy,rfl⟩:=List.mem_map.1 hx;exact HB.out y hy) (by rw [List.length_map];exact hl) (by rw [List.length_map];exact Nat.le_refl _)
    rw [List.length_map] at h1
    exact h1))
   have e:((ps.map (·.1)).take ps.length).flatMap txC++List.replicate (ps.length - ps.length) (Value.string ⟨#[]⟩)=(ps.map (·.1)).flatMap txC:=by
    rw [List.take_of_length_le (by simp),Nat.sub_self];simp
   rw [e] at HM
   go_wp2_with (first|(go_at_call 136;(with_reducible refine cB HM (HJ.out _ (HM.out.get (k:=0) rfl)) ?_);clear HM;intro W1 HM))
   go_ret
   exact ⟨rfl,HM.out.below⟩
theorem shBetween_any (op:Int) (w:World) (h:9≤op∧op≤20) :
  Calls Tryz.prog 84 #[.int .i64 op] w fun e w'=>e = .returned (.tuple #[.string ⟨(signF op).toArray⟩,.int .i64 (askF op 0),.int .i64 (askF op 1)])∧w=w':=by
 have h:op=9∨op=10∨op=11∨op=12∨op=13∨op=14∨op=15∨op=16∨op=17∨op=18∨op=19∨op=20:=by omega
 have q0:=fun W:World=>(show (Instr.index 169 (.agg #[.string ⟨#[61]⟩,.string ⟨#[33,61]⟩,.string ⟨#[60]⟩,.string ⟨#[60,61]⟩,.string ⟨#[62]⟩,.string ⟨#[62,61]⟩]) (.int .i64 0)).run Tryz.prog W = .ok (.string ⟨#[61]⟩) W from by kernel_rfl)
 have q1:=fun W:World=>(show (Instr.index 169 (.agg #[.string ⟨#[61]⟩,.string ⟨#[33,61]⟩,.string ⟨#[60]⟩,.string ⟨#[60,61]⟩,.string ⟨#[62]⟩,.string ⟨#[62,61]⟩]) (.int .i64 1)).run Tryz.prog W = .ok (.string ⟨#[33,61]⟩) W from by kernel_rfl)
 have q2:=fun W:World=>(show (Instr.index 169 (.agg #[.string ⟨#[61]⟩,.string ⟨#[33,61]⟩,.string ⟨#[60]⟩,.string ⟨#[60,61]⟩,.string ⟨#[62]⟩,.string ⟨#[62,61]⟩]) (.int .i64 2)).run Tryz.prog W = .ok (.string ⟨#[60]⟩) W from by kernel_rfl)
 have q3:=fun W:World=>(show (Instr.index 169 (.agg #[.string ⟨#[61]⟩,.string ⟨#[33,61]⟩,.string ⟨#[60]⟩,.string ⟨#[60,61]⟩,.string ⟨#[62]⟩,.string ⟨#[62,61]⟩]) (.int .i64 3)).run Tryz.prog W = .ok (.string ⟨#[60,61]⟩) W from by kernel_rfl)
 have q4:=fun W:World=>(show (Instr.index 169 (.agg #[.string ⟨#[61]⟩,.string ⟨#[33,61]⟩,.string ⟨#[60]⟩,.string ⟨#[60,61]⟩,.string ⟨#[62]⟩,.string ⟨#[62,61]⟩]) (.int .i64 4)).run Tryz.prog W = .ok (.string ⟨#[62]⟩) W from by kernel_rfl)
 have q5:=fun W:World=>(show (Instr.index 169 (.agg #[.string ⟨#[61]⟩,.string ⟨#[33,61]⟩,.string ⟨#[60]⟩,.string ⟨#[60,61]⟩,.string ⟨#[62]⟩,.string ⟨#[62,61]⟩]) (.int .i64 5)).run Tryz.prog W = .ok (.string ⟨#[62,61]⟩) W from by kernel_rfl)
 rcases h with rfl|rfl|rfl|rfl|rfl|rfl|rfl|rfl|rfl|rfl|rfl|rfl
 all_goals
  go_enter Tryz.func84,Tryz.ntmps84
  go_wp2
  go_ret3
  exact ⟨rfl,rfl⟩
end Go.Proofs.YtnghlakllgkjlaaGreatDoor
